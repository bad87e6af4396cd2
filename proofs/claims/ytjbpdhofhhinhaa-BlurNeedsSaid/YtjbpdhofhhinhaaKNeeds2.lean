/- BlurNeeds: what its code does, walked. -/
import Derived.Test.YtjbpdhofhhinhaaKNeeds1
namespace Go.Proofs.Ytjbpdhofhhinhaa.C
open Go Go.RowKit Sx
set_option linter.unusedVariables false
set_option maxRecDepth 100000 in
set_option maxHeartbeats 1000000 in
theorem made (W H : Nat) (fid : FuncId) (caps : Array Value) (g : Nat → Nat → Int) (w : World) (hf : Fn2 Try.prog w fid caps W H g) (hW : W ≤ 1024) (hH : H ≤ 1024) (hWH : W * H ≤ 65536) :
    Calls Try.prog 62 #[(.agg #[(.int .i64 ((W : Int))), (.int .i64 ((H : Int))), (.func (.func fid) #[] caps)])] w (Ret w (fun _ : Nat => True) (fun b => .agg #[.int .i64 W, .int .i64 H, .slice (some ⟨b, 0, none⟩) (W * H) (W * H)]) (fun b => [⟨b, (tab W g (W * H)).map u32, 63, true⟩])) := by
  refine enter (M := None) (L := []) (n := 40) (l := [(0, (.agg #[(.int .i64 ((W : Int))), (.int .i64 ((H : Int))), (.func (.func fid) #[] caps)]))]) Try.func62 rfl rfl (Args.cons rfl (Args.nil _)) (Hp.start _ _) ?_
  refine GC.seq ?_
  refine GC.region ?_
  refine GL.step (Stp.box (cs := [(.int .i64 ((W : Int))), (.int .i64 ((H : Int))), (.func (.func fid) #[] caps)]) rfl rfl (by decide)) (fun bq1 _ => ?_)
  refine GL.step (Stp.alloc T.zr43 (by decide)) (fun bq2 _ => ?_)
  refine GL.nil ?_
  refine GE.thenN ?_
  refine GC.seq ?_
  refine GC.drawP [⟨bq2, [(.int .i64 0), (.int .i64 0), (.slice none 0 0)], 43, true⟩, ⟨bq1, [(.int .i64 ((W : Int))), (.int .i64 ((H : Int))), (.func (.func fid) #[] caps)], 103, true⟩] T.mixed (by kernel_rfl) (by kernel_rfl) (fuel := 12) rfl rfl ?_
  refine GH.take 0 (v := (.pointer (some ⟨bq1, 0, none⟩))) rfl (by kernel_rfl) (by kernel_rfl) (by kernel_rfl) (fun _ _ _ h => h) (Ex.cast (Ex.fieldAddr rfl Try.underlying103 rfl T.sz3 (by decide)) rfl) (ulC (ulC ulN)) (by decide) ?_
  refine GH.take 1 (v := (.int .i64 ((W : Int)))) rfl (by kernel_rfl) (by kernel_rfl) (by kernel_rfl) (fun _ _ _ h => h) (Ex.load rfl T.ag3 (i := 1) rfl rfl) (ulC (ulC ulN)) (by decide) ?_
  refine GH.take 2 (v := (.pointer (some ⟨bq1, 1, none⟩))) rfl (by kernel_rfl) (by kernel_rfl) (by kernel_rfl) (fun _ _ _ h => h) (Ex.cast (Ex.fieldAddr rfl Try.underlying103 rfl T.sz3 (by decide)) rfl) (ulC (ulC ulN)) (by decide) ?_
  refine GH.take 3 (v := (.int .i64 ((H : Int)))) rfl (by kernel_rfl) (by kernel_rfl) (by kernel_rfl) (fun _ _ _ h => h) (Ex.load rfl T.ag3 (i := 1) rfl rfl) (ulC (ulC ulN)) (by decide) ?_
  refine GH.take 4 (v := (.pointer (some ⟨bq1, 0, none⟩))) rfl (by kernel_rfl) (by kernel_rfl) (by kernel_rfl) (fun _ _ _ h => h) (Ex.cast (Ex.fieldAddr rfl Try.underlying103 rfl T.sz3 (by decide)) rfl) (ulC (ulC ulN)) (by decide) ?_
  refine GH.take 5 (v := (.int .i64 ((W : Int)))) rfl (by kernel_rfl) (by kernel_rfl) (by kernel_rfl) (fun _ _ _ h => h) (Ex.load rfl T.ag3 (i := 1) rfl rfl) (ulC (ulC ulN)) (by decide) ?_
  refine GH.take 6 (v := (.pointer (some ⟨bq1, 1, none⟩))) rfl (by kernel_rfl) (by kernel_rfl) (by kernel_rfl) (fun _ _ _ h => h) (Ex.cast (Ex.fieldAddr rfl Try.underlying103 rfl T.sz3 (by decide)) rfl) (ulC (ulC ulN)) (by decide) ?_
  refine GH.take 7 (v := (.int .i64 ((H : Int)))) rfl (by kernel_rfl) (by kernel_rfl) (by kernel_rfl) (fun _ _ _ h => h) (Ex.load rfl T.ag3 (i := 1) rfl rfl) (ulC (ulC ulN)) (by decide) ?_
  refine GH.take 8 (v := (.int .i64 (((W * H : Nat) : Int)))) rfl (by kernel_rfl) (by kernel_rfl) (by kernel_rfl) (fun _ _ _ h => h) (Ex.mul rfl rfl (Z := ((W * H : Nat) : Int)) (by rw [w64 (by have := Int.natCast_mul W H; omega)]; exact (Int.natCast_mul W H).symm)) (ulC (ulC ulN)) (by decide) ?_
  refine GH.many (rs := [9, 11]) (by kernel_rfl) (by simp) ?_
  refine GHs.cons rfl (Stp.makeSlice (a1 := 0) (c := W * H) rfl rfl Try.underlying41 T.zr63 T.sz63 T.by63 rfl (by omega) (by omega) (by omega) (by decide)) (fun _ => (ulS (ulC (ulC ulN)))) (fun bq3 _ => ?_) ?_
  · refine GH.take 10 (v := (.agg #[(.int .i64 ((W : Int))), (.int .i64 ((H : Int))), (.slice (some ⟨bq3, 0, none⟩) 0 (W * H))])) rfl (by kernel_rfl) (by kernel_rfl) (by kernel_rfl) (fun _ _ _ h => h) (Ex.build (vs := [(0, (.int .i64 ((W : Int)))), (1, (.int .i64 ((H : Int)))), (2, (.slice (some ⟨bq3, 0, none⟩) 0 (W * H)))]) rfl (by first | rfl | kernel_rfl)) (ulS (ulC (ulC ulN))) (by decide) ?_
    refine GH.one 11 rfl (by kernel_rfl) (Stp.alloc T.zr43 (by decide)) (fun _ => (ulS (ulS (ulC (ulC ulN))))) (fun bq4 _ => ?_)
    refine GH.done (by kernel_rfl) ?_
    refine GE.thenN ?_
    refine GE.tail rfl (Stp.st0 (cs' := [(.int .i64 ((W : Int))), (.int .i64 ((H : Int))), (.slice (some ⟨bq3, 0, none⟩) 0 (W * H))]) rfl rfl rfl T.sz43 rfl rfl rfl) (fun _ _ => ?_)
    refine GE.thenN ?_
    refine GC.seq ?_
    refine GC.seq ?_
    rw [madeCells_one, ← cur_zero W g (W * H)]
    refine GC.region ?_
    refine GL.val (v := (.pointer (some ⟨bq1, 1, none⟩))) (Ex.cast (Ex.fieldAddr rfl Try.underlying103 rfl T.sz3 (by decide)) rfl) (by decide) ?_
    refine GL.val (Ex.load rfl T.ag3 (i := 3) rfl rfl) (by decide) ?_
    refine GL.val (Ex.move rfl) (by decide) ?_
    refine GL.nil ?_
    refine GE.thenN ?_
    refine GC.block ?_
    refine GC.loop (σ := Nat) (fun y => y ≤ H) (fun y => [(1, (.pointer (some ⟨bq1, 0, none⟩))), (2, (.pointer (some ⟨bq2, 0, none⟩))), (3, (.pointer (some ⟨bq4, 0, none⟩))), (18, (.int .i64 ((H : Int)))), (19, (.int .i64 (((y : Nat) : Int))))]) (fun y => [⟨bq4, [(.int .i64 ((W : Int))), (.int .i64 ((H : Int))), (.slice (some ⟨bq3, 0, none⟩) (W * y) (W * H))], 43, true⟩, ⟨bq3, cur W g (W * H) (W * y), 63, true⟩, ⟨bq2, [(.int .i64 0), (.int .i64 0), (.slice none 0 0)], 43, true⟩, ⟨bq1, [(.int .i64 ((W : Int))), (.int .i64 ((H : Int))), (.func (.func fid) #[] caps)], 103, true⟩]) (fun y => H - y) (0) (Nat.zero_le _) ((sub_cons rfl ((sub_cons rfl ((sub_cons rfl ((sub_cons rfl ((sub_cons rfl ((sub_nil _)))))))))))) (ulC (ulC (ulC (ulC ulN)))) (fun y hp => ?_)
    refine GC.seq ?_
    refine GC.region ?_
    refine GL.val (v := (.bool (decide ((((y : Nat) : Int)) < ((H : Int)))))) (Ex.lss rfl rfl) (by decide) ?_
    refine GL.nil ?_
    refine GE.thenN ?_
    refine GC.seq ?_
    refine GC.cond rfl (fun hq5 => ?_) (fun hq5 => ?_)
    · replace hq5 := of_decide_eq_true hq5
      refine GC.skip ?_
      refine GE.thenN ?_
      refine GC.seq ?_
      refine GC.block ?_
      refine GC.seq ?_
      refine GC.region ?_
      refine GL.val (Ex.move rfl) (by decide) ?_
      refine GL.val (Ex.assign rfl) (by decide) ?_
      refine GL.nil ?_
      refine GE.thenN ?_
      refine GC.seq ?_
      refine GC.region ?_
      refine GL.val (v := (.pointer (some ⟨bq1, 0, none⟩))) (Ex.cast (Ex.fieldAddr rfl Try.underlying103 rfl T.sz3 (by decide)) rfl) (by decide) ?_
      refine GL.val (Ex.load rfl T.ag3 (i := 3) rfl rfl) (by decide) ?_
      refine GL.val (Ex.move rfl) (by decide) ?_
      refine GL.nil ?_
      refine GE.thenN ?_
      refine GC.block ?_
      refine GC.loop (σ := Nat) (fun x => x ≤ W) (fun x => [(1, (.pointer (some ⟨bq1, 0, none⟩))), (2, (.pointer (some ⟨bq2, 0, none⟩))), (3, (.pointer (some ⟨bq4, 0, none⟩))), (18, (.int .i64 ((H : Int)))), (19, (.int .i64 (((y : Nat) : Int)))), (4, (.int .i64 (((y : Nat) : Int)))), (23, (.int .i64 ((W : Int)))), (24, (.int .i64 (((x : Nat) : Int))))]) (fun x => [⟨bq4, [(.int .i64 ((W : Int))), (.int .i64 ((H : Int))), (.slice (some ⟨bq3, 0, none⟩) (W * y + x) (W * H))], 43, true⟩, ⟨bq3, cur W g (W * H) (W * y + x), 63, true⟩, ⟨bq2, [(.int .i64 0), (.int .i64 0), (.slice none 0 0)], 43, true⟩, ⟨bq1, [(.int .i64 ((W : Int))), (.int .i64 ((H : Int))), (.func (.func fid) #[] caps)], 103, true⟩]) (fun x => W - x) (0) (Nat.zero_le _) ((sub_cons rfl ((sub_cons rfl ((sub_cons rfl ((sub_cons rfl ((sub_cons rfl ((sub_cons rfl ((sub_cons rfl ((sub_cons rfl ((sub_nil _)))))))))))))))))) (ulC (ulC (ulC (ulC ulN)))) (fun x hp => ?_)
      refine GC.seq ?_
      refine GC.region ?_
      refine GL.val (v := (.bool (decide ((((x : Nat) : Int)) < ((W : Int)))))) (Ex.lss rfl rfl) (by decide) ?_
      refine GL.nil ?_
      refine GE.thenN ?_
      refine GC.seq ?_
      refine GC.cond rfl (fun hq6 => ?_) (fun hq6 => ?_)
      · replace hq6 := of_decide_eq_true hq6
        have hxy := place_lt (H := H) (by omega : x < W) (by omega : y < H)
        have hp := at_place (W := W) (y := y) (by omega : x < W)
        have hap := cur_app W g (W * H) (W * y + x) (g x y) hxy (by rw [hp.1, hp.2])
        rw [Nat.add_assoc] at hap
        refine GC.skip ?_
        refine GE.thenN ?_
        refine GC.seq ?_
        refine GC.block ?_
        refine GC.seq ?_
        refine GC.region ?_
        refine GL.val (Ex.move rfl) (by decide) ?_
        refine GL.val (Ex.assign rfl) (by decide) ?_
        refine GL.nil ?_
        refine GE.thenN ?_
        refine GC.drawP [⟨bq4, [(.int .i64 ((W : Int))), (.int .i64 ((H : Int))), (.slice (some ⟨bq3, 0, none⟩) (W * y + x) (W * H))], 43, true⟩, ⟨bq2, [(.int .i64 0), (.int .i64 0), (.slice none 0 0)], 43, true⟩, ⟨bq1, [(.int .i64 ((W : Int))), (.int .i64 ((H : Int))), (.func (.func fid) #[] caps)], 103, true⟩] T.mixed (by kernel_rfl) (by kernel_rfl) (fuel := 10) rfl rfl ?_
        refine GH.take 0 (v := (.pointer (some ⟨bq4, 2, none⟩))) rfl (by kernel_rfl) (by kernel_rfl) (by kernel_rfl) (fun _ _ _ h => h) (Ex.cast (Ex.fieldAddr rfl Try.underlying43 rfl T.sz41 (by decide)) rfl) (ulC (ulS (ulC (ulC ulN)))) (by decide) ?_
        refine GH.take 1 (v := (.slice (some ⟨bq3, 0, none⟩) (W * y + x) (W * H))) rfl (by kernel_rfl) (by kernel_rfl) (by kernel_rfl) (fun _ _ _ h => h) (Ex.load rfl T.ag41 (i := 0) rfl rfl) (ulC (ulS (ulC (ulC ulN)))) (by decide) ?_
        refine GH.take 2 (v := (.pointer (some ⟨bq1, 2, none⟩))) rfl (by kernel_rfl) (by kernel_rfl) (by kernel_rfl) (fun _ _ _ h => h) (Ex.cast (Ex.fieldAddr rfl Try.underlying103 rfl T.sz101 (by decide)) rfl) (ulC (ulS (ulC (ulC ulN)))) (by decide) ?_
        refine GH.take 3 (v := (.func (.func fid) #[] caps)) rfl (by kernel_rfl) (by kernel_rfl) (by kernel_rfl) (fun _ _ _ h => h) (Ex.load rfl T.ag101 (i := 2) rfl rfl) (ulC (ulS (ulC (ulC ulN)))) (by decide) ?_
        refine GH.take 4 (v := (.int .i64 (((x : Nat) : Int)))) rfl (by kernel_rfl) (by kernel_rfl) (by kernel_rfl) (fun _ _ _ h => h) (Ex.move rfl) (ulC (ulS (ulC (ulC ulN)))) (by decide) ?_
        refine GH.take 5 (v := (.int .i64 (((y : Nat) : Int)))) rfl (by kernel_rfl) (by kernel_rfl) (by kernel_rfl) (fun _ _ _ h => h) (Ex.move rfl) (ulC (ulS (ulC (ulC ulN)))) (by decide) ?_
        refine GH.one 6 rfl (by kernel_rfl) (Stp.callR (vs := [(.int .i64 (((x : Nat) : Int))), (.int .i64 (((y : Nat) : Int)))]) rfl rfl hf.1 (by decide) (fun wc hw => hf.2 x y (by omega) (by omega) wc hw.1)) (fun _ => (ulC (ulS (ulC (ulC ulN))))) (fun xq7 hq8 => ?_)
        refine GH.one 7 rfl (by kernel_rfl) (Stp.buildSlice (cs := [(.int .u32 ((g x y)))]) (vs := [(0, (.int .u32 ((g x y))))]) Try.underlying41 T.zr63 T.sz63 rfl (by decide) (by decide) (by first | rfl | kernel_rfl) (by decide)) (fun _ => (ulS (ulC (ulS (ulC (ulC ulN)))))) (fun bq9 _ => ?_)
        refine GH.one 8 rfl (by kernel_rfl) (Stp.appendFits (i := 2) (vs := [.int .u32 (g x y)]) (L1 := [⟨bq9, [(.int .u32 ((g x y)))], 63, true⟩, ⟨bq4, [(.int .i64 ((W : Int))), (.int .i64 ((H : Int))), (.slice (some ⟨bq3, 0, none⟩) (W * y + x) (W * H))], 43, true⟩, ⟨bq3, cur W g (W * H) (W * y + (x + 1)), 63, true⟩, ⟨bq2, [(.int .i64 0), (.int .i64 0), (.slice none 0 0)], 43, true⟩, ⟨bq1, [(.int .i64 ((W : Int))), (.int .i64 ((H : Int))), (.func (.func fid) #[] caps)], 103, true⟩]) rfl rfl Try.underlying41 T.sz63 rfl (fun w hw => hw.rdOf (i := 0) rfl 0) rfl rfl (len' := W * y + (x + 1)) rfl (by omega) (by rw [cur_len _ _ _ _ (by omega)]; simp; omega) (by rw [hap]; rfl) (by decide)) (fun _ => (ulS (ulC (ulS (ulC (ulC ulN)))))) (fun _ _ => ?_)
        refine GH.take 9 (v := (.pointer (some ⟨bq4, 2, none⟩))) rfl (by kernel_rfl) (by kernel_rfl) (by kernel_rfl) (fun _ _ _ h => h) (Ex.cast (Ex.fieldAddr rfl Try.underlying43 rfl T.sz41 (by decide)) rfl) (ulS (ulC (ulS (ulC (ulC ulN))))) (by decide) ?_
        refine GH.done (by kernel_rfl) ?_
        refine GE.thenN ?_
        refine GE.tail rfl (Stp.st1 (cs' := [(.int .i64 ((W : Int))), (.int .i64 ((H : Int))), (.slice (some ⟨bq3, 0, none⟩) (W * y + (x + 1)) (W * H))]) rfl rfl rfl T.sz41 rfl rfl rfl) (fun _ _ => ?_)
        refine GE.blockN ?_
        refine GE.thenN ?_
        refine GC.region ?_
        refine GL.val (v := (.int .i64 (((x + 1 : Nat) : Int)))) (Ex.add rfl rfl (Z := ((x + 1 : Nat) : Int)) (w64 (by omega))) (by decide) ?_
        refine GL.val (Ex.move rfl) (by decide) ?_
        refine GL.nil ?_
        refine GE.thenN ?_
        exact Head.mk (x + 1) (by omega) (by omega) ((sub_cons rfl ((sub_cons rfl ((sub_cons rfl ((sub_cons rfl ((sub_cons rfl ((sub_cons rfl ((sub_cons rfl ((sub_cons rfl ((sub_nil _)))))))))))))))))) (ulS (ulC (ulC (ulC (ulC ulN)))))
      · replace hq6 := of_decide_eq_false hq6
        have ex : W = x := by omega
        have e2 : W * y + x = W * (y + 1) := by rw [← ex]; rfl
        rw [e2]
        refine GC.exit ?_
        refine GE.thenE ?_
        refine GE.thenE ?_
        refine GE.blockE ?_
        refine GE.blockN ?_
        refine GE.thenN ?_
        refine GC.region ?_
        refine GL.val (v := (.int .i64 (((y + 1 : Nat) : Int)))) (Ex.add rfl rfl (Z := ((y + 1 : Nat) : Int)) (w64 (by omega))) (by decide) ?_
        refine GL.val (Ex.move rfl) (by decide) ?_
        refine GL.nil ?_
        refine GE.thenN ?_
        exact Head.mk (y + 1) (by omega) (by omega) ((sub_cons rfl ((sub_cons rfl ((sub_cons rfl ((sub_cons rfl ((sub_cons rfl ((sub_nil _)))))))))))) (ulC (ulC (ulC (ulC ulN))))
    · replace hq5 := of_decide_eq_false hq5
      refine GC.exit ?_
      refine GE.thenE ?_
      refine GE.thenE ?_
      refine GE.blockE ?_
      refine GE.thenN ?_
      refine GC.seq ?_
      refine GC.region ?_
      refine GL.val (v := (.agg #[(.int .i64 ((W : Int))), (.int .i64 ((H : Int))), (.slice (some ⟨bq3, 0, none⟩) (W * y) (W * H))])) (Ex.loadA rfl T.ag43 T.sz43 (i := 0) rfl (vs := [(.int .i64 ((W : Int))), (.int .i64 ((H : Int))), (.slice (some ⟨bq3, 0, none⟩) (W * y) (W * H))]) rfl rfl) (by decide) ?_
      refine GL.step (Stp.st2 (cs' := [(.int .i64 ((W : Int))), (.int .i64 ((H : Int))), (.slice (some ⟨bq3, 0, none⟩) (W * y) (W * H))]) rfl rfl rfl T.sz43 rfl rfl rfl) (fun _ _ => ?_)
      refine GL.nil ?_
      refine GE.thenN ?_
      refine GC.ret ?_
      refine GC.ret1 rfl (Rv.cellA rfl T.ag43 T.sz43 (L := _) (i := 2) rfl (vs := [(.int .i64 ((W : Int))), (.int .i64 ((H : Int))), (.slice (some ⟨bq3, 0, none⟩) (W * y) (W * H))]) rfl rfl) (fun wN HN => ?_)
      have ey : H = y := by omega
      have e3 : W * y = W * H := by rw [ey]
      rw [e3, cur_full] at HN
      exact HN.ret bq3 trivial (by rw [e3]) (ulS (ulC (ulS (ulS ulN)))) rfl
  refine GHs.cons rfl (Stp.alloc T.zr43 (by decide)) (fun _ => (ulS (ulC (ulC ulN)))) (fun bq10 _ => ?_) ?_
  · refine GH.one 9 rfl (by kernel_rfl) (Stp.makeSlice (a1 := 0) (c := W * H) rfl rfl Try.underlying41 T.zr63 T.sz63 T.by63 rfl (by omega) (by omega) (by omega) (by decide)) (fun _ => (ulS (ulS (ulC (ulC ulN))))) (fun bq11 _ => ?_)
    refine GH.take 10 (v := (.agg #[(.int .i64 ((W : Int))), (.int .i64 ((H : Int))), (.slice (some ⟨bq11, 0, none⟩) 0 (W * H))])) rfl (by kernel_rfl) (by kernel_rfl) (by kernel_rfl) (fun _ _ _ h => h) (Ex.build (vs := [(0, (.int .i64 ((W : Int)))), (1, (.int .i64 ((H : Int)))), (2, (.slice (some ⟨bq11, 0, none⟩) 0 (W * H)))]) rfl (by first | rfl | kernel_rfl)) (ulS (ulS (ulC (ulC ulN)))) (by decide) ?_
    refine GH.done (by kernel_rfl) ?_
    refine GE.thenN ?_
    refine GE.tail rfl (Stp.st1 (cs' := [(.int .i64 ((W : Int))), (.int .i64 ((H : Int))), (.slice (some ⟨bq11, 0, none⟩) 0 (W * H))]) rfl rfl rfl T.sz43 rfl rfl rfl) (fun _ _ => ?_)
    refine GE.thenN ?_
    refine GC.seq ?_
    refine GC.seq ?_
    rw [madeCells_one, ← cur_zero W g (W * H)]
    refine GC.region ?_
    refine GL.val (v := (.pointer (some ⟨bq1, 1, none⟩))) (Ex.cast (Ex.fieldAddr rfl Try.underlying103 rfl T.sz3 (by decide)) rfl) (by decide) ?_
    refine GL.val (Ex.load rfl T.ag3 (i := 3) rfl rfl) (by decide) ?_
    refine GL.val (Ex.move rfl) (by decide) ?_
    refine GL.nil ?_
    refine GE.thenN ?_
    refine GC.block ?_
    refine GC.loop (σ := Nat) (fun y => y ≤ H) (fun y => [(1, (.pointer (some ⟨bq1, 0, none⟩))), (2, (.pointer (some ⟨bq2, 0, none⟩))), (3, (.pointer (some ⟨bq10, 0, none⟩))), (18, (.int .i64 ((H : Int)))), (19, (.int .i64 (((y : Nat) : Int))))]) (fun y => [⟨bq11, cur W g (W * H) (W * y), 63, true⟩, ⟨bq10, [(.int .i64 ((W : Int))), (.int .i64 ((H : Int))), (.slice (some ⟨bq11, 0, none⟩) (W * y) (W * H))], 43, true⟩, ⟨bq2, [(.int .i64 0), (.int .i64 0), (.slice none 0 0)], 43, true⟩, ⟨bq1, [(.int .i64 ((W : Int))), (.int .i64 ((H : Int))), (.func (.func fid) #[] caps)], 103, true⟩]) (fun y => H - y) (0) (Nat.zero_le _) ((sub_cons rfl ((sub_cons rfl ((sub_cons rfl ((sub_cons rfl ((sub_cons rfl ((sub_nil _)))))))))))) (ulC (ulC (ulC (ulC ulN)))) (fun y hp => ?_)
    refine GC.seq ?_
    refine GC.region ?_
    refine GL.val (v := (.bool (decide ((((y : Nat) : Int)) < ((H : Int)))))) (Ex.lss rfl rfl) (by decide) ?_
    refine GL.nil ?_
    refine GE.thenN ?_
    refine GC.seq ?_
    refine GC.cond rfl (fun hq12 => ?_) (fun hq12 => ?_)
    · replace hq12 := of_decide_eq_true hq12
      refine GC.skip ?_
      refine GE.thenN ?_
      refine GC.seq ?_
      refine GC.block ?_
      refine GC.seq ?_
      refine GC.region ?_
      refine GL.val (Ex.move rfl) (by decide) ?_
      refine GL.val (Ex.assign rfl) (by decide) ?_
      refine GL.nil ?_
      refine GE.thenN ?_
      refine GC.seq ?_
      refine GC.region ?_
      refine GL.val (v := (.pointer (some ⟨bq1, 0, none⟩))) (Ex.cast (Ex.fieldAddr rfl Try.underlying103 rfl T.sz3 (by decide)) rfl) (by decide) ?_
      refine GL.val (Ex.load rfl T.ag3 (i := 3) rfl rfl) (by decide) ?_
      refine GL.val (Ex.move rfl) (by decide) ?_
      refine GL.nil ?_
      refine GE.thenN ?_
      refine GC.block ?_
      refine GC.loop (σ := Nat) (fun x => x ≤ W) (fun x => [(1, (.pointer (some ⟨bq1, 0, none⟩))), (2, (.pointer (some ⟨bq2, 0, none⟩))), (3, (.pointer (some ⟨bq10, 0, none⟩))), (18, (.int .i64 ((H : Int)))), (19, (.int .i64 (((y : Nat) : Int)))), (4, (.int .i64 (((y : Nat) : Int)))), (23, (.int .i64 ((W : Int)))), (24, (.int .i64 (((x : Nat) : Int))))]) (fun x => [⟨bq11, cur W g (W * H) (W * y + x), 63, true⟩, ⟨bq10, [(.int .i64 ((W : Int))), (.int .i64 ((H : Int))), (.slice (some ⟨bq11, 0, none⟩) (W * y + x) (W * H))], 43, true⟩, ⟨bq2, [(.int .i64 0), (.int .i64 0), (.slice none 0 0)], 43, true⟩, ⟨bq1, [(.int .i64 ((W : Int))), (.int .i64 ((H : Int))), (.func (.func fid) #[] caps)], 103, true⟩]) (fun x => W - x) (0) (Nat.zero_le _) ((sub_cons rfl ((sub_cons rfl ((sub_cons rfl ((sub_cons rfl ((sub_cons rfl ((sub_cons rfl ((sub_cons rfl ((sub_cons rfl ((sub_nil _)))))))))))))))))) (ulC (ulC (ulC (ulC ulN)))) (fun x hp => ?_)
      refine GC.seq ?_
      refine GC.region ?_
      refine GL.val (v := (.bool (decide ((((x : Nat) : Int)) < ((W : Int)))))) (Ex.lss rfl rfl) (by decide) ?_
      refine GL.nil ?_
      refine GE.thenN ?_
      refine GC.seq ?_
      refine GC.cond rfl (fun hq13 => ?_) (fun hq13 => ?_)
      · replace hq13 := of_decide_eq_true hq13
        have hxy := place_lt (H := H) (by omega : x < W) (by omega : y < H)
        have hp := at_place (W := W) (y := y) (by omega : x < W)
        have hap := cur_app W g (W * H) (W * y + x) (g x y) hxy (by rw [hp.1, hp.2])
        rw [Nat.add_assoc] at hap
        refine GC.skip ?_
        refine GE.thenN ?_
        refine GC.seq ?_
        refine GC.block ?_
        refine GC.seq ?_
        refine GC.region ?_
        refine GL.val (Ex.move rfl) (by decide) ?_
        refine GL.val (Ex.assign rfl) (by decide) ?_
        refine GL.nil ?_
        refine GE.thenN ?_
        refine GC.drawP [⟨bq10, [(.int .i64 ((W : Int))), (.int .i64 ((H : Int))), (.slice (some ⟨bq11, 0, none⟩) (W * y + x) (W * H))], 43, true⟩, ⟨bq2, [(.int .i64 0), (.int .i64 0), (.slice none 0 0)], 43, true⟩, ⟨bq1, [(.int .i64 ((W : Int))), (.int .i64 ((H : Int))), (.func (.func fid) #[] caps)], 103, true⟩] T.mixed (by kernel_rfl) (by kernel_rfl) (fuel := 10) rfl rfl ?_
        refine GH.take 0 (v := (.pointer (some ⟨bq10, 2, none⟩))) rfl (by kernel_rfl) (by kernel_rfl) (by kernel_rfl) (fun _ _ _ h => h) (Ex.cast (Ex.fieldAddr rfl Try.underlying43 rfl T.sz41 (by decide)) rfl) (ulS (ulC (ulC (ulC ulN)))) (by decide) ?_
        refine GH.take 1 (v := (.slice (some ⟨bq11, 0, none⟩) (W * y + x) (W * H))) rfl (by kernel_rfl) (by kernel_rfl) (by kernel_rfl) (fun _ _ _ h => h) (Ex.load rfl T.ag41 (i := 0) rfl rfl) (ulS (ulC (ulC (ulC ulN)))) (by decide) ?_
        refine GH.take 2 (v := (.pointer (some ⟨bq1, 2, none⟩))) rfl (by kernel_rfl) (by kernel_rfl) (by kernel_rfl) (fun _ _ _ h => h) (Ex.cast (Ex.fieldAddr rfl Try.underlying103 rfl T.sz101 (by decide)) rfl) (ulS (ulC (ulC (ulC ulN)))) (by decide) ?_
        refine GH.take 3 (v := (.func (.func fid) #[] caps)) rfl (by kernel_rfl) (by kernel_rfl) (by kernel_rfl) (fun _ _ _ h => h) (Ex.load rfl T.ag101 (i := 2) rfl rfl) (ulS (ulC (ulC (ulC ulN)))) (by decide) ?_
        refine GH.take 4 (v := (.int .i64 (((x : Nat) : Int)))) rfl (by kernel_rfl) (by kernel_rfl) (by kernel_rfl) (fun _ _ _ h => h) (Ex.move rfl) (ulS (ulC (ulC (ulC ulN)))) (by decide) ?_
        refine GH.take 5 (v := (.int .i64 (((y : Nat) : Int)))) rfl (by kernel_rfl) (by kernel_rfl) (by kernel_rfl) (fun _ _ _ h => h) (Ex.move rfl) (ulS (ulC (ulC (ulC ulN)))) (by decide) ?_
        refine GH.one 6 rfl (by kernel_rfl) (Stp.callR (vs := [(.int .i64 (((x : Nat) : Int))), (.int .i64 (((y : Nat) : Int)))]) rfl rfl hf.1 (by decide) (fun wc hw => hf.2 x y (by omega) (by omega) wc hw.1)) (fun _ => (ulS (ulC (ulC (ulC ulN))))) (fun xq14 hq15 => ?_)
        refine GH.one 7 rfl (by kernel_rfl) (Stp.buildSlice (cs := [(.int .u32 ((g x y)))]) (vs := [(0, (.int .u32 ((g x y))))]) Try.underlying41 T.zr63 T.sz63 rfl (by decide) (by decide) (by first | rfl | kernel_rfl) (by decide)) (fun _ => (ulS (ulS (ulC (ulC (ulC ulN)))))) (fun bq16 _ => ?_)
        refine GH.one 8 rfl (by kernel_rfl) (Stp.appendFits (i := 1) (vs := [.int .u32 (g x y)]) (L1 := [⟨bq16, [(.int .u32 ((g x y)))], 63, true⟩, ⟨bq11, cur W g (W * H) (W * y + (x + 1)), 63, true⟩, ⟨bq10, [(.int .i64 ((W : Int))), (.int .i64 ((H : Int))), (.slice (some ⟨bq11, 0, none⟩) (W * y + x) (W * H))], 43, true⟩, ⟨bq2, [(.int .i64 0), (.int .i64 0), (.slice none 0 0)], 43, true⟩, ⟨bq1, [(.int .i64 ((W : Int))), (.int .i64 ((H : Int))), (.func (.func fid) #[] caps)], 103, true⟩]) rfl rfl Try.underlying41 T.sz63 rfl (fun w hw => hw.rdOf (i := 0) rfl 0) rfl rfl (len' := W * y + (x + 1)) rfl (by omega) (by rw [cur_len _ _ _ _ (by omega)]; simp; omega) (by rw [hap]; rfl) (by decide)) (fun _ => (ulS (ulS (ulC (ulC (ulC ulN)))))) (fun _ _ => ?_)
        refine GH.take 9 (v := (.pointer (some ⟨bq10, 2, none⟩))) rfl (by kernel_rfl) (by kernel_rfl) (by kernel_rfl) (fun _ _ _ h => h) (Ex.cast (Ex.fieldAddr rfl Try.underlying43 rfl T.sz41 (by decide)) rfl) (ulS (ulS (ulC (ulC (ulC ulN))))) (by decide) ?_
        refine GH.done (by kernel_rfl) ?_
        refine GE.thenN ?_
        refine GE.tail rfl (Stp.st2 (cs' := [(.int .i64 ((W : Int))), (.int .i64 ((H : Int))), (.slice (some ⟨bq11, 0, none⟩) (W * y + (x + 1)) (W * H))]) rfl rfl rfl T.sz41 rfl rfl rfl) (fun _ _ => ?_)
        refine GE.blockN ?_
        refine GE.thenN ?_
        refine GC.region ?_
        refine GL.val (v := (.int .i64 (((x + 1 : Nat) : Int)))) (Ex.add rfl rfl (Z := ((x + 1 : Nat) : Int)) (w64 (by omega))) (by decide) ?_
        refine GL.val (Ex.move rfl) (by decide) ?_
        refine GL.nil ?_
        refine GE.thenN ?_
        exact Head.mk (x + 1) (by omega) (by omega) ((sub_cons rfl ((sub_cons rfl ((sub_cons rfl ((sub_cons rfl ((sub_cons rfl ((sub_cons rfl ((sub_cons rfl ((sub_cons rfl ((sub_nil _)))))))))))))))))) (ulS (ulC (ulC (ulC (ulC ulN)))))
      · replace hq13 := of_decide_eq_false hq13
        have ex : W = x := by omega
        have e2 : W * y + x = W * (y + 1) := by rw [← ex]; rfl
        rw [e2]
        refine GC.exit ?_
        refine GE.thenE ?_
        refine GE.thenE ?_
        refine GE.blockE ?_
        refine GE.blockN ?_
        refine GE.thenN ?_
        refine GC.region ?_
        refine GL.val (v := (.int .i64 (((y + 1 : Nat) : Int)))) (Ex.add rfl rfl (Z := ((y + 1 : Nat) : Int)) (w64 (by omega))) (by decide) ?_
        refine GL.val (Ex.move rfl) (by decide) ?_
        refine GL.nil ?_
        refine GE.thenN ?_
        exact Head.mk (y + 1) (by omega) (by omega) ((sub_cons rfl ((sub_cons rfl ((sub_cons rfl ((sub_cons rfl ((sub_cons rfl ((sub_nil _)))))))))))) (ulC (ulC (ulC (ulC ulN))))
    · replace hq12 := of_decide_eq_false hq12
      refine GC.exit ?_
      refine GE.thenE ?_
      refine GE.thenE ?_
      refine GE.blockE ?_
      refine GE.thenN ?_
      refine GC.seq ?_
      refine GC.region ?_
      refine GL.val (v := (.agg #[(.int .i64 ((W : Int))), (.int .i64 ((H : Int))), (.slice (some ⟨bq11, 0, none⟩) (W * y) (W * H))])) (Ex.loadA rfl T.ag43 T.sz43 (i := 1) rfl (vs := [(.int .i64 ((W : Int))), (.int .i64 ((H : Int))), (.slice (some ⟨bq11, 0, none⟩) (W * y) (W * H))]) rfl rfl) (by decide) ?_
      refine GL.step (Stp.st2 (cs' := [(.int .i64 ((W : Int))), (.int .i64 ((H : Int))), (.slice (some ⟨bq11, 0, none⟩) (W * y) (W * H))]) rfl rfl rfl T.sz43 rfl rfl rfl) (fun _ _ => ?_)
      refine GL.nil ?_
      refine GE.thenN ?_
      refine GC.ret ?_
      refine GC.ret1 rfl (Rv.cellA rfl T.ag43 T.sz43 (L := _) (i := 2) rfl (vs := [(.int .i64 ((W : Int))), (.int .i64 ((H : Int))), (.slice (some ⟨bq11, 0, none⟩) (W * y) (W * H))]) rfl rfl) (fun wN HN => ?_)
      have ey : H = y := by omega
      have e3 : W * y = W * H := by rw [ey]
      rw [e3, cur_full] at HN
      exact HN.ret bq11 trivial (by rw [e3]) (ulC (ulS (ulS (ulS ulN)))) rfl
  exact GHs.nil

set_option maxRecDepth 100000 in
set_option maxHeartbeats 1000000 in
theorem newC (x y bs : Nat) (s : Int) (w : World) (h1 : w.heap[bs]? = some (.cells #[(.int .u32 s)] 63 (0, 0))) :
    Calls Try.prog 61 #[(.int .i64 ((x : Int))), (.int .i64 ((y : Int))), (.pointer (some ⟨bs, 0, none⟩))] w (Ret w (fun _ : Unit => True) (fun _ => .int .u32 s) (fun _ => [])) := by
  refine enter (M := None) (L := [⟨bs, [(.int .u32 s)], 63, false⟩]) (n := 7) (l := [(0, (.int .i64 ((x : Int)))), (1, (.int .i64 ((y : Int)))), (2, (.pointer (some ⟨bs, 0, none⟩)))]) Try.func61 rfl rfl (Args.cons rfl (Args.cons rfl (Args.cons rfl (Args.nil _)))) (Hp.reads (Has.cons h1 (Has.nil _)) rfl) ?_
  refine GC.seq ?_
  refine GC.region ?_
  refine GL.val (Ex.assign rfl) (by decide) ?_
  refine GL.nil ?_
  refine GE.thenN ?_
  refine GC.seq ?_
  refine GC.region ?_
  refine GL.val (Ex.load rfl T.ag63 (i := 0) rfl rfl) (by decide) ?_
  refine GL.val (Ex.assign rfl) (by decide) ?_
  refine GL.nil ?_
  refine GE.thenN ?_
  refine GC.ret ?_
  refine GC.ret1 rfl (Rv.tmp rfl) (fun wN HN => ?_)
  exact HN.ret () trivial rfl (List.nil_sublist _) rfl

set_option maxRecDepth 100000 in
set_option maxHeartbeats 1000000 in
theorem new_ok (W H : Nat) (s : Int) (w : World) (hok : okP W H) :
    Calls Try.prog 36 #[(.int .i64 ((W : Int))), (.int .i64 ((H : Int))), (.int .u32 s)] w (Ret w (fun _ : Nat => True) (fun p => .tuple #[(.agg #[(.int .i64 (((W : Nat) : Int))), (.int .i64 (((H : Nat) : Int))), (.slice (some ⟨p, 0, none⟩) (W * H) (W * H))]), .int .i64 0]) (fun p => [⟨p, (tab W (fun _ _ => s) (W * H)).map u32, 63, true⟩])) := by
  refine enter (M := None) (L := []) (n := 18) (l := [(0, (.int .i64 ((W : Int)))), (1, (.int .i64 ((H : Int)))), (2, (.int .u32 s))]) Try.func36 rfl rfl (Args.cons rfl (Args.cons rfl (Args.cons rfl (Args.nil _)))) (Hp.start _ _) ?_
  refine GC.seq ?_
  refine GC.region ?_
  refine GL.step (Stp.box (cs := [(.int .u32 s)]) rfl rfl (by decide)) (fun bq1 _ => ?_)
  refine GL.step (Stp.alloc T.zr43 (by decide)) (fun bq2 _ => ?_)
  refine GL.val (Ex.assign rfl) (by decide) ?_
  refine GL.nil ?_
  refine GE.thenN ?_
  refine GC.seq ?_
  refine GC.seq ?_
  refine GC.region ?_
  refine GL.val (Ex.move rfl) (by decide) ?_
  refine GL.val (Ex.move rfl) (by decide) ?_
  refine GL.step (Stp.callR (vs := [(.int .i64 ((W : Int))), (.int .i64 ((H : Int)))]) rfl rfl T.own60 (by decide) (fun wc hw => size ((W : Int)) ((H : Int)) wc)) (fun xq3 hq4 => ?_)
  refine GL.val (v := (.bool (!(sizeB ((W : Int)) ((H : Int)))))) (Ex.not rfl) (by decide) ?_
  refine GL.nil ?_
  refine GE.thenN ?_
  refine GC.cond rfl (fun hq5 => ?_) (fun hq5 => ?_)
  · exfalso; rw [sizeB_ok hok] at hq5; cases hq5
  · refine GC.skip ?_
    refine GE.thenN ?_
    refine GC.seq ?_
    refine GC.region ?_
    refine GL.val (Ex.move rfl) (by decide) ?_
    refine GL.val (Ex.move rfl) (by decide) ?_
    refine GL.val (v := (.func (.func 61) #[] #[(.pointer (some ⟨bq1, 0, none⟩))])) (Ex.func (cs := [(.pointer (some ⟨bq1, 0, none⟩))]) rfl (fun _ hF => hF.evals _ _ rfl)) (by decide) ?_
    refine GL.val (v := (.agg #[(.int .i64 ((W : Int))), (.int .i64 ((H : Int))), (.func (.func 61) #[] #[(.pointer (some ⟨bq1, 0, none⟩))])])) (Ex.build (vs := [(0, (.int .i64 ((W : Int)))), (1, (.int .i64 ((H : Int)))), (2, (.func (.func 61) #[] #[(.pointer (some ⟨bq1, 0, none⟩))]))]) rfl (by first | rfl | kernel_rfl)) (by decide) ?_
    refine GL.step (Stp.callR (vs := [(.agg #[(.int .i64 ((W : Int))), (.int .i64 ((H : Int))), (.func (.func 61) #[] #[(.pointer (some ⟨bq1, 0, none⟩))])])]) rfl rfl T.own62 (by decide) (fun wc hw => made W H 61 (#[(.pointer (some ⟨bq1, 0, none⟩))]) (fun _ _ => s) wc ⟨T.own61, fun x y _ _ w3 hk3 => newC x y bq1 s w3 ((Has.cons (o := true) (hw.get (i := 1) rfl) (Has.nil _)).later hk3 _ List.mem_cons_self)⟩ hok.2.2.1 hok.2.2.2.1 hok.2.2.2.2)) (fun xq6 hq7 => ?_)
    refine GL.step (Stp.st1 (cs' := [(.int .i64 (((W : Nat) : Int))), (.int .i64 (((H : Nat) : Int))), (.slice (some ⟨xq6, 0, none⟩) (W * H) (W * H))]) rfl rfl rfl T.sz43 rfl rfl rfl) (fun _ _ => ?_)
    refine GL.val (Ex.assign rfl) (by decide) ?_
    refine GL.nil ?_
    refine GE.thenN ?_
    refine GC.ret ?_
    refine GC.ret2 rfl (Rv.cellA rfl T.ag43 T.sz43 (L := _) (i := 1) rfl (vs := [(.int .i64 (((W : Nat) : Int))), (.int .i64 (((H : Nat) : Int))), (.slice (some ⟨xq6, 0, none⟩) (W * H) (W * H))]) rfl rfl) (Rv.tmp rfl) (fun wN HN => ?_)
    exact HN.ret xq6 trivial rfl (ulC (ulS (ulS ulN))) rfl

set_option maxRecDepth 100000 in
set_option maxHeartbeats 1000000 in
theorem size_h (pw ph : Int) (w : World) :
    Calls Try.prog 35 #[(.int .i64 pw), (.int .i64 ph)] w (Ret w (fun _ : Unit => True) (fun _ => .bool (sizeB pw ph)) (fun _ => [])) := by
  refine enter (M := None) (L := []) (n := 25) (l := [(0, (.int .i64 pw)), (1, (.int .i64 ph))]) Try.func35 rfl rfl (Args.cons rfl (Args.cons rfl (Args.nil _))) (Hp.start _ _) ?_
  refine GC.seq ?_
  refine GC.region ?_
  refine GL.val (Ex.assign rfl) (by decide) ?_
  refine GL.nil ?_
  refine GE.thenN ?_
  refine GC.seq ?_
  refine GC.region ?_
  refine GL.val (Ex.move rfl) (by decide) ?_
  by_cases hq1 : 1 ≤ pw
  · refine GL.val (v := (.bool true)) (Ex.cast (Ex.geq rfl rfl) (congrArg Value.bool (decide_eq_true hq1))) (by decide) ?_
    refine GL.val (Ex.move rfl) (by decide) ?_
    refine GL.stepG (tj := 7) rfl rfl (Ex.wp (v := (.int .i64 ph)) (Ex.move rfl) (by decide)) (fun _ _ => ?_)
    by_cases hq2 : 1 ≤ ph
    · refine GL.stepG (tj := 7) rfl rfl (Ex.wp (v := (.bool true)) (Ex.cast (Ex.geq rfl rfl) (congrArg Value.bool (decide_eq_true hq2))) (by decide)) (fun _ _ => ?_)
      refine GL.val (v := (.bool true)) (Ex.pickT rfl rfl) (by decide) ?_
      refine GL.val (Ex.move rfl) (by decide) ?_
      refine GL.stepG (tj := 11) rfl rfl (Ex.wp (v := (.int .i64 pw)) (Ex.move rfl) (by decide)) (fun _ _ => ?_)
      by_cases hq3 : pw ≤ 1024
      · refine GL.stepG (tj := 11) rfl rfl (Ex.wp (v := (.bool true)) (Ex.cast (Ex.leq rfl rfl) (congrArg Value.bool (decide_eq_true hq3))) (by decide)) (fun _ _ => ?_)
        refine GL.val (v := (.bool true)) (Ex.pickT rfl rfl) (by decide) ?_
        refine GL.val (Ex.move rfl) (by decide) ?_
        refine GL.stepG (tj := 15) rfl rfl (Ex.wp (v := (.int .i64 ph)) (Ex.move rfl) (by decide)) (fun _ _ => ?_)
        by_cases hq4 : ph ≤ 1024
        · have hm := mul_bd (w := pw) (h := ph) (by omega) (by omega) (by omega) (by omega)
          refine GL.stepG (tj := 15) rfl rfl (Ex.wp (v := (.bool true)) (Ex.cast (Ex.leq rfl rfl) (congrArg Value.bool (decide_eq_true hq4))) (by decide)) (fun _ _ => ?_)
          refine GL.val (v := (.bool true)) (Ex.pickT rfl rfl) (by decide) ?_
          refine GL.val (Ex.move rfl) (by decide) ?_
          refine GL.stepG (tj := 19) rfl rfl (Ex.wp (v := (.int .i64 pw)) (Ex.move rfl) (by decide)) (fun _ _ => ?_)
          refine GL.stepG (tj := 19) rfl rfl (Ex.wp (v := (.int .i64 ph)) (Ex.move rfl) (by decide)) (fun _ _ => ?_)
          refine GL.stepG (tj := 19) rfl rfl (Ex.wp (v := (.int .i64 (pw * ph))) (Ex.mul rfl rfl (Z := pw * ph) (w64 (by omega))) (by decide)) (fun _ _ => ?_)
          refine GL.stepG (tj := 19) rfl rfl (Ex.wp (v := (.bool (decide ((pw * ph) ≤ 65536)))) (Ex.leq rfl rfl) (by decide)) (fun _ _ => ?_)
          refine GL.val (v := (.bool (decide ((pw * ph) ≤ 65536)))) (Ex.pickT rfl rfl) (by decide) ?_
          refine GL.val (Ex.assign rfl) (by decide) ?_
          refine GL.nil ?_
          refine GE.thenN ?_
          refine GC.ret ?_
          refine GC.ret1 rfl (Rv.tmp rfl) (fun wN HN => ?_)
          exact HN.ret () trivial (by simp only [sizeB]; congr 1; apply decide_eq_decide.2; omega) (List.nil_sublist _) rfl
        · refine GL.stepG (tj := 15) rfl rfl (Ex.wp (v := (.bool false)) (Ex.cast (Ex.leq rfl rfl) (congrArg Value.bool (decide_eq_false hq4))) (by decide)) (fun _ _ => ?_)
          refine GL.val (v := (.bool false)) (Ex.pickT rfl rfl) (by decide) ?_
          refine GL.val (Ex.move rfl) (by decide) ?_
          refine GL.skipG (tj := 19) rfl rfl rfl (by decide) ?_
          refine GL.skipG (tj := 19) rfl rfl rfl (by decide) ?_
          refine GL.skipG (tj := 19) rfl rfl rfl (by decide) ?_
          refine GL.skipG (tj := 19) rfl rfl rfl (by decide) ?_
          refine GL.val (v := (.bool false)) (Ex.pickF rfl rfl) (by decide) ?_
          refine GL.val (Ex.assign rfl) (by decide) ?_
          refine GL.nil ?_
          refine GE.thenN ?_
          refine GC.ret ?_
          refine GC.ret1 rfl (Rv.tmp rfl) (fun wN HN => ?_)
          exact HN.ret () trivial (by simp only [sizeB]; rw [decide_eq_false (by omega)]) (List.nil_sublist _) rfl
      · refine GL.stepG (tj := 11) rfl rfl (Ex.wp (v := (.bool false)) (Ex.cast (Ex.leq rfl rfl) (congrArg Value.bool (decide_eq_false hq3))) (by decide)) (fun _ _ => ?_)
        refine GL.val (v := (.bool false)) (Ex.pickT rfl rfl) (by decide) ?_
        refine GL.val (Ex.move rfl) (by decide) ?_
        refine GL.skipG (tj := 15) rfl rfl rfl (by decide) ?_
        refine GL.skipG (tj := 15) rfl rfl rfl (by decide) ?_
        refine GL.val (v := (.bool false)) (Ex.pickF rfl rfl) (by decide) ?_
        refine GL.val (Ex.move rfl) (by decide) ?_
        refine GL.skipG (tj := 19) rfl rfl rfl (by decide) ?_
        refine GL.skipG (tj := 19) rfl rfl rfl (by decide) ?_
        refine GL.skipG (tj := 19) rfl rfl rfl (by decide) ?_
        refine GL.skipG (tj := 19) rfl rfl rfl (by decide) ?_
        refine GL.val (v := (.bool false)) (Ex.pickF rfl rfl) (by decide) ?_
        refine GL.val (Ex.assign rfl) (by decide) ?_
        refine GL.nil ?_
        refine GE.thenN ?_
        refine GC.ret ?_
        refine GC.ret1 rfl (Rv.tmp rfl) (fun wN HN => ?_)
        exact HN.ret () trivial (by simp only [sizeB]; rw [decide_eq_false (by omega)]) (List.nil_sublist _) rfl
    · refine GL.stepG (tj := 7) rfl rfl (Ex.wp (v := (.bool false)) (Ex.cast (Ex.geq rfl rfl) (congrArg Value.bool (decide_eq_false hq2))) (by decide)) (fun _ _ => ?_)
      refine GL.val (v := (.bool false)) (Ex.pickT rfl rfl) (by decide) ?_
      refine GL.val (Ex.move rfl) (by decide) ?_
      refine GL.skipG (tj := 11) rfl rfl rfl (by decide) ?_
      refine GL.skipG (tj := 11) rfl rfl rfl (by decide) ?_
      refine GL.val (v := (.bool false)) (Ex.pickF rfl rfl) (by decide) ?_
      refine GL.val (Ex.move rfl) (by decide) ?_
      refine GL.skipG (tj := 15) rfl rfl rfl (by decide) ?_
      refine GL.skipG (tj := 15) rfl rfl rfl (by decide) ?_
      refine GL.val (v := (.bool false)) (Ex.pickF rfl rfl) (by decide) ?_
      refine GL.val (Ex.move rfl) (by decide) ?_
      refine GL.skipG (tj := 19) rfl rfl rfl (by decide) ?_
      refine GL.skipG (tj := 19) rfl rfl rfl (by decide) ?_
      refine GL.skipG (tj := 19) rfl rfl rfl (by decide) ?_
      refine GL.skipG (tj := 19) rfl rfl rfl (by decide) ?_
      refine GL.val (v := (.bool false)) (Ex.pickF rfl rfl) (by decide) ?_
      refine GL.val (Ex.assign rfl) (by decide) ?_
      refine GL.nil ?_
      refine GE.thenN ?_
      refine GC.ret ?_
      refine GC.ret1 rfl (Rv.tmp rfl) (fun wN HN => ?_)
      exact HN.ret () trivial (by simp only [sizeB]; rw [decide_eq_false (by omega)]) (List.nil_sublist _) rfl
  · refine GL.val (v := (.bool false)) (Ex.cast (Ex.geq rfl rfl) (congrArg Value.bool (decide_eq_false hq1))) (by decide) ?_
    refine GL.val (Ex.move rfl) (by decide) ?_
    refine GL.skipG (tj := 7) rfl rfl rfl (by decide) ?_
    refine GL.skipG (tj := 7) rfl rfl rfl (by decide) ?_
    refine GL.val (v := (.bool false)) (Ex.pickF rfl rfl) (by decide) ?_
    refine GL.val (Ex.move rfl) (by decide) ?_
    refine GL.skipG (tj := 11) rfl rfl rfl (by decide) ?_
    refine GL.skipG (tj := 11) rfl rfl rfl (by decide) ?_
    refine GL.val (v := (.bool false)) (Ex.pickF rfl rfl) (by decide) ?_
    refine GL.val (Ex.move rfl) (by decide) ?_
    refine GL.skipG (tj := 15) rfl rfl rfl (by decide) ?_
    refine GL.skipG (tj := 15) rfl rfl rfl (by decide) ?_
    refine GL.val (v := (.bool false)) (Ex.pickF rfl rfl) (by decide) ?_
    refine GL.val (Ex.move rfl) (by decide) ?_
    refine GL.skipG (tj := 19) rfl rfl rfl (by decide) ?_
    refine GL.skipG (tj := 19) rfl rfl rfl (by decide) ?_
    refine GL.skipG (tj := 19) rfl rfl rfl (by decide) ?_
    refine GL.skipG (tj := 19) rfl rfl rfl (by decide) ?_
    refine GL.val (v := (.bool false)) (Ex.pickF rfl rfl) (by decide) ?_
    refine GL.val (Ex.assign rfl) (by decide) ?_
    refine GL.nil ?_
    refine GE.thenN ?_
    refine GC.ret ?_
    refine GC.ret1 rfl (Rv.tmp rfl) (fun wN HN => ?_)
    exact HN.ret () trivial (by simp only [sizeB]; rw [decide_eq_false (by omega)]) (List.nil_sublist _) rfl

set_option maxRecDepth 100000 in
set_option maxHeartbeats 1000000 in
theorem may (W H : Int) (ad : Option Addr) (n cap : Nat) (w : World) :
    Calls Try.prog 28 #[(.agg #[(.int .i64 W), (.int .i64 H), (.slice ad n cap)])] w (Ret w (fun _ : Unit => True) (fun _ => .int .i64 (chk W H n)) (fun _ => [])) := by
  refine enter (M := None) (L := []) (n := 18) (l := [(0, (.agg #[(.int .i64 W), (.int .i64 H), (.slice ad n cap)]))]) Try.func28 rfl rfl (Args.cons rfl (Args.nil _)) (Hp.start _ _) ?_
  refine GC.seq ?_
  refine GC.region ?_
  refine GL.step (Stp.box (cs := [(.int .i64 W), (.int .i64 H), (.slice ad n cap)]) rfl rfl (by decide)) (fun bq1 _ => ?_)
  refine GL.val (Ex.assign rfl) (by decide) ?_
  refine GL.nil ?_
  refine GE.thenN ?_
  refine GC.seq ?_
  refine GC.seq ?_
  refine GC.region ?_
  refine GL.val (v := (.pointer (some ⟨bq1, 0, none⟩))) (Ex.cast (Ex.fieldAddr rfl Try.underlying43 rfl T.sz3 (by decide)) rfl) (by decide) ?_
  refine GL.val (Ex.load rfl T.ag3 (i := 0) rfl rfl) (by decide) ?_
  refine GL.val (v := (.pointer (some ⟨bq1, 1, none⟩))) (Ex.cast (Ex.fieldAddr rfl Try.underlying43 rfl T.sz3 (by decide)) rfl) (by decide) ?_
  refine GL.val (Ex.load rfl T.ag3 (i := 0) rfl rfl) (by decide) ?_
  refine GL.step (Stp.callR (vs := [(.int .i64 W), (.int .i64 H)]) rfl rfl T.own35 (by decide) (fun wc hw => size_h W H wc)) (fun xq2 hq3 => ?_)
  refine GL.val (v := (.bool (!(sizeB W H)))) (Ex.not rfl) (by decide) ?_
  refine GL.nil ?_
  refine GE.thenN ?_
  refine GC.cond rfl (fun hq4 => ?_) (fun hq4 => ?_)
  · have hs : sizeB W H = false := by simpa using hq4
    refine GC.seq ?_
    refine GC.region ?_
    refine GL.val (Ex.assign rfl) (by decide) ?_
    refine GL.nil ?_
    refine GE.thenN ?_
    refine GC.ret ?_
    refine GE.thenR ?_
    refine GC.ret1 rfl (Rv.tmp rfl) (fun wN HN => ?_)
    exact HN.ret () trivial (by simp [chk, *]) (List.nil_sublist _) rfl
  · have hs : sizeB W H = true := by simpa using hq4
    refine GC.skip ?_
    refine GE.thenN ?_
    refine GC.seq ?_
    refine GC.seq ?_
    have hm := sizeB_mul hs
    refine GC.region ?_
    refine GL.val (v := (.pointer (some ⟨bq1, 2, none⟩))) (Ex.cast (Ex.fieldAddr rfl Try.underlying43 rfl T.sz41 (by decide)) rfl) (by decide) ?_
    refine GL.val (Ex.load rfl T.ag41 (i := 0) rfl rfl) (by decide) ?_
    refine GL.val (v := (.int .i64 ((n : Int)))) (Ex.len rfl Try.underlying41) (by decide) ?_
    refine GL.val (v := (.pointer (some ⟨bq1, 0, none⟩))) (Ex.cast (Ex.fieldAddr rfl Try.underlying43 rfl T.sz3 (by decide)) rfl) (by decide) ?_
    refine GL.val (Ex.load rfl T.ag3 (i := 0) rfl rfl) (by decide) ?_
    refine GL.val (v := (.pointer (some ⟨bq1, 1, none⟩))) (Ex.cast (Ex.fieldAddr rfl Try.underlying43 rfl T.sz3 (by decide)) rfl) (by decide) ?_
    refine GL.val (Ex.load rfl T.ag3 (i := 0) rfl rfl) (by decide) ?_
    refine GL.val (v := (.int .i64 (W * H))) (Ex.mul rfl rfl (Z := W * H) (w64 (by omega))) (by decide) ?_
    refine GL.val (v := (.bool (decide (((n : Int)) ≠ (W * H))))) (Ex.neq rfl rfl) (by decide) ?_
    refine GL.nil ?_
    refine GE.thenN ?_
    refine GC.cond rfl (fun hq5 => ?_) (fun hq5 => ?_)
    · replace hq5 := of_decide_eq_true hq5
      refine GC.seq ?_
      refine GC.region ?_
      refine GL.val (Ex.assign rfl) (by decide) ?_
      refine GL.nil ?_
      refine GE.thenN ?_
      refine GC.ret ?_
      refine GE.thenR ?_
      refine GC.ret1 rfl (Rv.tmp rfl) (fun wN HN => ?_)
      exact HN.ret () trivial (by simp [chk, *]) (List.nil_sublist _) rfl
    · replace hq5 := of_decide_eq_false hq5
      refine GC.skip ?_
      refine GE.thenN ?_
      refine GC.seq ?_
      refine GC.region ?_
      refine GL.val (Ex.assign rfl) (by decide) ?_
      refine GL.nil ?_
      refine GE.thenN ?_
      refine GC.ret ?_
      refine GC.ret1 rfl (Rv.tmp rfl) (fun wN HN => ?_)
      exact HN.ret () trivial (by simp [chk, *]) (List.nil_sublist _) rfl

set_option maxRecDepth 100000 in
set_option maxHeartbeats 1000000 in
theorem right_p (W H : Int) (ad : Option Addr) (n cap : Nat) (kd r k : Int) (w : World) :
    Calls Try.prog 27 #[(.agg #[(.int .i64 W), (.int .i64 H), (.slice ad n cap)]), (.int .i64 kd), (.int .i64 r), (.int .i64 k)] w (Ret w (fun _ : Unit => True) (fun _ => .bool (Bc.rightB W H n kd r k)) (fun _ => [])) := by
  refine enter (M := None) (L := []) (n := 36) (l := [(0, (.agg #[(.int .i64 W), (.int .i64 H), (.slice ad n cap)])), (1, (.int .i64 kd)), (2, (.int .i64 r)), (3, (.int .i64 k))]) Try.func27 rfl rfl (Args.cons rfl (Args.cons rfl (Args.cons rfl (Args.cons rfl (Args.nil _))))) (Hp.start _ _) ?_
  refine GC.seq ?_
  refine GC.region ?_
  refine GL.step (Stp.box (cs := [(.int .i64 W), (.int .i64 H), (.slice ad n cap)]) rfl rfl (by decide)) (fun bq1 _ => ?_)
  refine GL.val (Ex.assign rfl) (by decide) ?_
  refine GL.nil ?_
  refine GE.thenN ?_
  refine GC.seq ?_
  refine GC.region ?_
  refine GL.val (v := (.agg #[(.int .i64 W), (.int .i64 H), (.slice ad n cap)])) (Ex.loadA rfl T.ag43 T.sz43 (i := 0) rfl (vs := [(.int .i64 W), (.int .i64 H), (.slice ad n cap)]) rfl rfl) (by decide) ?_
  refine GL.step (Stp.callR (vs := [(.agg #[(.int .i64 W), (.int .i64 H), (.slice ad n cap)])]) rfl rfl T.own28 (by decide) (fun wc hw => may W H ad n cap wc)) (fun xq2 hq3 => ?_)
  by_cases hq4 : ((chk W H n)) = 0
  · refine GL.val (v := (.bool true)) (Ex.cast (Ex.eql rfl rfl) (congrArg Value.bool (decide_eq_true hq4))) (by decide) ?_
    refine GL.val (Ex.move rfl) (by decide) ?_
    refine GL.stepG (tj := 12) rfl rfl (Ex.wp (v := (.int .i64 kd)) (Ex.move rfl) (by decide)) (fun _ _ => ?_)
    by_cases hq5 : kd = 1
    · refine GL.stepG (tj := 12) rfl rfl (Ex.wp (v := (.bool true)) (Ex.cast (Ex.eql rfl rfl) (congrArg Value.bool (decide_eq_true hq5))) (by decide)) (fun _ _ => ?_)
      refine GL.stepG (tj := 12) rfl rfl (Ex.wp (v := (.bool true)) (Ex.move rfl) (by decide)) (fun _ _ => ?_)
      refine GL.skipG (tj := 15) rfl rfl rfl (by decide) ?_
      refine GL.skipG (tj := 15) rfl rfl rfl (by decide) ?_
      refine GL.stepG (tj := 12) rfl rfl (Ex.wp (v := (.bool true)) (Ex.pickT rfl rfl) (by decide)) (fun _ _ => ?_)
      refine GL.val (v := (.bool true)) (Ex.pickT rfl rfl) (by decide) ?_
      refine GL.val (Ex.move rfl) (by decide) ?_
      refine GL.stepG (tj := 20) rfl rfl (Ex.wp (v := (.int .i64 r)) (Ex.move rfl) (by decide)) (fun _ _ => ?_)
      by_cases hq6 : 0 ≤ r
      · refine GL.stepG (tj := 20) rfl rfl (Ex.wp (v := (.bool true)) (Ex.cast (Ex.geq rfl rfl) (congrArg Value.bool (decide_eq_true hq6))) (by decide)) (fun _ _ => ?_)
        refine GL.val (v := (.bool true)) (Ex.pickT rfl rfl) (by decide) ?_
        refine GL.val (Ex.move rfl) (by decide) ?_
        refine GL.stepG (tj := 24) rfl rfl (Ex.wp (v := (.int .i64 r)) (Ex.move rfl) (by decide)) (fun _ _ => ?_)
        by_cases hq7 : r ≤ 7
        · refine GL.stepG (tj := 24) rfl rfl (Ex.wp (v := (.bool true)) (Ex.cast (Ex.leq rfl rfl) (congrArg Value.bool (decide_eq_true hq7))) (by decide)) (fun _ _ => ?_)
          refine GL.val (v := (.bool true)) (Ex.pickT rfl rfl) (by decide) ?_
          refine GL.val (Ex.move rfl) (by decide) ?_
          refine GL.stepG (tj := 28) rfl rfl (Ex.wp (v := (.int .i64 k)) (Ex.move rfl) (by decide)) (fun _ _ => ?_)
          by_cases hq8 : 1 ≤ k
          · refine GL.stepG (tj := 28) rfl rfl (Ex.wp (v := (.bool true)) (Ex.cast (Ex.geq rfl rfl) (congrArg Value.bool (decide_eq_true hq8))) (by decide)) (fun _ _ => ?_)
            refine GL.val (v := (.bool true)) (Ex.pickT rfl rfl) (by decide) ?_
            refine GL.val (Ex.move rfl) (by decide) ?_
            refine GL.stepG (tj := 32) rfl rfl (Ex.wp (v := (.int .i64 k)) (Ex.move rfl) (by decide)) (fun _ _ => ?_)
            refine GL.stepG (tj := 32) rfl rfl (Ex.wp (v := (.bool (decide (k ≤ 3)))) (Ex.leq rfl rfl) (by decide)) (fun _ _ => ?_)
            refine GL.val (v := (.bool (decide (k ≤ 3)))) (Ex.pickT rfl rfl) (by decide) ?_
            refine GL.val (Ex.assign rfl) (by decide) ?_
            refine GL.nil ?_
            refine GE.thenN ?_
            refine GC.ret ?_
            refine GC.ret1 rfl (Rv.tmp rfl) (fun wN HN => ?_)
            exact HN.ret () trivial (congrArg Value.bool (by exact decide_eq_decide.2 (by omega))) (List.nil_sublist _) rfl
          · refine GL.stepG (tj := 28) rfl rfl (Ex.wp (v := (.bool false)) (Ex.cast (Ex.geq rfl rfl) (congrArg Value.bool (decide_eq_false hq8))) (by decide)) (fun _ _ => ?_)
            refine GL.val (v := (.bool false)) (Ex.pickT rfl rfl) (by decide) ?_
            refine GL.val (Ex.move rfl) (by decide) ?_
            refine GL.skipG (tj := 32) rfl rfl rfl (by decide) ?_
            refine GL.skipG (tj := 32) rfl rfl rfl (by decide) ?_
            refine GL.val (v := (.bool false)) (Ex.pickF rfl rfl) (by decide) ?_
            refine GL.val (Ex.assign rfl) (by decide) ?_
            refine GL.nil ?_
            refine GE.thenN ?_
            refine GC.ret ?_
            refine GC.ret1 rfl (Rv.tmp rfl) (fun wN HN => ?_)
            exact HN.ret () trivial (congrArg Value.bool (by exact (decide_eq_false (by omega)).symm)) (List.nil_sublist _) rfl
        · refine GL.stepG (tj := 24) rfl rfl (Ex.wp (v := (.bool false)) (Ex.cast (Ex.leq rfl rfl) (congrArg Value.bool (decide_eq_false hq7))) (by decide)) (fun _ _ => ?_)
          refine GL.val (v := (.bool false)) (Ex.pickT rfl rfl) (by decide) ?_
          refine GL.val (Ex.move rfl) (by decide) ?_
          refine GL.skipG (tj := 28) rfl rfl rfl (by decide) ?_
          refine GL.skipG (tj := 28) rfl rfl rfl (by decide) ?_
          refine GL.val (v := (.bool false)) (Ex.pickF rfl rfl) (by decide) ?_
          refine GL.val (Ex.move rfl) (by decide) ?_
          refine GL.skipG (tj := 32) rfl rfl rfl (by decide) ?_
          refine GL.skipG (tj := 32) rfl rfl rfl (by decide) ?_
          refine GL.val (v := (.bool false)) (Ex.pickF rfl rfl) (by decide) ?_
          refine GL.val (Ex.assign rfl) (by decide) ?_
          refine GL.nil ?_
          refine GE.thenN ?_
          refine GC.ret ?_
          refine GC.ret1 rfl (Rv.tmp rfl) (fun wN HN => ?_)
          exact HN.ret () trivial (congrArg Value.bool (by exact (decide_eq_false (by omega)).symm)) (List.nil_sublist _) rfl
      · refine GL.stepG (tj := 20) rfl rfl (Ex.wp (v := (.bool false)) (Ex.cast (Ex.geq rfl rfl) (congrArg Value.bool (decide_eq_false hq6))) (by decide)) (fun _ _ => ?_)
        refine GL.val (v := (.bool false)) (Ex.pickT rfl rfl) (by decide) ?_
        refine GL.val (Ex.move rfl) (by decide) ?_
        refine GL.skipG (tj := 24) rfl rfl rfl (by decide) ?_
        refine GL.skipG (tj := 24) rfl rfl rfl (by decide) ?_
        refine GL.val (v := (.bool false)) (Ex.pickF rfl rfl) (by decide) ?_
        refine GL.val (Ex.move rfl) (by decide) ?_
        refine GL.skipG (tj := 28) rfl rfl rfl (by decide) ?_
        refine GL.skipG (tj := 28) rfl rfl rfl (by decide) ?_
        refine GL.val (v := (.bool false)) (Ex.pickF rfl rfl) (by decide) ?_
        refine GL.val (Ex.move rfl) (by decide) ?_
        refine GL.skipG (tj := 32) rfl rfl rfl (by decide) ?_
        refine GL.skipG (tj := 32) rfl rfl rfl (by decide) ?_
        refine GL.val (v := (.bool false)) (Ex.pickF rfl rfl) (by decide) ?_
        refine GL.val (Ex.assign rfl) (by decide) ?_
        refine GL.nil ?_
        refine GE.thenN ?_
        refine GC.ret ?_
        refine GC.ret1 rfl (Rv.tmp rfl) (fun wN HN => ?_)
        exact HN.ret () trivial (congrArg Value.bool (by exact (decide_eq_false (by omega)).symm)) (List.nil_sublist _) rfl
    · refine GL.stepG (tj := 12) rfl rfl (Ex.wp (v := (.bool false)) (Ex.cast (Ex.eql rfl rfl) (congrArg Value.bool (decide_eq_false hq5))) (by decide)) (fun _ _ => ?_)
      refine GL.stepG (tj := 12) rfl rfl (Ex.wp (v := (.bool false)) (Ex.move rfl) (by decide)) (fun _ _ => ?_)
      refine GL.stepG (tj := 15) rfl rfl (Ex.wp (v := (.int .i64 kd)) (Ex.move rfl) (by decide)) (fun _ _ => ?_)
      by_cases hq9 : kd = 2
      · refine GL.stepG (tj := 15) rfl rfl (Ex.wp (v := (.bool true)) (Ex.cast (Ex.eql rfl rfl) (congrArg Value.bool (decide_eq_true hq9))) (by decide)) (fun _ _ => ?_)
        refine GL.stepG (tj := 12) rfl rfl (Ex.wp (v := (.bool true)) (Ex.pickF rfl rfl) (by decide)) (fun _ _ => ?_)
        refine GL.val (v := (.bool true)) (Ex.pickT rfl rfl) (by decide) ?_
        refine GL.val (Ex.move rfl) (by decide) ?_
        refine GL.stepG (tj := 20) rfl rfl (Ex.wp (v := (.int .i64 r)) (Ex.move rfl) (by decide)) (fun _ _ => ?_)
        by_cases hq10 : 0 ≤ r
        · refine GL.stepG (tj := 20) rfl rfl (Ex.wp (v := (.bool true)) (Ex.cast (Ex.geq rfl rfl) (congrArg Value.bool (decide_eq_true hq10))) (by decide)) (fun _ _ => ?_)
          refine GL.val (v := (.bool true)) (Ex.pickT rfl rfl) (by decide) ?_
          refine GL.val (Ex.move rfl) (by decide) ?_
          refine GL.stepG (tj := 24) rfl rfl (Ex.wp (v := (.int .i64 r)) (Ex.move rfl) (by decide)) (fun _ _ => ?_)
          by_cases hq11 : r ≤ 7
          · refine GL.stepG (tj := 24) rfl rfl (Ex.wp (v := (.bool true)) (Ex.cast (Ex.leq rfl rfl) (congrArg Value.bool (decide_eq_true hq11))) (by decide)) (fun _ _ => ?_)
            refine GL.val (v := (.bool true)) (Ex.pickT rfl rfl) (by decide) ?_
            refine GL.val (Ex.move rfl) (by decide) ?_
            refine GL.stepG (tj := 28) rfl rfl (Ex.wp (v := (.int .i64 k)) (Ex.move rfl) (by decide)) (fun _ _ => ?_)
            by_cases hq12 : 1 ≤ k
            · refine GL.stepG (tj := 28) rfl rfl (Ex.wp (v := (.bool true)) (Ex.cast (Ex.geq rfl rfl) (congrArg Value.bool (decide_eq_true hq12))) (by decide)) (fun _ _ => ?_)
              refine GL.val (v := (.bool true)) (Ex.pickT rfl rfl) (by decide) ?_
              refine GL.val (Ex.move rfl) (by decide) ?_
              refine GL.stepG (tj := 32) rfl rfl (Ex.wp (v := (.int .i64 k)) (Ex.move rfl) (by decide)) (fun _ _ => ?_)
              refine GL.stepG (tj := 32) rfl rfl (Ex.wp (v := (.bool (decide (k ≤ 3)))) (Ex.leq rfl rfl) (by decide)) (fun _ _ => ?_)
              refine GL.val (v := (.bool (decide (k ≤ 3)))) (Ex.pickT rfl rfl) (by decide) ?_
              refine GL.val (Ex.assign rfl) (by decide) ?_
              refine GL.nil ?_
              refine GE.thenN ?_
              refine GC.ret ?_
              refine GC.ret1 rfl (Rv.tmp rfl) (fun wN HN => ?_)
              exact HN.ret () trivial (congrArg Value.bool (by exact decide_eq_decide.2 (by omega))) (List.nil_sublist _) rfl
            · refine GL.stepG (tj := 28) rfl rfl (Ex.wp (v := (.bool false)) (Ex.cast (Ex.geq rfl rfl) (congrArg Value.bool (decide_eq_false hq12))) (by decide)) (fun _ _ => ?_)
              refine GL.val (v := (.bool false)) (Ex.pickT rfl rfl) (by decide) ?_
              refine GL.val (Ex.move rfl) (by decide) ?_
              refine GL.skipG (tj := 32) rfl rfl rfl (by decide) ?_
              refine GL.skipG (tj := 32) rfl rfl rfl (by decide) ?_
              refine GL.val (v := (.bool false)) (Ex.pickF rfl rfl) (by decide) ?_
              refine GL.val (Ex.assign rfl) (by decide) ?_
              refine GL.nil ?_
              refine GE.thenN ?_
              refine GC.ret ?_
              refine GC.ret1 rfl (Rv.tmp rfl) (fun wN HN => ?_)
              exact HN.ret () trivial (congrArg Value.bool (by exact (decide_eq_false (by omega)).symm)) (List.nil_sublist _) rfl
          · refine GL.stepG (tj := 24) rfl rfl (Ex.wp (v := (.bool false)) (Ex.cast (Ex.leq rfl rfl) (congrArg Value.bool (decide_eq_false hq11))) (by decide)) (fun _ _ => ?_)
            refine GL.val (v := (.bool false)) (Ex.pickT rfl rfl) (by decide) ?_
            refine GL.val (Ex.move rfl) (by decide) ?_
            refine GL.skipG (tj := 28) rfl rfl rfl (by decide) ?_
            refine GL.skipG (tj := 28) rfl rfl rfl (by decide) ?_
            refine GL.val (v := (.bool false)) (Ex.pickF rfl rfl) (by decide) ?_
            refine GL.val (Ex.move rfl) (by decide) ?_
            refine GL.skipG (tj := 32) rfl rfl rfl (by decide) ?_
            refine GL.skipG (tj := 32) rfl rfl rfl (by decide) ?_
            refine GL.val (v := (.bool false)) (Ex.pickF rfl rfl) (by decide) ?_
            refine GL.val (Ex.assign rfl) (by decide) ?_
            refine GL.nil ?_
            refine GE.thenN ?_
            refine GC.ret ?_
            refine GC.ret1 rfl (Rv.tmp rfl) (fun wN HN => ?_)
            exact HN.ret () trivial (congrArg Value.bool (by exact (decide_eq_false (by omega)).symm)) (List.nil_sublist _) rfl
        · refine GL.stepG (tj := 20) rfl rfl (Ex.wp (v := (.bool false)) (Ex.cast (Ex.geq rfl rfl) (congrArg Value.bool (decide_eq_false hq10))) (by decide)) (fun _ _ => ?_)
          refine GL.val (v := (.bool false)) (Ex.pickT rfl rfl) (by decide) ?_
          refine GL.val (Ex.move rfl) (by decide) ?_
          refine GL.skipG (tj := 24) rfl rfl rfl (by decide) ?_
          refine GL.skipG (tj := 24) rfl rfl rfl (by decide) ?_
          refine GL.val (v := (.bool false)) (Ex.pickF rfl rfl) (by decide) ?_
          refine GL.val (Ex.move rfl) (by decide) ?_
          refine GL.skipG (tj := 28) rfl rfl rfl (by decide) ?_
          refine GL.skipG (tj := 28) rfl rfl rfl (by decide) ?_
          refine GL.val (v := (.bool false)) (Ex.pickF rfl rfl) (by decide) ?_
          refine GL.val (Ex.move rfl) (by decide) ?_
          refine GL.skipG (tj := 32) rfl rfl rfl (by decide) ?_
          refine GL.skipG (tj := 32) rfl rfl rfl (by decide) ?_
          refine GL.val (v := (.bool false)) (Ex.pickF rfl rfl) (by decide) ?_
          refine GL.val (Ex.assign rfl) (by decide) ?_
          refine GL.nil ?_
          refine GE.thenN ?_
          refine GC.ret ?_
          refine GC.ret1 rfl (Rv.tmp rfl) (fun wN HN => ?_)
          exact HN.ret () trivial (congrArg Value.bool (by exact (decide_eq_false (by omega)).symm)) (List.nil_sublist _) rfl
      · refine GL.stepG (tj := 15) rfl rfl (Ex.wp (v := (.bool false)) (Ex.cast (Ex.eql rfl rfl) (congrArg Value.bool (decide_eq_false hq9))) (by decide)) (fun _ _ => ?_)
        refine GL.stepG (tj := 12) rfl rfl (Ex.wp (v := (.bool false)) (Ex.pickF rfl rfl) (by decide)) (fun _ _ => ?_)
        refine GL.val (v := (.bool false)) (Ex.pickT rfl rfl) (by decide) ?_
        refine GL.val (Ex.move rfl) (by decide) ?_
        refine GL.skipG (tj := 20) rfl rfl rfl (by decide) ?_
        refine GL.skipG (tj := 20) rfl rfl rfl (by decide) ?_
        refine GL.val (v := (.bool false)) (Ex.pickF rfl rfl) (by decide) ?_
        refine GL.val (Ex.move rfl) (by decide) ?_
        refine GL.skipG (tj := 24) rfl rfl rfl (by decide) ?_
        refine GL.skipG (tj := 24) rfl rfl rfl (by decide) ?_
        refine GL.val (v := (.bool false)) (Ex.pickF rfl rfl) (by decide) ?_
        refine GL.val (Ex.move rfl) (by decide) ?_
        refine GL.skipG (tj := 28) rfl rfl rfl (by decide) ?_
        refine GL.skipG (tj := 28) rfl rfl rfl (by decide) ?_
        refine GL.val (v := (.bool false)) (Ex.pickF rfl rfl) (by decide) ?_
        refine GL.val (Ex.move rfl) (by decide) ?_
        refine GL.skipG (tj := 32) rfl rfl rfl (by decide) ?_
        refine GL.skipG (tj := 32) rfl rfl rfl (by decide) ?_
        refine GL.val (v := (.bool false)) (Ex.pickF rfl rfl) (by decide) ?_
        refine GL.val (Ex.assign rfl) (by decide) ?_
        refine GL.nil ?_
        refine GE.thenN ?_
        refine GC.ret ?_
        refine GC.ret1 rfl (Rv.tmp rfl) (fun wN HN => ?_)
        exact HN.ret () trivial (congrArg Value.bool (by exact (decide_eq_false (by omega)).symm)) (List.nil_sublist _) rfl
  · refine GL.val (v := (.bool false)) (Ex.cast (Ex.eql rfl rfl) (congrArg Value.bool (decide_eq_false hq4))) (by decide) ?_
    refine GL.val (Ex.move rfl) (by decide) ?_
    refine GL.skipG (tj := 12) rfl rfl rfl (by decide) ?_
    refine GL.skipG (tj := 12) rfl rfl rfl (by decide) ?_
    refine GL.skipG (tj := 12) rfl rfl rfl (by decide) ?_
    refine GL.skipU (tj := 15) rfl rfl (by decide) ?_
    refine GL.skipU (tj := 15) rfl rfl (by decide) ?_
    refine GL.skipG (tj := 12) rfl rfl rfl (by decide) ?_
    refine GL.val (v := (.bool false)) (Ex.pickF rfl rfl) (by decide) ?_
    refine GL.val (Ex.move rfl) (by decide) ?_
    refine GL.skipG (tj := 20) rfl rfl rfl (by decide) ?_
    refine GL.skipG (tj := 20) rfl rfl rfl (by decide) ?_
    refine GL.val (v := (.bool false)) (Ex.pickF rfl rfl) (by decide) ?_
    refine GL.val (Ex.move rfl) (by decide) ?_
    refine GL.skipG (tj := 24) rfl rfl rfl (by decide) ?_
    refine GL.skipG (tj := 24) rfl rfl rfl (by decide) ?_
    refine GL.val (v := (.bool false)) (Ex.pickF rfl rfl) (by decide) ?_
    refine GL.val (Ex.move rfl) (by decide) ?_
    refine GL.skipG (tj := 28) rfl rfl rfl (by decide) ?_
    refine GL.skipG (tj := 28) rfl rfl rfl (by decide) ?_
    refine GL.val (v := (.bool false)) (Ex.pickF rfl rfl) (by decide) ?_
    refine GL.val (Ex.move rfl) (by decide) ?_
    refine GL.skipG (tj := 32) rfl rfl rfl (by decide) ?_
    refine GL.skipG (tj := 32) rfl rfl rfl (by decide) ?_
    refine GL.val (v := (.bool false)) (Ex.pickF rfl rfl) (by decide) ?_
    refine GL.val (Ex.assign rfl) (by decide) ?_
    refine GL.nil ?_
    refine GE.thenN ?_
    refine GC.ret ?_
    refine GC.ret1 rfl (Rv.tmp rfl) (fun wN HN => ?_)
    exact HN.ret () trivial (congrArg Value.bool (by exact (decide_eq_false (by omega)).symm)) (List.nil_sublist _) rfl

set_option maxRecDepth 100000 in
set_option maxHeartbeats 1000000 in
theorem nd_ok (W H n cap b o : Nat) (kd k : Int) (r x y : Nat) (s : Int) (xs : List Int) (w : World) (hok : okP W H) (hn : n = W * H) (hx0 : xs.length = n) (hu : ∀ v ∈ xs, 0 ≤ v ∧ v < 4294967296) (hr : Rd w b o (xs.map u32)) (hk : 1 ≤ k ∧ k ≤ 3) (hkd : kd = 1 ∨ kd = 2) (hrr : r ≤ 7) (hx : x < W) (hy : y < H) (hs : 0 ≤ s ∧ s < 4294967296) :
    Calls Try.prog 11 #[(.agg #[(.int .i64 (((W : Nat) : Int))), (.int .i64 (((H : Nat) : Int))), (.slice (some ⟨b, o, none⟩) n cap)]), (.int .i64 kd), (.int .i64 (((r : Nat) : Int))), (.int .i64 k), (.int .i64 (((x : Nat) : Int))), (.int .i64 (((y : Nat) : Int))), (.int .u32 s)] w (Ret w (fun _ : Unit => True) (fun _ => .bool true) (fun _ => [])) := by
  have hW1 := hok.1
  have hH1 := hok.2.1
  have hW2 := hok.2.2.1
  have hH2 := hok.2.2.2.1
  have hA := hok.2.2.2.2
  refine enter (M := None) (L := []) (n := 164) (l := [(0, (.agg #[(.int .i64 (((W : Nat) : Int))), (.int .i64 (((H : Nat) : Int))), (.slice (some ⟨b, o, none⟩) n cap)])), (1, (.int .i64 kd)), (2, (.int .i64 (((r : Nat) : Int)))), (3, (.int .i64 k)), (4, (.int .i64 (((x : Nat) : Int)))), (5, (.int .i64 (((y : Nat) : Int)))), (6, (.int .u32 s))]) Try.func11 rfl rfl (Args.cons rfl (Args.cons rfl (Args.cons rfl (Args.cons rfl (Args.cons rfl (Args.cons rfl (Args.cons rfl (Args.nil _)))))))) (Hp.start _ _) ?_
  refine GC.seq ?_
  refine GC.region ?_
  refine GL.step (Stp.box (cs := [(.int .i64 (((W : Nat) : Int))), (.int .i64 (((H : Nat) : Int))), (.slice (some ⟨b, o, none⟩) n cap)]) rfl rfl (by decide)) (fun bq1 _ => ?_)
  refine GL.val (Ex.assign rfl) (by decide) ?_
  refine GL.nil ?_
  refine GE.thenN ?_
  refine GC.seq ?_
  refine GC.seq ?_
  refine GC.region ?_
  refine GL.step (Stp.callR (vs := []) rfl rfl T.own12 (by decide) (fun wc hw => known wc)) (fun xq2 hq3 => ?_)
  refine GL.val (v := (.bool false)) (Ex.cast (Ex.not rfl) rfl) (by decide) ?_
  refine GL.nil ?_
  refine GE.thenN ?_
  refine GC.cond rfl (fun hq4 => by cases hq4) (fun _ => ?_)
  refine GC.skip ?_
  refine GE.thenN ?_
  refine GC.seq ?_
  refine GC.seq ?_
  refine GC.region ?_
  refine GL.val (v := (.agg #[(.int .i64 (((W : Nat) : Int))), (.int .i64 (((H : Nat) : Int))), (.slice (some ⟨b, o, none⟩) n cap)])) (Ex.loadA rfl T.ag43 T.sz43 (i := 0) rfl (vs := [(.int .i64 (((W : Nat) : Int))), (.int .i64 (((H : Nat) : Int))), (.slice (some ⟨b, o, none⟩) n cap)]) rfl rfl) (by decide) ?_
  refine GL.val (Ex.move rfl) (by decide) ?_
  refine GL.val (Ex.move rfl) (by decide) ?_
  refine GL.val (Ex.move rfl) (by decide) ?_
  refine GL.step (Stp.callR (vs := [(.agg #[(.int .i64 (((W : Nat) : Int))), (.int .i64 (((H : Nat) : Int))), (.slice (some ⟨b, o, none⟩) n cap)]), (.int .i64 kd), (.int .i64 (((r : Nat) : Int))), (.int .i64 k)]) rfl rfl T.own27 (by decide) (fun wc hw => right_p (((W : Nat) : Int)) (((H : Nat) : Int)) (some ⟨b, o, none⟩) n cap kd (((r : Nat) : Int)) k wc)) (fun xq5 hq6 => ?_)
  refine GL.val (v := (.bool false)) (Ex.cast (Ex.not rfl) (congrArg Value.bool (congrArg (fun z => !z) ((by show Bc.rightB ((W : Nat) : Int) ((H : Nat) : Int) n kd ((r : Nat) : Int) k = true; exact decide_eq_true ⟨by rw [hn]; exact chk_ok hok, hkd, by omega, by omega, hk⟩))))) (by decide) ?_
  refine GL.val (Ex.move rfl) (by decide) ?_
  refine GL.stepG (tj := 35) rfl rfl (Ex.wp (v := (.int .i64 (((x : Nat) : Int)))) (Ex.move rfl) (by decide)) (fun _ _ => ?_)
  refine GL.stepG (tj := 35) rfl rfl (Ex.wp (v := (.bool false)) (Ex.cast (Ex.lss rfl rfl) (congrArg Value.bool (decide_eq_false (by omega)))) (by decide)) (fun _ _ => ?_)
  refine GL.val (v := (.bool false)) (Ex.pickF rfl rfl) (by decide) ?_
  refine GL.val (Ex.move rfl) (by decide) ?_
  refine GL.stepG (tj := 39) rfl rfl (Ex.wp (v := (.int .i64 (((y : Nat) : Int)))) (Ex.move rfl) (by decide)) (fun _ _ => ?_)
  refine GL.stepG (tj := 39) rfl rfl (Ex.wp (v := (.bool false)) (Ex.cast (Ex.lss rfl rfl) (congrArg Value.bool (decide_eq_false (by omega)))) (by decide)) (fun _ _ => ?_)
  refine GL.val (v := (.bool false)) (Ex.pickF rfl rfl) (by decide) ?_
  refine GL.val (Ex.move rfl) (by decide) ?_
  refine GL.stepG (tj := 43) rfl rfl (Ex.wp (v := (.int .i64 (((x : Nat) : Int)))) (Ex.move rfl) (by decide)) (fun _ _ => ?_)
  refine GL.stepG (tj := 43) rfl rfl (Ex.wp (v := (.pointer (some ⟨bq1, 0, none⟩))) (Ex.cast (Ex.fieldAddr rfl Try.underlying43 rfl T.sz3 (by decide)) rfl) (by decide)) (fun _ _ => ?_)
  refine GL.stepG (tj := 43) rfl rfl (Ex.wp (v := (.int .i64 (((W : Nat) : Int)))) (Ex.load rfl T.ag3 (i := 0) rfl rfl) (by decide)) (fun _ _ => ?_)
  refine GL.stepG (tj := 43) rfl rfl (Ex.wp (v := (.bool false)) (Ex.cast (Ex.geq rfl rfl) (congrArg Value.bool (decide_eq_false (by omega)))) (by decide)) (fun _ _ => ?_)
  refine GL.val (v := (.bool false)) (Ex.pickF rfl rfl) (by decide) ?_
  refine GL.val (Ex.move rfl) (by decide) ?_
  refine GL.stepG (tj := 49) rfl rfl (Ex.wp (v := (.int .i64 (((y : Nat) : Int)))) (Ex.move rfl) (by decide)) (fun _ _ => ?_)
  refine GL.stepG (tj := 49) rfl rfl (Ex.wp (v := (.pointer (some ⟨bq1, 1, none⟩))) (Ex.cast (Ex.fieldAddr rfl Try.underlying43 rfl T.sz3 (by decide)) rfl) (by decide)) (fun _ _ => ?_)
  refine GL.stepG (tj := 49) rfl rfl (Ex.wp (v := (.int .i64 (((H : Nat) : Int)))) (Ex.load rfl T.ag3 (i := 0) rfl rfl) (by decide)) (fun _ _ => ?_)
  refine GL.stepG (tj := 49) rfl rfl (Ex.wp (v := (.bool false)) (Ex.cast (Ex.geq rfl rfl) (congrArg Value.bool (decide_eq_false (by omega)))) (by decide)) (fun _ _ => ?_)
  refine GL.val (v := (.bool false)) (Ex.pickF rfl rfl) (by decide) ?_
  refine GL.nil ?_
  refine GE.thenN ?_
  refine GC.cond rfl (fun hq7 => by cases hq7) (fun _ => ?_)
  refine GC.skip ?_
  refine GE.thenN ?_
  refine GC.seq ?_
  refine GC.region ?_
  refine GL.val (v := (.pointer (some ⟨bq1, 0, none⟩))) (Ex.cast (Ex.fieldAddr rfl Try.underlying43 rfl T.sz3 (by decide)) rfl) (by decide) ?_
  refine GL.val (Ex.load rfl T.ag3 (i := 0) rfl rfl) (by decide) ?_
  refine GL.val (v := (.pointer (some ⟨bq1, 1, none⟩))) (Ex.cast (Ex.fieldAddr rfl Try.underlying43 rfl T.sz3 (by decide)) rfl) (by decide) ?_
  refine GL.val (Ex.load rfl T.ag3 (i := 0) rfl rfl) (by decide) ?_
  refine GL.val (Ex.move rfl) (by decide) ?_
  refine GL.step (Stp.callR (vs := [(.int .i64 (((W : Nat) : Int))), (.int .i64 (((H : Nat) : Int))), (.int .u32 s)]) rfl rfl T.own36 (by decide) (fun wc hw => new_ok W H s wc hok)) (fun xq8 hq9 => ?_)
  refine GL.val (Ex.move rfl) (by decide) ?_
  refine GL.val (Ex.extract rfl rfl) (by decide) ?_
  refine GL.val (Ex.extract rfl rfl) (by decide) ?_
  refine GL.step (Stp.alloc T.zr43 (by decide)) (fun bq10 _ => ?_)
  refine GL.step (Stp.st0 (cs' := [(.int .i64 (((W : Nat) : Int))), (.int .i64 (((H : Nat) : Int))), (.slice (some ⟨xq8, 0, none⟩) (W * H) (W * H))]) rfl rfl rfl T.sz43 rfl rfl rfl) (fun _ _ => ?_)
  refine GL.val (Ex.assign rfl) (by decide) ?_
  refine GL.nil ?_
  refine GE.thenN ?_
  refine GC.seq ?_
  refine GC.seq ?_
  refine GC.region ?_
  refine GL.val (Ex.move rfl) (by decide) ?_
  refine GL.val (Ex.move rfl) (by decide) ?_
  refine GL.val (v := (.int .i64 ((((y : Nat) : Int) + (((0 : Nat) : Int) - ((r : Nat) : Int)))))) (Ex.sub' rfl rfl (Z := (((y : Nat) : Int) + (((0 : Nat) : Int) - ((r : Nat) : Int)))) (by rw [w64 (by omega)]; omega)) (by decide) ?_
  refine GL.val (Ex.assign rfl) (by decide) ?_
  refine GL.nil ?_
  refine GE.thenN ?_
  refine GC.block ?_
  refine GC.loop (σ := Nat × List Int) (fun qa => qa.1 ≤ 2 * r + 1 ∧ Bc.near xs qa.2 W H k r x y qa.1 0) (fun qa => [(0, (.agg #[(.int .i64 (((W : Nat) : Int))), (.int .i64 (((H : Nat) : Int))), (.slice (some ⟨b, o, none⟩) n cap)])), (1, (.int .i64 kd)), (2, (.int .i64 (((r : Nat) : Int)))), (3, (.int .i64 k)), (4, (.int .i64 (((x : Nat) : Int)))), (5, (.int .i64 (((y : Nat) : Int)))), (6, (.int .u32 s)), (7, (.pointer (some ⟨bq1, 0, none⟩))), (14, (.bool false)), (15, (.pointer (some ⟨bq10, 0, none⟩))), (16, (.int .i64 0)), (17, (.int .i64 ((((y : Nat) : Int) + (((qa.1 : Nat) : Int) - ((r : Nat) : Int))))))]) (fun qa => [⟨bq10, [(.int .i64 (((W : Nat) : Int))), (.int .i64 (((H : Nat) : Int))), (.slice (some ⟨xq8, 0, none⟩) (W * H) (W * H))], 43, true⟩, ⟨xq8, qa.2.map u32, 63, true⟩, ⟨bq1, [(.int .i64 (((W : Nat) : Int))), (.int .i64 (((H : Nat) : Int))), (.slice (some ⟨b, o, none⟩) n cap)], 43, true⟩]) (fun qa => 2 * r + 1 - qa.1) ((0, (tab W (fun _ _ => s) (W * H)))) ⟨Nat.zero_le _, (by dsimp only; exact Bc.near_zero (tab_len _ _ _) (Bg.tab_bd fun _ _ => hs))⟩ ((sub_cons rfl ((sub_cons rfl ((sub_cons rfl ((sub_cons rfl ((sub_cons rfl ((sub_cons rfl ((sub_cons rfl ((sub_cons rfl ((sub_cons rfl ((sub_cons rfl ((sub_cons rfl ((sub_cons rfl ((sub_nil _)))))))))))))))))))))))))) (ulC (ulC (ulC ulN))) (fun qa hp => ?_)
  obtain ⟨a, ys⟩ := qa
  have hpa : a ≤ 2 * r + 1 ∧ Bc.near xs ys W H k r x y a 0 := hp
  have hla := hpa.2.1
  have hba := hpa.2.2.1
  refine GC.seq ?_
  refine GC.seq ?_
  refine GC.region ?_
  refine GL.val (Ex.move rfl) (by decide) ?_
  refine GL.val (Ex.move rfl) (by decide) ?_
  refine GL.val (Ex.move rfl) (by decide) ?_
  refine GL.val (v := (.int .i64 ((((y : Nat) : Int)) + (((r : Nat) : Int))))) (Ex.add rfl rfl (Z := (((y : Nat) : Int)) + (((r : Nat) : Int))) (w64 (by omega))) (by decide) ?_
  refine GL.val (v := (.bool (decide (((((y : Nat) : Int) + (((a : Nat) : Int) - ((r : Nat) : Int)))) ≤ ((((y : Nat) : Int)) + (((r : Nat) : Int))))))) (Ex.leq rfl rfl) (by decide) ?_
  refine GL.nil ?_
  refine GE.thenN ?_
  refine GC.cond rfl (fun hq11 => ?_) (fun hq11 => ?_)
  · replace hq11 := of_decide_eq_true hq11
    refine GC.skip ?_
    refine GE.thenN ?_
    refine GC.seq ?_
    refine GC.block ?_
    refine GC.seq ?_
    refine GC.region ?_
    refine GL.val (Ex.move rfl) (by decide) ?_
    refine GL.val (Ex.move rfl) (by decide) ?_
    refine GL.val (v := (.int .i64 ((((x : Nat) : Int) + (((0 : Nat) : Int) - ((r : Nat) : Int)))))) (Ex.sub' rfl rfl (Z := (((x : Nat) : Int) + (((0 : Nat) : Int) - ((r : Nat) : Int)))) (by rw [w64 (by omega)]; omega)) (by decide) ?_
    refine GL.val (Ex.assign rfl) (by decide) ?_
    refine GL.nil ?_
    refine GE.thenN ?_
    refine GC.block ?_
    refine GC.loop (σ := Nat × List Int) (fun qb => qb.1 ≤ 2 * r + 1 ∧ Bc.near xs qb.2 W H k r x y a qb.1) (fun qb => [(0, (.agg #[(.int .i64 (((W : Nat) : Int))), (.int .i64 (((H : Nat) : Int))), (.slice (some ⟨b, o, none⟩) n cap)])), (1, (.int .i64 kd)), (2, (.int .i64 (((r : Nat) : Int)))), (3, (.int .i64 k)), (4, (.int .i64 (((x : Nat) : Int)))), (5, (.int .i64 (((y : Nat) : Int)))), (6, (.int .u32 s)), (7, (.pointer (some ⟨bq1, 0, none⟩))), (14, (.bool false)), (15, (.pointer (some ⟨bq10, 0, none⟩))), (16, (.int .i64 0)), (17, (.int .i64 ((((y : Nat) : Int) + (((a : Nat) : Int) - ((r : Nat) : Int)))))), (18, (.int .i64 ((((x : Nat) : Int) + (((qb.1 : Nat) : Int) - ((r : Nat) : Int))))))]) (fun qb => [⟨bq10, [(.int .i64 (((W : Nat) : Int))), (.int .i64 (((H : Nat) : Int))), (.slice (some ⟨xq8, 0, none⟩) (W * H) (W * H))], 43, true⟩, ⟨xq8, qb.2.map u32, 63, true⟩, ⟨bq1, [(.int .i64 (((W : Nat) : Int))), (.int .i64 (((H : Nat) : Int))), (.slice (some ⟨b, o, none⟩) n cap)], 43, true⟩]) (fun qb => 2 * r + 1 - qb.1) ((0, ys)) ⟨Nat.zero_le _, hpa.2⟩ ((sub_cons rfl ((sub_cons rfl ((sub_cons rfl ((sub_cons rfl ((sub_cons rfl ((sub_cons rfl ((sub_cons rfl ((sub_cons rfl ((sub_cons rfl ((sub_cons rfl ((sub_cons rfl ((sub_cons rfl ((sub_cons rfl ((sub_nil _)))))))))))))))))))))))))))) (ulC (ulC (ulC ulN))) (fun qb hp => ?_)
    obtain ⟨b', zs⟩ := qb
    have hpb : b' ≤ 2 * r + 1 ∧ Bc.near xs zs W H k r x y a b' := hp
    have hlb := hpb.2.1
    refine GC.seq ?_
    refine GC.seq ?_
    refine GC.region ?_
    refine GL.val (Ex.move rfl) (by decide) ?_
    refine GL.val (Ex.move rfl) (by decide) ?_
    refine GL.val (Ex.move rfl) (by decide) ?_
    refine GL.val (v := (.int .i64 ((((x : Nat) : Int)) + (((r : Nat) : Int))))) (Ex.add rfl rfl (Z := (((x : Nat) : Int)) + (((r : Nat) : Int))) (w64 (by omega))) (by decide) ?_
    refine GL.val (v := (.bool (decide (((((x : Nat) : Int) + (((b' : Nat) : Int) - ((r : Nat) : Int)))) ≤ ((((x : Nat) : Int)) + (((r : Nat) : Int))))))) (Ex.leq rfl rfl) (by decide) ?_
    refine GL.nil ?_
    refine GE.thenN ?_
    refine GC.cond rfl (fun hq12 => ?_) (fun hq12 => ?_)
    · replace hq12 := of_decide_eq_true hq12
      refine GC.skip ?_
      refine GE.thenN ?_
      refine GC.seq ?_
      refine GC.block ?_
      refine GC.seq ?_
      refine GC.region ?_
      refine GL.val (Ex.move rfl) (by decide) ?_
      refine GL.val (v := (.pointer (some ⟨bq1, 0, none⟩))) (Ex.cast (Ex.fieldAddr rfl Try.underlying43 rfl T.sz3 (by decide)) rfl) (by decide) ?_
      refine GL.val (Ex.load rfl T.ag3 (i := 2) rfl rfl) (by decide) ?_
      refine GL.val (Ex.move rfl) (by decide) ?_
      refine GL.step (Stp.callR (σ := Unit) (p := fun rz => True) (v := fun rz => (.tuple #[(.int .i64 ((((bord k ((W : Nat) : Int) ((((x : Nat) : Int) + (((b' : Nat) : Int) - ((r : Nat) : Int))))).1.toNat : Nat) : Int))), (.int .i64 0)])) (N := fun rz => []) (vs := [(.int .i64 k), (.int .i64 (((W : Nat) : Int))), (.int .i64 ((((x : Nat) : Int) + (((b' : Nat) : Int) - ((r : Nat) : Int)))))]) rfl rfl T.own37 (by decide) (fun wc hw => (by have h := border k ((W : Nat) : Int) ((((x : Nat) : Int) + (((b' : Nat) : Int) - ((r : Nat) : Int)))) wc; have hb := bord_ok (i := ((((x : Nat) : Int) + (((b' : Nat) : Int) - ((r : Nat) : Int))))) hk.1 hk.2 (show (1 : Int) ≤ (W : Nat) by omega) (show ((W : Nat) : Int) ≤ 1024 by omega); rw [hb.1, show (bord k ((W : Nat) : Int) ((((x : Nat) : Int) + (((b' : Nat) : Int) - ((r : Nat) : Int))))).1 = (((bord k ((W : Nat) : Int) ((((x : Nat) : Int) + (((b' : Nat) : Int) - ((r : Nat) : Int))))).1.toNat : Nat) : Int) from (Int.toNat_of_nonneg hb.2.1).symm] at h; exact h))) (fun xq13 hq14 => ?_)
      refine GL.val (Ex.move rfl) (by decide) ?_
      refine GL.val (Ex.extract rfl rfl) (by decide) ?_
      refine GL.val (Ex.extract rfl rfl) (by decide) ?_
      refine GL.val (Ex.assign rfl) (by decide) ?_
      refine GL.val (Ex.assign rfl) (by decide) ?_
      refine GL.nil ?_
      refine GE.thenN ?_
      refine GC.seq ?_
      refine GC.region ?_
      refine GL.val (Ex.move rfl) (by decide) ?_
      refine GL.val (v := (.pointer (some ⟨bq1, 1, none⟩))) (Ex.cast (Ex.fieldAddr rfl Try.underlying43 rfl T.sz3 (by decide)) rfl) (by decide) ?_
      refine GL.val (Ex.load rfl T.ag3 (i := 2) rfl rfl) (by decide) ?_
      refine GL.val (Ex.move rfl) (by decide) ?_
      refine GL.step (Stp.callR (σ := Unit) (p := fun rz => True) (v := fun rz => (.tuple #[(.int .i64 ((((bord k ((H : Nat) : Int) ((((y : Nat) : Int) + (((a : Nat) : Int) - ((r : Nat) : Int))))).1.toNat : Nat) : Int))), (.int .i64 0)])) (N := fun rz => []) (vs := [(.int .i64 k), (.int .i64 (((H : Nat) : Int))), (.int .i64 ((((y : Nat) : Int) + (((a : Nat) : Int) - ((r : Nat) : Int)))))]) rfl rfl T.own37 (by decide) (fun wc hw => (by have h := border k ((H : Nat) : Int) ((((y : Nat) : Int) + (((a : Nat) : Int) - ((r : Nat) : Int)))) wc; have hb := bord_ok (i := ((((y : Nat) : Int) + (((a : Nat) : Int) - ((r : Nat) : Int))))) hk.1 hk.2 (show (1 : Int) ≤ (H : Nat) by omega) (show ((H : Nat) : Int) ≤ 1024 by omega); rw [hb.1, show (bord k ((H : Nat) : Int) ((((y : Nat) : Int) + (((a : Nat) : Int) - ((r : Nat) : Int))))).1 = (((bord k ((H : Nat) : Int) ((((y : Nat) : Int) + (((a : Nat) : Int) - ((r : Nat) : Int))))).1.toNat : Nat) : Int) from (Int.toNat_of_nonneg hb.2.1).symm] at h; exact h))) (fun xq15 hq16 => ?_)
      refine GL.val (Ex.move rfl) (by decide) ?_
      refine GL.val (Ex.extract rfl rfl) (by decide) ?_
      refine GL.val (Ex.extract rfl rfl) (by decide) ?_
      refine GL.val (Ex.assign rfl) (by decide) ?_
      refine GL.val (Ex.assign rfl) (by decide) ?_
      refine GL.nil ?_
      refine GE.thenN ?_
      have hXB : (bord k ((W : Nat) : Int) (((x : Nat) : Int) + (((b' : Nat) : Int) - ((r : Nat) : Int)))).1.toNat < W := Bg.bX hk hok
      have hYB : (bord k ((H : Nat) : Int) (((y : Nat) : Int) + (((a : Nat) : Int) - ((r : Nat) : Int)))).1.toNat < H := Bg.bY hk hok
      have hpl := place_lt hXB hYB
      refine GC.drawP [⟨bq10, [(.int .i64 (((W : Nat) : Int))), (.int .i64 (((H : Nat) : Int))), (.slice (some ⟨xq8, 0, none⟩) (W * H) (W * H))], 43, true⟩, ⟨bq1, [(.int .i64 (((W : Nat) : Int))), (.int .i64 (((H : Nat) : Int))), (.slice (some ⟨b, o, none⟩) n cap)], 43, true⟩] T.mixed (by kernel_rfl) (by kernel_rfl) (fuel := 19) rfl rfl ?_
      refine GH.take 0 (v := (.pointer (some ⟨bq10, 2, none⟩))) rfl (by kernel_rfl) (by kernel_rfl) (by kernel_rfl) (fun _ _ _ h => h) (Ex.cast (Ex.fieldAddr rfl Try.underlying43 rfl T.sz41 (by decide)) rfl) (ulC (ulS (ulC ulN))) (by decide) ?_
      refine GH.take 1 (v := (.slice (some ⟨xq8, 0, none⟩) (W * H) (W * H))) rfl (by kernel_rfl) (by kernel_rfl) (by kernel_rfl) (fun _ _ _ h => h) (Ex.load rfl T.ag41 (i := 0) rfl rfl) (ulC (ulS (ulC ulN))) (by decide) ?_
      refine GH.take 2 (v := (.int .i64 ((((bord k ((H : Nat) : Int) ((((y : Nat) : Int) + (((a : Nat) : Int) - ((r : Nat) : Int))))).1.toNat : Nat) : Int)))) rfl (by kernel_rfl) (by kernel_rfl) (by kernel_rfl) (fun _ _ _ h => h) (Ex.move rfl) (ulC (ulS (ulC ulN))) (by decide) ?_
      refine GH.take 3 (v := (.pointer (some ⟨bq1, 0, none⟩))) rfl (by kernel_rfl) (by kernel_rfl) (by kernel_rfl) (fun _ _ _ h => h) (Ex.cast (Ex.fieldAddr rfl Try.underlying43 rfl T.sz3 (by decide)) rfl) (ulC (ulS (ulC ulN))) (by decide) ?_
      refine GH.take 4 (v := (.int .i64 (((W : Nat) : Int)))) rfl (by kernel_rfl) (by kernel_rfl) (by kernel_rfl) (fun _ _ _ h => h) (Ex.load rfl T.ag3 (i := 1) rfl rfl) (ulC (ulS (ulC ulN))) (by decide) ?_
      refine GH.take 5 (v := (.int .i64 (((W * (bord k ((H : Nat) : Int) (((y : Nat) : Int) + (((a : Nat) : Int) - ((r : Nat) : Int)))).1.toNat : Nat) : Int)))) rfl (by kernel_rfl) (by kernel_rfl) (by kernel_rfl) (fun _ _ _ h => h) (Ex.mul rfl rfl (Z := ((W * (bord k ((H : Nat) : Int) (((y : Nat) : Int) + (((a : Nat) : Int) - ((r : Nat) : Int)))).1.toNat : Nat) : Int)) (mulN' (by omega))) (ulC (ulS (ulC ulN))) (by decide) ?_
      refine GH.take 6 (v := (.int .i64 ((((bord k ((W : Nat) : Int) ((((x : Nat) : Int) + (((b' : Nat) : Int) - ((r : Nat) : Int))))).1.toNat : Nat) : Int)))) rfl (by kernel_rfl) (by kernel_rfl) (by kernel_rfl) (fun _ _ _ h => h) (Ex.move rfl) (ulC (ulS (ulC ulN))) (by decide) ?_
      refine GH.take 7 (v := (.int .i64 (((W * (bord k ((H : Nat) : Int) (((y : Nat) : Int) + (((a : Nat) : Int) - ((r : Nat) : Int)))).1.toNat + (bord k ((W : Nat) : Int) (((x : Nat) : Int) + (((b' : Nat) : Int) - ((r : Nat) : Int)))).1.toNat : Nat) : Int)))) rfl (by kernel_rfl) (by kernel_rfl) (by kernel_rfl) (fun _ _ _ h => h) (Ex.add rfl rfl (Z := ((W * (bord k ((H : Nat) : Int) (((y : Nat) : Int) + (((a : Nat) : Int) - ((r : Nat) : Int)))).1.toNat + (bord k ((W : Nat) : Int) (((x : Nat) : Int) + (((b' : Nat) : Int) - ((r : Nat) : Int)))).1.toNat : Nat) : Int)) (addN (by omega))) (ulC (ulS (ulC ulN))) (by decide) ?_
      refine GH.take 8 (v := (.pointer (some ⟨bq1, 2, none⟩))) rfl (by kernel_rfl) (by kernel_rfl) (by kernel_rfl) (fun _ _ _ h => h) (Ex.cast (Ex.fieldAddr rfl Try.underlying43 rfl T.sz41 (by decide)) rfl) (ulC (ulS (ulC ulN))) (by decide) ?_
      refine GH.take 9 (v := (.slice (some ⟨b, o, none⟩) n cap)) rfl (by kernel_rfl) (by kernel_rfl) (by kernel_rfl) (fun _ _ _ h => h) (Ex.load rfl T.ag41 (i := 1) rfl rfl) (ulC (ulS (ulC ulN))) (by decide) ?_
      refine GH.take 10 (v := (.int .i64 ((((bord k ((H : Nat) : Int) ((((y : Nat) : Int) + (((a : Nat) : Int) - ((r : Nat) : Int))))).1.toNat : Nat) : Int)))) rfl (by kernel_rfl) (by kernel_rfl) (by kernel_rfl) (fun _ _ _ h => h) (Ex.move rfl) (ulC (ulS (ulC ulN))) (by decide) ?_
      refine GH.take 11 (v := (.pointer (some ⟨bq1, 0, none⟩))) rfl (by kernel_rfl) (by kernel_rfl) (by kernel_rfl) (fun _ _ _ h => h) (Ex.cast (Ex.fieldAddr rfl Try.underlying43 rfl T.sz3 (by decide)) rfl) (ulC (ulS (ulC ulN))) (by decide) ?_
      refine GH.take 12 (v := (.int .i64 (((W : Nat) : Int)))) rfl (by kernel_rfl) (by kernel_rfl) (by kernel_rfl) (fun _ _ _ h => h) (Ex.load rfl T.ag3 (i := 1) rfl rfl) (ulC (ulS (ulC ulN))) (by decide) ?_
      refine GH.take 13 (v := (.int .i64 (((W * (bord k ((H : Nat) : Int) (((y : Nat) : Int) + (((a : Nat) : Int) - ((r : Nat) : Int)))).1.toNat : Nat) : Int)))) rfl (by kernel_rfl) (by kernel_rfl) (by kernel_rfl) (fun _ _ _ h => h) (Ex.mul rfl rfl (Z := ((W * (bord k ((H : Nat) : Int) (((y : Nat) : Int) + (((a : Nat) : Int) - ((r : Nat) : Int)))).1.toNat : Nat) : Int)) (mulN' (by omega))) (ulC (ulS (ulC ulN))) (by decide) ?_
      refine GH.take 14 (v := (.int .i64 ((((bord k ((W : Nat) : Int) ((((x : Nat) : Int) + (((b' : Nat) : Int) - ((r : Nat) : Int))))).1.toNat : Nat) : Int)))) rfl (by kernel_rfl) (by kernel_rfl) (by kernel_rfl) (fun _ _ _ h => h) (Ex.move rfl) (ulC (ulS (ulC ulN))) (by decide) ?_
      refine GH.take 15 (v := (.int .i64 (((W * (bord k ((H : Nat) : Int) (((y : Nat) : Int) + (((a : Nat) : Int) - ((r : Nat) : Int)))).1.toNat + (bord k ((W : Nat) : Int) (((x : Nat) : Int) + (((b' : Nat) : Int) - ((r : Nat) : Int)))).1.toNat : Nat) : Int)))) rfl (by kernel_rfl) (by kernel_rfl) (by kernel_rfl) (fun _ _ _ h => h) (Ex.add rfl rfl (Z := ((W * (bord k ((H : Nat) : Int) (((y : Nat) : Int) + (((a : Nat) : Int) - ((r : Nat) : Int)))).1.toNat + (bord k ((W : Nat) : Int) (((x : Nat) : Int) + (((b' : Nat) : Int) - ((r : Nat) : Int)))).1.toNat : Nat) : Int)) (addN (by omega))) (ulC (ulS (ulC ulN))) (by decide) ?_
      refine GH.take 16 (v := (.pointer (some ⟨b, o + (W * (bord k ((H : Nat) : Int) (((y : Nat) : Int) + (((a : Nat) : Int) - ((r : Nat) : Int)))).1.toNat + (bord k ((W : Nat) : Int) (((x : Nat) : Int) + (((b' : Nat) : Int) - ((r : Nat) : Int)))).1.toNat), none⟩))) rfl (by kernel_rfl) (by kernel_rfl) (by kernel_rfl) (fun _ _ _ h => h) (Ex.cast (Ex.indexAddr rfl rfl Try.underlying41 T.sz63 (by omega) (by omega)) (by simp only [Int.toNat_natCast, Nat.mul_one])) (ulC (ulS (ulC ulN))) (by decide) ?_
      refine GH.take 17 (v := (.int .u32 ((smp xs W (bord k ((W : Nat) : Int) (((x : Nat) : Int) + (((b' : Nat) : Int) - ((r : Nat) : Int)))).1.toNat (bord k ((H : Nat) : Int) (((y : Nat) : Int) + (((a : Nat) : Int) - ((r : Nat) : Int)))).1.toNat)))) rfl (by kernel_rfl) (by kernel_rfl) (by kernel_rfl) (fun _ _ _ h => h) (Ex.loadO rfl T.ag63 (Rd.at hr (by omega)) (fun x => x)) (ulC (ulS (ulC ulN))) (by decide) ?_
      refine GH.take 18 (v := (.pointer (some ⟨xq8, W * (bord k ((H : Nat) : Int) (((y : Nat) : Int) + (((a : Nat) : Int) - ((r : Nat) : Int)))).1.toNat + (bord k ((W : Nat) : Int) (((x : Nat) : Int) + (((b' : Nat) : Int) - ((r : Nat) : Int)))).1.toNat, none⟩))) rfl (by kernel_rfl) (by kernel_rfl) (by kernel_rfl) (fun _ _ _ h => h) (Ex.cast (Ex.indexAddr rfl rfl Try.underlying41 T.sz63 (by omega) (by omega)) (by simp only [Int.toNat_natCast, Nat.mul_one, Nat.zero_add])) (ulC (ulS (ulC ulN))) (by decide) ?_
      refine GH.done (by kernel_rfl) ?_
      refine GE.thenN ?_
      refine GE.tail rfl (Stp.storeL (i := 1) (cs := zs.map u32) (vs := [(.int .u32 ((smp xs W (bord k ((W : Nat) : Int) (((x : Nat) : Int) + (((b' : Nat) : Int) - ((r : Nat) : Int)))).1.toNat (bord k ((H : Nat) : Int) (((y : Nat) : Int) + (((a : Nat) : Int) - ((r : Nat) : Int)))).1.toNat)))]) (o := W * (bord k ((H : Nat) : Int) (((y : Nat) : Int) + (((a : Nat) : Int) - ((r : Nat) : Int)))).1.toNat + (bord k ((W : Nat) : Int) (((x : Nat) : Int) + (((b' : Nat) : Int) - ((r : Nat) : Int)))).1.toNat) (L1 := [⟨bq10, [(.int .i64 (((W : Nat) : Int))), (.int .i64 (((H : Nat) : Int))), (.slice (some ⟨xq8, 0, none⟩) (W * H) (W * H))], 43, true⟩, ⟨xq8, (zs.set (W * (bord k ((H : Nat) : Int) (((y : Nat) : Int) + (((a : Nat) : Int) - ((r : Nat) : Int)))).1.toNat + (bord k ((W : Nat) : Int) (((x : Nat) : Int) + (((b' : Nat) : Int) - ((r : Nat) : Int)))).1.toNat) (smp xs W (bord k ((W : Nat) : Int) (((x : Nat) : Int) + (((b' : Nat) : Int) - ((r : Nat) : Int)))).1.toNat (bord k ((H : Nat) : Int) (((y : Nat) : Int) + (((a : Nat) : Int) - ((r : Nat) : Int)))).1.toNat)).map u32, 63, true⟩, ⟨bq1, [(.int .i64 (((W : Nat) : Int))), (.int .i64 (((H : Nat) : Int))), (.slice (some ⟨b, o, none⟩) n cap)], 43, true⟩]) rfl rfl rfl T.sz63 rfl (Nat.ble_eq_true_of_le (by rw [List.length_map]; simp; omega)) rfl (by rw [Bc.set_store' (by omega)]; rfl)) (fun _ _ => ?_)
      refine GE.blockN ?_
      refine GE.thenN ?_
      refine GC.region ?_
      refine GL.val (Ex.move rfl) (by decide) ?_
      refine GL.val (v := (.int .i64 ((((x : Nat) : Int) + (((b' + 1 : Nat) : Int) - ((r : Nat) : Int)))))) (Ex.add rfl rfl (Z := (((x : Nat) : Int) + (((b' + 1 : Nat) : Int) - ((r : Nat) : Int)))) (by rw [w64 (by omega)]; omega)) (by decide) ?_
      refine GL.val (Ex.assign rfl) (by decide) ?_
      refine GL.nil ?_
      refine GE.thenN ?_
      exact Head.mk ((b' + 1, zs.set (W * (bord k ((H : Nat) : Int) (((y : Nat) : Int) + (((a : Nat) : Int) - ((r : Nat) : Int)))).1.toNat + (bord k ((W : Nat) : Int) (((x : Nat) : Int) + (((b' : Nat) : Int) - ((r : Nat) : Int)))).1.toNat) (smp xs W (bord k ((W : Nat) : Int) (((x : Nat) : Int) + (((b' : Nat) : Int) - ((r : Nat) : Int)))).1.toNat (bord k ((H : Nat) : Int) (((y : Nat) : Int) + (((a : Nat) : Int) - ((r : Nat) : Int)))).1.toNat))) ⟨(by show b' + 1 ≤ 2 * r + 1; omega), Bc.near_step hk hok hu hpb.2⟩ (by show 2 * r + 1 - (b' + 1) < 2 * r + 1 - b'; omega) ((sub_cons rfl ((sub_cons rfl ((sub_cons rfl ((sub_cons rfl ((sub_cons rfl ((sub_cons rfl ((sub_cons rfl ((sub_cons rfl ((sub_cons rfl ((sub_cons rfl ((sub_cons rfl ((sub_cons rfl ((sub_cons rfl ((sub_nil _)))))))))))))))))))))))))))) (ulC (ulC (ulC ulN)))
    · replace hq12 := of_decide_eq_false hq12
      refine GC.exit ?_
      refine GE.thenE ?_
      refine GE.thenE ?_
      refine GE.blockE ?_
      refine GE.blockN ?_
      refine GE.thenN ?_
      refine GC.region ?_
      refine GL.val (Ex.move rfl) (by decide) ?_
      refine GL.val (v := (.int .i64 ((((y : Nat) : Int) + (((a + 1 : Nat) : Int) - ((r : Nat) : Int)))))) (Ex.add rfl rfl (Z := (((y : Nat) : Int) + (((a + 1 : Nat) : Int) - ((r : Nat) : Int)))) (by rw [w64 (by omega)]; omega)) (by decide) ?_
      refine GL.val (Ex.assign rfl) (by decide) ?_
      refine GL.nil ?_
      refine GE.thenN ?_
      exact Head.mk ((a + 1, zs)) ⟨(by show a + 1 ≤ 2 * r + 1; omega), Bc.near_row hpb.2 (by omega)⟩ (by show 2 * r + 1 - (a + 1) < 2 * r + 1 - a; omega) ((sub_cons rfl ((sub_cons rfl ((sub_cons rfl ((sub_cons rfl ((sub_cons rfl ((sub_cons rfl ((sub_cons rfl ((sub_cons rfl ((sub_cons rfl ((sub_cons rfl ((sub_cons rfl ((sub_cons rfl ((sub_nil _)))))))))))))))))))))))))) (ulC (ulC (ulC ulN)))
  · replace hq11 := of_decide_eq_false hq11
    refine GC.exit ?_
    refine GE.thenE ?_
    refine GE.thenE ?_
    refine GE.blockE ?_
    refine GE.thenN ?_
    refine GC.seq ?_
    refine GC.region ?_
    refine GL.val (v := (.agg #[(.int .i64 (((W : Nat) : Int))), (.int .i64 (((H : Nat) : Int))), (.slice (some ⟨b, o, none⟩) n cap)])) (Ex.loadA rfl T.ag43 T.sz43 (i := 2) rfl (vs := [(.int .i64 (((W : Nat) : Int))), (.int .i64 (((H : Nat) : Int))), (.slice (some ⟨b, o, none⟩) n cap)]) rfl rfl) (by decide) ?_
    refine GL.val (Ex.move rfl) (by decide) ?_
    refine GL.val (Ex.move rfl) (by decide) ?_
    refine GL.val (Ex.move rfl) (by decide) ?_
    refine GL.step (Stp.callR (vs := [(.agg #[(.int .i64 (((W : Nat) : Int))), (.int .i64 (((H : Nat) : Int))), (.slice (some ⟨b, o, none⟩) n cap)]), (.int .i64 kd), (.int .i64 (((r : Nat) : Int))), (.int .i64 k)]) rfl rfl T.own21 (by decide) (fun wc hw => blur_ok W H n cap b o k kd r xs wc hk hok hn hx0 hu (hw.rd hr (fun x => x)) hkd hrr)) (fun xq17 hq18 => ?_)
    refine GL.val (Ex.move rfl) (by decide) ?_
    refine GL.val (Ex.extract rfl rfl) (by decide) ?_
    refine GL.val (Ex.extract rfl rfl) (by decide) ?_
    refine GL.step (Stp.alloc T.zr43 (by decide)) (fun bq19 _ => ?_)
    refine GL.step (Stp.st0 (cs' := [(.int .i64 (((W : Nat) : Int))), (.int .i64 (((H : Nat) : Int))), (.slice (some ⟨xq17, 0, none⟩) (W * H) (W * H))]) rfl rfl rfl T.sz43 rfl rfl rfl) (fun _ _ => ?_)
    refine GL.val (Ex.assign rfl) (by decide) ?_
    refine GL.nil ?_
    refine GE.thenN ?_
    refine GC.seq ?_
    refine GC.region ?_
    refine GL.val (v := (.agg #[(.int .i64 (((W : Nat) : Int))), (.int .i64 (((H : Nat) : Int))), (.slice (some ⟨xq8, 0, none⟩) (W * H) (W * H))])) (Ex.loadA rfl T.ag43 T.sz43 (i := 2) rfl (vs := [(.int .i64 (((W : Nat) : Int))), (.int .i64 (((H : Nat) : Int))), (.slice (some ⟨xq8, 0, none⟩) (W * H) (W * H))]) rfl rfl) (by decide) ?_
    refine GL.val (Ex.move rfl) (by decide) ?_
    refine GL.val (Ex.move rfl) (by decide) ?_
    refine GL.val (Ex.move rfl) (by decide) ?_
    refine GL.step (Stp.callR (vs := [(.agg #[(.int .i64 (((W : Nat) : Int))), (.int .i64 (((H : Nat) : Int))), (.slice (some ⟨xq8, 0, none⟩) (W * H) (W * H))]), (.int .i64 kd), (.int .i64 (((r : Nat) : Int))), (.int .i64 k)]) rfl rfl T.own21 (by decide) (fun wc hw => blur_ok W H (W * H) (W * H) xq8 0 k kd r ys wc hk hok rfl hla hba (hw.rdOf (i := 3) rfl 0) hkd hrr)) (fun xq20 hq21 => ?_)
    refine GL.val (Ex.move rfl) (by decide) ?_
    refine GL.val (Ex.extract rfl rfl) (by decide) ?_
    refine GL.val (Ex.extract rfl rfl) (by decide) ?_
    refine GL.step (Stp.alloc T.zr43 (by decide)) (fun bq22 _ => ?_)
    refine GL.step (Stp.st0 (cs' := [(.int .i64 (((W : Nat) : Int))), (.int .i64 (((H : Nat) : Int))), (.slice (some ⟨xq20, 0, none⟩) (W * H) (W * H))]) rfl rfl rfl T.sz43 rfl rfl rfl) (fun _ _ => ?_)
    refine GL.val (Ex.assign rfl) (by decide) ?_
    refine GL.nil ?_
    refine GE.thenN ?_
    refine GC.seq ?_
    refine GC.drawP [⟨bq22, [(.int .i64 (((W : Nat) : Int))), (.int .i64 (((H : Nat) : Int))), (.slice (some ⟨xq20, 0, none⟩) (W * H) (W * H))], 43, true⟩, ⟨xq20, (tab W (Bg.blr (Bg.gk kd r) r ys W H k) (W * H)).map u32, 63, true⟩, ⟨bq19, [(.int .i64 (((W : Nat) : Int))), (.int .i64 (((H : Nat) : Int))), (.slice (some ⟨xq17, 0, none⟩) (W * H) (W * H))], 43, true⟩, ⟨xq17, (tab W (Bg.blr (Bg.gk kd r) r xs W H k) (W * H)).map u32, 63, true⟩, ⟨bq10, [(.int .i64 (((W : Nat) : Int))), (.int .i64 (((H : Nat) : Int))), (.slice (some ⟨xq8, 0, none⟩) (W * H) (W * H))], 43, true⟩, ⟨xq8, ys.map u32, 63, true⟩, ⟨bq1, [(.int .i64 (((W : Nat) : Int))), (.int .i64 (((H : Nat) : Int))), (.slice (some ⟨b, o, none⟩) n cap)], 43, true⟩] T.mixed (by kernel_rfl) (by kernel_rfl) (fuel := 29) rfl rfl ?_
    refine GH.take 0 (v := (.int .i64 0)) rfl (by kernel_rfl) (by kernel_rfl) (by kernel_rfl) (fun _ _ _ h => h) (Ex.move rfl) (ulC (ulC (ulC (ulC (ulC (ulC (ulC ulN))))))) (by decide) ?_
    refine GH.take 2 (v := (.int .i64 0)) rfl (by kernel_rfl) (by kernel_rfl) (by kernel_rfl) (fun _ _ _ h => h) (Ex.move rfl) (ulC (ulC (ulC (ulC (ulC (ulC (ulC ulN))))))) (by decide) ?_
    refine GH.one 1 rfl (by kernel_rfl) (Stp.callR (vs := [(.int .i64 0)]) rfl rfl T.own15 (by decide) (fun wc hw => num 0 wc)) (fun _ => (ulC (ulC (ulC (ulC (ulC (ulC (ulC ulN)))))))) (fun xq27 hq28 => ?_)
    refine GH.one 3 rfl (by kernel_rfl) (Stp.callR (vs := [(.int .i64 0)]) rfl rfl T.own15 (by decide) (fun wc hw => num 0 wc)) (fun _ => (ulC (ulC (ulC (ulC (ulC (ulC (ulC ulN)))))))) (fun xq29 hq30 => ?_)
    refine GH.take 4 (v := (.int .i64 0)) rfl (by kernel_rfl) (by kernel_rfl) (by kernel_rfl) (fun _ _ _ h => h) (Ex.add rfl rfl (Z := 0) (by decide)) (ulC (ulC (ulC (ulC (ulC (ulC (ulC ulN))))))) (by decide) ?_
    refine GH.take 5 (v := (.bool true)) rfl (by kernel_rfl) (by kernel_rfl) (by kernel_rfl) (fun _ _ _ h => h) (Ex.cast (Ex.eql rfl rfl) rfl) (ulC (ulC (ulC (ulC (ulC (ulC (ulC ulN))))))) (by decide) ?_
    refine GH.take 6 (v := (.bool true)) rfl (by kernel_rfl) (by kernel_rfl) (by kernel_rfl) (fun _ _ _ h => h) (Ex.move rfl) (ulC (ulC (ulC (ulC (ulC (ulC (ulC ulN))))))) (by decide) ?_
    refine GH.takeG 7 (tj := 141) (v := (.pointer (some ⟨bq19, 2, none⟩))) rfl rfl rfl (by kernel_rfl) (by kernel_rfl) (by kernel_rfl) (fun _ _ _ h => h) (Ex.cast (Ex.fieldAddr rfl Try.underlying43 rfl T.sz41 (by decide)) rfl) (ulC (ulC (ulC (ulC (ulC (ulC (ulC ulN))))))) (by decide) ?_
    refine GH.takeG 8 (tj := 141) (v := (.slice (some ⟨xq17, 0, none⟩) (W * H) (W * H))) rfl rfl rfl (by kernel_rfl) (by kernel_rfl) (by kernel_rfl) (fun _ _ _ h => h) (Ex.load rfl T.ag41 (i := 2) rfl rfl) (ulC (ulC (ulC (ulC (ulC (ulC (ulC ulN))))))) (by decide) ?_
    refine GH.takeG 9 (tj := 141) (v := (.int .i64 (((y : Nat) : Int)))) rfl rfl rfl (by kernel_rfl) (by kernel_rfl) (by kernel_rfl) (fun _ _ _ h => h) (Ex.move rfl) (ulC (ulC (ulC (ulC (ulC (ulC (ulC ulN))))))) (by decide) ?_
    refine GH.takeG 10 (tj := 141) (v := (.pointer (some ⟨bq1, 0, none⟩))) rfl rfl rfl (by kernel_rfl) (by kernel_rfl) (by kernel_rfl) (fun _ _ _ h => h) (Ex.cast (Ex.fieldAddr rfl Try.underlying43 rfl T.sz3 (by decide)) rfl) (ulC (ulC (ulC (ulC (ulC (ulC (ulC ulN))))))) (by decide) ?_
    refine GH.takeG 11 (tj := 141) (v := (.int .i64 (((W : Nat) : Int)))) rfl rfl rfl (by kernel_rfl) (by kernel_rfl) (by kernel_rfl) (fun _ _ _ h => h) (Ex.load rfl T.ag3 (i := 6) rfl rfl) (ulC (ulC (ulC (ulC (ulC (ulC (ulC ulN))))))) (by decide) ?_
    refine GH.takeG 12 (tj := 141) (v := (.int .i64 (((W * y : Nat) : Int)))) rfl rfl rfl (by kernel_rfl) (by kernel_rfl) (by kernel_rfl) (fun _ _ _ h => h) (Ex.mul rfl rfl (Z := ((W * y : Nat) : Int)) (mulN' (by have := place_lt hx hy; omega))) (ulC (ulC (ulC (ulC (ulC (ulC (ulC ulN))))))) (by decide) ?_
    refine GH.takeG 13 (tj := 141) (v := (.int .i64 (((x : Nat) : Int)))) rfl rfl rfl (by kernel_rfl) (by kernel_rfl) (by kernel_rfl) (fun _ _ _ h => h) (Ex.move rfl) (ulC (ulC (ulC (ulC (ulC (ulC (ulC ulN))))))) (by decide) ?_
    refine GH.takeG 14 (tj := 141) (v := (.int .i64 (((W * y + x : Nat) : Int)))) rfl rfl rfl (by kernel_rfl) (by kernel_rfl) (by kernel_rfl) (fun _ _ _ h => h) (Ex.add rfl rfl (Z := ((W * y + x : Nat) : Int)) (addN (by have := place_lt hx hy; omega))) (ulC (ulC (ulC (ulC (ulC (ulC (ulC ulN))))))) (by decide) ?_
    refine GH.takeG 15 (tj := 141) (v := (.pointer (some ⟨xq17, W * y + x, none⟩))) rfl rfl rfl (by kernel_rfl) (by kernel_rfl) (by kernel_rfl) (fun _ _ _ h => h) (Ex.cast (Ex.indexAddr rfl rfl Try.underlying41 T.sz63 (by omega) (by have := place_lt hx hy; omega)) (by simp only [Int.toNat_natCast, Nat.mul_one, Nat.zero_add])) (ulC (ulC (ulC (ulC (ulC (ulC (ulC ulN))))))) (by decide) ?_
    refine GH.takeG 16 (tj := 141) (v := (.int .u32 (((Bg.blr (Bg.gk kd r) r xs W H k) x y)))) rfl rfl rfl (by kernel_rfl) (by kernel_rfl) (by kernel_rfl) (fun _ _ _ h => h) (Ex.load rfl T.ag63 (i := 3) rfl (Bc.tab_at _ hx hy)) (ulC (ulC (ulC (ulC (ulC (ulC (ulC ulN))))))) (by decide) ?_
    refine GH.takeG 17 (tj := 141) (v := (.pointer (some ⟨bq22, 2, none⟩))) rfl rfl rfl (by kernel_rfl) (by kernel_rfl) (by kernel_rfl) (fun _ _ _ h => h) (Ex.cast (Ex.fieldAddr rfl Try.underlying43 rfl T.sz41 (by decide)) rfl) (ulC (ulC (ulC (ulC (ulC (ulC (ulC ulN))))))) (by decide) ?_
    refine GH.takeG 18 (tj := 141) (v := (.slice (some ⟨xq20, 0, none⟩) (W * H) (W * H))) rfl rfl rfl (by kernel_rfl) (by kernel_rfl) (by kernel_rfl) (fun _ _ _ h => h) (Ex.load rfl T.ag41 (i := 0) rfl rfl) (ulC (ulC (ulC (ulC (ulC (ulC (ulC ulN))))))) (by decide) ?_
    refine GH.takeG 19 (tj := 141) (v := (.int .i64 (((y : Nat) : Int)))) rfl rfl rfl (by kernel_rfl) (by kernel_rfl) (by kernel_rfl) (fun _ _ _ h => h) (Ex.move rfl) (ulC (ulC (ulC (ulC (ulC (ulC (ulC ulN))))))) (by decide) ?_
    refine GH.takeG 20 (tj := 141) (v := (.pointer (some ⟨bq1, 0, none⟩))) rfl rfl rfl (by kernel_rfl) (by kernel_rfl) (by kernel_rfl) (fun _ _ _ h => h) (Ex.cast (Ex.fieldAddr rfl Try.underlying43 rfl T.sz3 (by decide)) rfl) (ulC (ulC (ulC (ulC (ulC (ulC (ulC ulN))))))) (by decide) ?_
    refine GH.takeG 21 (tj := 141) (v := (.int .i64 (((W : Nat) : Int)))) rfl rfl rfl (by kernel_rfl) (by kernel_rfl) (by kernel_rfl) (fun _ _ _ h => h) (Ex.load rfl T.ag3 (i := 6) rfl rfl) (ulC (ulC (ulC (ulC (ulC (ulC (ulC ulN))))))) (by decide) ?_
    refine GH.takeG 22 (tj := 141) (v := (.int .i64 (((W * y : Nat) : Int)))) rfl rfl rfl (by kernel_rfl) (by kernel_rfl) (by kernel_rfl) (fun _ _ _ h => h) (Ex.mul rfl rfl (Z := ((W * y : Nat) : Int)) (mulN' (by have := place_lt hx hy; omega))) (ulC (ulC (ulC (ulC (ulC (ulC (ulC ulN))))))) (by decide) ?_
    refine GH.takeG 23 (tj := 141) (v := (.int .i64 (((x : Nat) : Int)))) rfl rfl rfl (by kernel_rfl) (by kernel_rfl) (by kernel_rfl) (fun _ _ _ h => h) (Ex.move rfl) (ulC (ulC (ulC (ulC (ulC (ulC (ulC ulN))))))) (by decide) ?_
    refine GH.takeG 24 (tj := 141) (v := (.int .i64 (((W * y + x : Nat) : Int)))) rfl rfl rfl (by kernel_rfl) (by kernel_rfl) (by kernel_rfl) (fun _ _ _ h => h) (Ex.add rfl rfl (Z := ((W * y + x : Nat) : Int)) (addN (by have := place_lt hx hy; omega))) (ulC (ulC (ulC (ulC (ulC (ulC (ulC ulN))))))) (by decide) ?_
    refine GH.takeG 25 (tj := 141) (v := (.pointer (some ⟨xq20, W * y + x, none⟩))) rfl rfl rfl (by kernel_rfl) (by kernel_rfl) (by kernel_rfl) (fun _ _ _ h => h) (Ex.cast (Ex.indexAddr rfl rfl Try.underlying41 T.sz63 (by omega) (by have := place_lt hx hy; omega)) (by simp only [Int.toNat_natCast, Nat.mul_one, Nat.zero_add])) (ulC (ulC (ulC (ulC (ulC (ulC (ulC ulN))))))) (by decide) ?_
    refine GH.takeG 26 (tj := 141) (v := (.int .u32 (((Bg.blr (Bg.gk kd r) r ys W H k) x y)))) rfl rfl rfl (by kernel_rfl) (by kernel_rfl) (by kernel_rfl) (fun _ _ _ h => h) (Ex.load rfl T.ag63 (i := 1) rfl (Bc.tab_at _ hx hy)) (ulC (ulC (ulC (ulC (ulC (ulC (ulC ulN))))))) (by decide) ?_
    refine GH.takeG 27 (tj := 141) (v := (.bool true)) rfl rfl rfl (by kernel_rfl) (by kernel_rfl) (by kernel_rfl) (fun _ _ _ h => h) (Ex.cast (Ex.eql rfl rfl) (congrArg Value.bool (decide_eq_true (by exact Bc.blr_near hk hok hx hy (Bc.near_all hpa.2 (by omega)))))) (ulC (ulC (ulC (ulC (ulC (ulC (ulC ulN))))))) (by decide) ?_
    refine GH.take 28 (v := (.bool true)) rfl (by kernel_rfl) (by kernel_rfl) (by kernel_rfl) (fun _ _ _ h => h) (Ex.pickT rfl rfl) (ulC (ulC (ulC (ulC (ulC (ulC (ulC ulN))))))) (by decide) ?_
    refine GH.done (by kernel_rfl) ?_
    refine GE.thenN ?_
    refine GE.tail rfl (Ex.wp (v := (.bool true)) (Ex.assign rfl) (by decide)) (fun _ _ => ?_)
    refine GE.thenN ?_
    refine GC.ret ?_
    refine GC.ret1 rfl (Rv.tmp rfl) (fun wN HN => ?_)
    exact HN.ret () trivial rfl (List.nil_sublist _) rfl

set_option maxRecDepth 100000 in
set_option maxHeartbeats 1000000 in
theorem nd_bad (W H : Int) (ad : Option Addr) (n cap : Nat) (kd r k x y s : Int) (w : World) (hri : Bc.rightB W H n kd r k = false) :
    Calls Try.prog 11 #[(.agg #[(.int .i64 W), (.int .i64 H), (.slice ad n cap)]), (.int .i64 kd), (.int .i64 r), (.int .i64 k), (.int .i64 x), (.int .i64 y), (.int .u32 s)] w (Ret w (fun _ : Unit => True) (fun _ => .bool true) (fun _ => [])) := by
  refine enter (M := None) (L := []) (n := 164) (l := [(0, (.agg #[(.int .i64 W), (.int .i64 H), (.slice ad n cap)])), (1, (.int .i64 kd)), (2, (.int .i64 r)), (3, (.int .i64 k)), (4, (.int .i64 x)), (5, (.int .i64 y)), (6, (.int .u32 s))]) Try.func11 rfl rfl (Args.cons rfl (Args.cons rfl (Args.cons rfl (Args.cons rfl (Args.cons rfl (Args.cons rfl (Args.cons rfl (Args.nil _)))))))) (Hp.start _ _) ?_
  refine GC.seq ?_
  refine GC.region ?_
  refine GL.step (Stp.box (cs := [(.int .i64 W), (.int .i64 H), (.slice ad n cap)]) rfl rfl (by decide)) (fun bq1 _ => ?_)
  refine GL.val (Ex.assign rfl) (by decide) ?_
  refine GL.nil ?_
  refine GE.thenN ?_
  refine GC.seq ?_
  refine GC.seq ?_
  refine GC.region ?_
  refine GL.step (Stp.callR (vs := []) rfl rfl T.own12 (by decide) (fun wc hw => known wc)) (fun xq2 hq3 => ?_)
  refine GL.val (v := (.bool false)) (Ex.cast (Ex.not rfl) rfl) (by decide) ?_
  refine GL.nil ?_
  refine GE.thenN ?_
  refine GC.cond rfl (fun hq4 => by cases hq4) (fun _ => ?_)
  refine GC.skip ?_
  refine GE.thenN ?_
  refine GC.seq ?_
  refine GC.seq ?_
  refine GC.region ?_
  refine GL.val (v := (.agg #[(.int .i64 W), (.int .i64 H), (.slice ad n cap)])) (Ex.loadA rfl T.ag43 T.sz43 (i := 0) rfl (vs := [(.int .i64 W), (.int .i64 H), (.slice ad n cap)]) rfl rfl) (by decide) ?_
  refine GL.val (Ex.move rfl) (by decide) ?_
  refine GL.val (Ex.move rfl) (by decide) ?_
  refine GL.val (Ex.move rfl) (by decide) ?_
  refine GL.step (Stp.callR (vs := [(.agg #[(.int .i64 W), (.int .i64 H), (.slice ad n cap)]), (.int .i64 kd), (.int .i64 r), (.int .i64 k)]) rfl rfl T.own27 (by decide) (fun wc hw => right_p W H ad n cap kd r k wc)) (fun xq5 hq6 => ?_)
  refine GL.val (v := (.bool true)) (Ex.cast (Ex.not rfl) (congrArg Value.bool (congrArg (fun z => !z) ((Bool.eq_false_iff.2 (by simp [hri])))))) (by decide) ?_
  refine GL.val (Ex.move rfl) (by decide) ?_
  refine GL.skipG (tj := 35) rfl rfl rfl (by decide) ?_
  refine GL.skipG (tj := 35) rfl rfl rfl (by decide) ?_
  refine GL.val (v := (.bool true)) (Ex.pickT rfl rfl) (by decide) ?_
  refine GL.val (Ex.move rfl) (by decide) ?_
  refine GL.skipG (tj := 39) rfl rfl rfl (by decide) ?_
  refine GL.skipG (tj := 39) rfl rfl rfl (by decide) ?_
  refine GL.val (v := (.bool true)) (Ex.pickT rfl rfl) (by decide) ?_
  refine GL.val (Ex.move rfl) (by decide) ?_
  refine GL.skipG (tj := 43) rfl rfl rfl (by decide) ?_
  refine GL.skipG (tj := 43) rfl rfl rfl (by decide) ?_
  refine GL.skipG (tj := 43) rfl rfl rfl (by decide) ?_
  refine GL.skipG (tj := 43) rfl rfl rfl (by decide) ?_
  refine GL.val (v := (.bool true)) (Ex.pickT rfl rfl) (by decide) ?_
  refine GL.val (Ex.move rfl) (by decide) ?_
  refine GL.skipG (tj := 49) rfl rfl rfl (by decide) ?_
  refine GL.skipG (tj := 49) rfl rfl rfl (by decide) ?_
  refine GL.skipG (tj := 49) rfl rfl rfl (by decide) ?_
  refine GL.skipG (tj := 49) rfl rfl rfl (by decide) ?_
  refine GL.val (v := (.bool true)) (Ex.pickT rfl rfl) (by decide) ?_
  refine GL.nil ?_
  refine GE.thenN ?_
  refine GC.cond rfl (fun _ => ?_) (fun hq7 => by cases hq7)
  refine GC.seq ?_
  refine GC.region ?_
  refine GL.val (Ex.assign rfl) (by decide) ?_
  refine GL.nil ?_
  refine GE.thenN ?_
  refine GC.ret ?_
  refine GE.thenR ?_
  refine GC.ret1 rfl (Rv.tmp rfl) (fun wN HN => ?_)
  exact HN.ret () trivial rfl (List.nil_sublist _) rfl

set_option maxRecDepth 100000 in
set_option maxHeartbeats 1000000 in
theorem nd_out (W H : Int) (ad : Option Addr) (n cap : Nat) (kd r k x y s : Int) (w : World) (hout : ¬ (0 ≤ x ∧ 0 ≤ y ∧ x < W ∧ y < H)) :
    Calls Try.prog 11 #[(.agg #[(.int .i64 W), (.int .i64 H), (.slice ad n cap)]), (.int .i64 kd), (.int .i64 r), (.int .i64 k), (.int .i64 x), (.int .i64 y), (.int .u32 s)] w (Ret w (fun _ : Unit => True) (fun _ => .bool true) (fun _ => [])) := by
  refine enter (M := None) (L := []) (n := 164) (l := [(0, (.agg #[(.int .i64 W), (.int .i64 H), (.slice ad n cap)])), (1, (.int .i64 kd)), (2, (.int .i64 r)), (3, (.int .i64 k)), (4, (.int .i64 x)), (5, (.int .i64 y)), (6, (.int .u32 s))]) Try.func11 rfl rfl (Args.cons rfl (Args.cons rfl (Args.cons rfl (Args.cons rfl (Args.cons rfl (Args.cons rfl (Args.cons rfl (Args.nil _)))))))) (Hp.start _ _) ?_
  refine GC.seq ?_
  refine GC.region ?_
  refine GL.step (Stp.box (cs := [(.int .i64 W), (.int .i64 H), (.slice ad n cap)]) rfl rfl (by decide)) (fun bq1 _ => ?_)
  refine GL.val (Ex.assign rfl) (by decide) ?_
  refine GL.nil ?_
  refine GE.thenN ?_
  refine GC.seq ?_
  refine GC.seq ?_
  refine GC.region ?_
  refine GL.step (Stp.callR (vs := []) rfl rfl T.own12 (by decide) (fun wc hw => known wc)) (fun xq2 hq3 => ?_)
  refine GL.val (v := (.bool false)) (Ex.cast (Ex.not rfl) rfl) (by decide) ?_
  refine GL.nil ?_
  refine GE.thenN ?_
  refine GC.cond rfl (fun hq4 => by cases hq4) (fun _ => ?_)
  refine GC.skip ?_
  refine GE.thenN ?_
  refine GC.seq ?_
  refine GC.seq ?_
  refine GC.region ?_
  refine GL.val (v := (.agg #[(.int .i64 W), (.int .i64 H), (.slice ad n cap)])) (Ex.loadA rfl T.ag43 T.sz43 (i := 0) rfl (vs := [(.int .i64 W), (.int .i64 H), (.slice ad n cap)]) rfl rfl) (by decide) ?_
  refine GL.val (Ex.move rfl) (by decide) ?_
  refine GL.val (Ex.move rfl) (by decide) ?_
  refine GL.val (Ex.move rfl) (by decide) ?_
  refine GL.step (Stp.callR (vs := [(.agg #[(.int .i64 W), (.int .i64 H), (.slice ad n cap)]), (.int .i64 kd), (.int .i64 r), (.int .i64 k)]) rfl rfl T.own27 (by decide) (fun wc hw => right_p W H ad n cap kd r k wc)) (fun xq5 hq6 => ?_)
  by_cases hq7 : (Bc.rightB W H n kd r k) = true
  · refine GL.val (v := (.bool false)) (Ex.cast (Ex.not rfl) (congrArg Value.bool (congrArg (fun z => !z) (hq7)))) (by decide) ?_
    refine GL.val (Ex.move rfl) (by decide) ?_
    refine GL.stepG (tj := 35) rfl rfl (Ex.wp (v := (.int .i64 x)) (Ex.move rfl) (by decide)) (fun _ _ => ?_)
    by_cases hq8 : x < 0
    · refine GL.stepG (tj := 35) rfl rfl (Ex.wp (v := (.bool true)) (Ex.cast (Ex.lss rfl rfl) (congrArg Value.bool (decide_eq_true hq8))) (by decide)) (fun _ _ => ?_)
      refine GL.val (v := (.bool true)) (Ex.pickF rfl rfl) (by decide) ?_
      refine GL.val (Ex.move rfl) (by decide) ?_
      refine GL.skipG (tj := 39) rfl rfl rfl (by decide) ?_
      refine GL.skipG (tj := 39) rfl rfl rfl (by decide) ?_
      refine GL.val (v := (.bool true)) (Ex.pickT rfl rfl) (by decide) ?_
      refine GL.val (Ex.move rfl) (by decide) ?_
      refine GL.skipG (tj := 43) rfl rfl rfl (by decide) ?_
      refine GL.skipG (tj := 43) rfl rfl rfl (by decide) ?_
      refine GL.skipG (tj := 43) rfl rfl rfl (by decide) ?_
      refine GL.skipG (tj := 43) rfl rfl rfl (by decide) ?_
      refine GL.val (v := (.bool true)) (Ex.pickT rfl rfl) (by decide) ?_
      refine GL.val (Ex.move rfl) (by decide) ?_
      refine GL.skipG (tj := 49) rfl rfl rfl (by decide) ?_
      refine GL.skipG (tj := 49) rfl rfl rfl (by decide) ?_
      refine GL.skipG (tj := 49) rfl rfl rfl (by decide) ?_
      refine GL.skipG (tj := 49) rfl rfl rfl (by decide) ?_
      refine GL.val (v := (.bool true)) (Ex.pickT rfl rfl) (by decide) ?_
      refine GL.nil ?_
      refine GE.thenN ?_
      refine GC.cond rfl (fun _ => ?_) (fun hq9 => by cases hq9)
      refine GC.seq ?_
      refine GC.region ?_
      refine GL.val (Ex.assign rfl) (by decide) ?_
      refine GL.nil ?_
      refine GE.thenN ?_
      refine GC.ret ?_
      refine GE.thenR ?_
      refine GC.ret1 rfl (Rv.tmp rfl) (fun wN HN => ?_)
      exact HN.ret () trivial rfl (List.nil_sublist _) rfl
    · refine GL.stepG (tj := 35) rfl rfl (Ex.wp (v := (.bool false)) (Ex.cast (Ex.lss rfl rfl) (congrArg Value.bool (decide_eq_false hq8))) (by decide)) (fun _ _ => ?_)
      refine GL.val (v := (.bool false)) (Ex.pickF rfl rfl) (by decide) ?_
      refine GL.val (Ex.move rfl) (by decide) ?_
      refine GL.stepG (tj := 39) rfl rfl (Ex.wp (v := (.int .i64 y)) (Ex.move rfl) (by decide)) (fun _ _ => ?_)
      by_cases hq10 : y < 0
      · refine GL.stepG (tj := 39) rfl rfl (Ex.wp (v := (.bool true)) (Ex.cast (Ex.lss rfl rfl) (congrArg Value.bool (decide_eq_true hq10))) (by decide)) (fun _ _ => ?_)
        refine GL.val (v := (.bool true)) (Ex.pickF rfl rfl) (by decide) ?_
        refine GL.val (Ex.move rfl) (by decide) ?_
        refine GL.skipG (tj := 43) rfl rfl rfl (by decide) ?_
        refine GL.skipG (tj := 43) rfl rfl rfl (by decide) ?_
        refine GL.skipG (tj := 43) rfl rfl rfl (by decide) ?_
        refine GL.skipG (tj := 43) rfl rfl rfl (by decide) ?_
        refine GL.val (v := (.bool true)) (Ex.pickT rfl rfl) (by decide) ?_
        refine GL.val (Ex.move rfl) (by decide) ?_
        refine GL.skipG (tj := 49) rfl rfl rfl (by decide) ?_
        refine GL.skipG (tj := 49) rfl rfl rfl (by decide) ?_
        refine GL.skipG (tj := 49) rfl rfl rfl (by decide) ?_
        refine GL.skipG (tj := 49) rfl rfl rfl (by decide) ?_
        refine GL.val (v := (.bool true)) (Ex.pickT rfl rfl) (by decide) ?_
        refine GL.nil ?_
        refine GE.thenN ?_
        refine GC.cond rfl (fun _ => ?_) (fun hq11 => by cases hq11)
        refine GC.seq ?_
        refine GC.region ?_
        refine GL.val (Ex.assign rfl) (by decide) ?_
        refine GL.nil ?_
        refine GE.thenN ?_
        refine GC.ret ?_
        refine GE.thenR ?_
        refine GC.ret1 rfl (Rv.tmp rfl) (fun wN HN => ?_)
        exact HN.ret () trivial rfl (List.nil_sublist _) rfl
      · refine GL.stepG (tj := 39) rfl rfl (Ex.wp (v := (.bool false)) (Ex.cast (Ex.lss rfl rfl) (congrArg Value.bool (decide_eq_false hq10))) (by decide)) (fun _ _ => ?_)
        refine GL.val (v := (.bool false)) (Ex.pickF rfl rfl) (by decide) ?_
        refine GL.val (Ex.move rfl) (by decide) ?_
        refine GL.stepG (tj := 43) rfl rfl (Ex.wp (v := (.int .i64 x)) (Ex.move rfl) (by decide)) (fun _ _ => ?_)
        refine GL.stepG (tj := 43) rfl rfl (Ex.wp (v := (.pointer (some ⟨bq1, 0, none⟩))) (Ex.cast (Ex.fieldAddr rfl Try.underlying43 rfl T.sz3 (by decide)) rfl) (by decide)) (fun _ _ => ?_)
        refine GL.stepG (tj := 43) rfl rfl (Ex.wp (v := (.int .i64 W)) (Ex.load rfl T.ag3 (i := 0) rfl rfl) (by decide)) (fun _ _ => ?_)
        by_cases hq12 : W ≤ x
        · refine GL.stepG (tj := 43) rfl rfl (Ex.wp (v := (.bool true)) (Ex.cast (Ex.geq rfl rfl) (congrArg Value.bool (decide_eq_true hq12))) (by decide)) (fun _ _ => ?_)
          refine GL.val (v := (.bool true)) (Ex.pickF rfl rfl) (by decide) ?_
          refine GL.val (Ex.move rfl) (by decide) ?_
          refine GL.skipG (tj := 49) rfl rfl rfl (by decide) ?_
          refine GL.skipG (tj := 49) rfl rfl rfl (by decide) ?_
          refine GL.skipG (tj := 49) rfl rfl rfl (by decide) ?_
          refine GL.skipG (tj := 49) rfl rfl rfl (by decide) ?_
          refine GL.val (v := (.bool true)) (Ex.pickT rfl rfl) (by decide) ?_
          refine GL.nil ?_
          refine GE.thenN ?_
          refine GC.cond rfl (fun _ => ?_) (fun hq13 => by cases hq13)
          refine GC.seq ?_
          refine GC.region ?_
          refine GL.val (Ex.assign rfl) (by decide) ?_
          refine GL.nil ?_
          refine GE.thenN ?_
          refine GC.ret ?_
          refine GE.thenR ?_
          refine GC.ret1 rfl (Rv.tmp rfl) (fun wN HN => ?_)
          exact HN.ret () trivial rfl (List.nil_sublist _) rfl
        · refine GL.stepG (tj := 43) rfl rfl (Ex.wp (v := (.bool false)) (Ex.cast (Ex.geq rfl rfl) (congrArg Value.bool (decide_eq_false hq12))) (by decide)) (fun _ _ => ?_)
          refine GL.val (v := (.bool false)) (Ex.pickF rfl rfl) (by decide) ?_
          refine GL.val (Ex.move rfl) (by decide) ?_
          refine GL.stepG (tj := 49) rfl rfl (Ex.wp (v := (.int .i64 y)) (Ex.move rfl) (by decide)) (fun _ _ => ?_)
          refine GL.stepG (tj := 49) rfl rfl (Ex.wp (v := (.pointer (some ⟨bq1, 1, none⟩))) (Ex.cast (Ex.fieldAddr rfl Try.underlying43 rfl T.sz3 (by decide)) rfl) (by decide)) (fun _ _ => ?_)
          refine GL.stepG (tj := 49) rfl rfl (Ex.wp (v := (.int .i64 H)) (Ex.load rfl T.ag3 (i := 0) rfl rfl) (by decide)) (fun _ _ => ?_)
          refine GL.stepG (tj := 49) rfl rfl (Ex.wp (v := (.bool (decide (H ≤ y)))) (Ex.geq rfl rfl) (by decide)) (fun _ _ => ?_)
          refine GL.val (v := (.bool (decide (H ≤ y)))) (Ex.pickF rfl rfl) (by decide) ?_
          refine GL.nil ?_
          refine GE.thenN ?_
          refine GC.cond rfl (fun hq14 => ?_) (fun hq14 => ?_)
          · replace hq14 := of_decide_eq_true hq14
            refine GC.seq ?_
            refine GC.region ?_
            refine GL.val (Ex.assign rfl) (by decide) ?_
            refine GL.nil ?_
            refine GE.thenN ?_
            refine GC.ret ?_
            refine GE.thenR ?_
            refine GC.ret1 rfl (Rv.tmp rfl) (fun wN HN => ?_)
            exact HN.ret () trivial rfl (List.nil_sublist _) rfl
          · replace hq14 := of_decide_eq_false hq14
            exfalso; omega
  · refine GL.val (v := (.bool true)) (Ex.cast (Ex.not rfl) (congrArg Value.bool (congrArg (fun z => !z) ((Bool.eq_false_iff.2 hq7))))) (by decide) ?_
    refine GL.val (Ex.move rfl) (by decide) ?_
    refine GL.skipG (tj := 35) rfl rfl rfl (by decide) ?_
    refine GL.skipG (tj := 35) rfl rfl rfl (by decide) ?_
    refine GL.val (v := (.bool true)) (Ex.pickT rfl rfl) (by decide) ?_
    refine GL.val (Ex.move rfl) (by decide) ?_
    refine GL.skipG (tj := 39) rfl rfl rfl (by decide) ?_
    refine GL.skipG (tj := 39) rfl rfl rfl (by decide) ?_
    refine GL.val (v := (.bool true)) (Ex.pickT rfl rfl) (by decide) ?_
    refine GL.val (Ex.move rfl) (by decide) ?_
    refine GL.skipG (tj := 43) rfl rfl rfl (by decide) ?_
    refine GL.skipG (tj := 43) rfl rfl rfl (by decide) ?_
    refine GL.skipG (tj := 43) rfl rfl rfl (by decide) ?_
    refine GL.skipG (tj := 43) rfl rfl rfl (by decide) ?_
    refine GL.val (v := (.bool true)) (Ex.pickT rfl rfl) (by decide) ?_
    refine GL.val (Ex.move rfl) (by decide) ?_
    refine GL.skipG (tj := 49) rfl rfl rfl (by decide) ?_
    refine GL.skipG (tj := 49) rfl rfl rfl (by decide) ?_
    refine GL.skipG (tj := 49) rfl rfl rfl (by decide) ?_
    refine GL.skipG (tj := 49) rfl rfl rfl (by decide) ?_
    refine GL.val (v := (.bool true)) (Ex.pickT rfl rfl) (by decide) ?_
    refine GL.nil ?_
    refine GE.thenN ?_
    refine GC.cond rfl (fun _ => ?_) (fun hq15 => by cases hq15)
    refine GC.seq ?_
    refine GC.region ?_
    refine GL.val (Ex.assign rfl) (by decide) ?_
    refine GL.nil ?_
    refine GE.thenN ?_
    refine GC.ret ?_
    refine GE.thenR ?_
    refine GC.ret1 rfl (Rv.tmp rfl) (fun wN HN => ?_)
    exact HN.ret () trivial rfl (List.nil_sublist _) rfl

theorem lawNeeds (W H : Int) (ad : Option Addr) (n cap : Nat) (kd r k x y s : Int) (xs : List Int) (w : World) (hl : Lst w ad n xs) (hb : n ≤ 35184372087808) (hs : 0 ≤ s ∧ s < 4294967296) :
    Calls Try.prog 11 #[(.agg #[(.int .i64 W), (.int .i64 H), (.slice ad n cap)]), (.int .i64 kd), (.int .i64 r), (.int .i64 k), (.int .i64 x), (.int .i64 y), (.int .u32 s)] w (Ret w (fun _ : Unit => True) (fun _ => .bool true) (fun _ => [])) := by
  cases h : Bc.rightB W H n kd r k with
  | false => exact nd_bad W H ad n cap kd r k x y s w h
  | true =>
    obtain ⟨hc, hkd, h1, h2, hk⟩ := of_decide_eq_true h
    obtain ⟨w', h', rfl, rfl, hok, hn⟩ := chk_zero hc
    by_cases hin : 0 ≤ x ∧ 0 ≤ y ∧ x < (w' : Int) ∧ y < (h' : Int)
    · obtain ⟨hx1, hy1, hx2, hy2⟩ := hin
      obtain ⟨x, rfl⟩ := Int.eq_ofNat_of_zero_le hx1
      obtain ⟨y, rfl⟩ := Int.eq_ofNat_of_zero_le hy1
      obtain ⟨r, rfl⟩ := Int.eq_ofNat_of_zero_le h1
      have g1 := hl
      obtain ⟨_, _, _, q⟩ := g1
      rcases q with q | ⟨b, o, rfl, hr⟩
      · exfalso; have h5 := Nat.mul_pos (show 0 < w' from hok.1) (show 0 < h' from hok.2.1); omega
      · exact nd_ok w' h' n cap b o kd k r x y s xs w hok hn hl.1 hl.2.1 hr hk hkd (by omega) (by omega) (by omega) hs
    · exact nd_out w' h' ad n cap kd r k x y s w hin

end Go.Proofs.Ytjbpdhofhhinhaa.C
