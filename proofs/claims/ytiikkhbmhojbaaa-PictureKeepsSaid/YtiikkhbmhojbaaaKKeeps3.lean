/- PictureKeeps: what its code does, walked. -/
import Derived.Test.YtiikkhbmhojbaaaKKeeps2
namespace Go.Proofs.Ytiikkhbmhojbaaa.C
open Go Go.RowKit Sx
set_option linter.unusedVariables false
set_option maxRecDepth 100000
set_option maxHeartbeats 1000000
theorem known (w : World) :
  Calls Try.prog 7 #[] w (Ret w (fun _ : Unit => True) (fun _ => .bool true) (fun _ => [])) := by
 refine enter (M := None) (L := []) (n := 90) (l := []) Try.func7 rfl rfl (Args.nil _) (Hp.start _ _) ?_
 refine GC.seq (GC.region ?_)
 refine GL.sg rfl (by decide) ?_
 refine GL.nil (GE.thenN (GC.seq (GC.region ?_)))
 refine GL.step (Stp.buildSlice (cs := [(.int .u32 1065353216), (.int .u32 1073741824), (.int .u32 1082130432)]) (vs := [(0, (.int .u32 1065353216)), (1, (.int .u32 1073741824)), (2, (.int .u32 1082130432))]) Try.underlying41 T.zr28 T.sz28 rfl (by decide) (by decide) (by first | rfl | kernel_rfl) (by decide)) (fun bq1 _ => ?_)
 refine GL.step (Stp.call (vs := [(.int .i64 1), (.slice (some ⟨bq1, 0, none⟩) 3 3)]) rfl rfl T.own33 (by decide) (fun wc hw => (Ret.frm (L' := fun x => (⟨bq1, [(.int .u32 1065353216), (.int .u32 1073741824), (.int .u32 1082130432)], 28, true⟩ :: (x.blks 43 28 ++ ([] : List Blk)))) hw (place 1 bq1 0 3 3 [1065353216, 1073741824, 1082130432] wc rfl (by decide) (by decide) (hw.rdOf (i := 0) rfl 0)) (fun x w' _ h => by exact Hp.segsT (T := ([] : List Blk)) (A := [x.blks 43 28, [⟨bq1, [(.int .u32 1065353216), (.int .u32 1073741824), (.int .u32 1082130432)], 28, true⟩]]) (idx := [1, 0]) 2 [] h rfl (by decide) rfl)))) (fun xq2 hq3 => ?_)
 refine GL.step (Stp.alloc T.zr25 (by decide)) (fun bq4 _ => ?_)
 refine GL.step (Stp.st0 (cs' := [(.int .i64 1), (.slice xq2.ad 3 xq2.cp)]) rfl rfl rfl T.sz25 rfl rfl rfl) (fun _ _ => ?_)
 refine GL.nil (GE.thenN (GC.seq (GC.region ?_)))
 refine GL.val (v := (.agg #[(.int .i64 1), (.slice xq2.ad 3 xq2.cp)])) (Ex.loadA rfl T.ag25 T.sz25 (i := 0) rfl (vs := [(.int .i64 1), (.slice xq2.ad 3 xq2.cp)]) rfl rfl) (by decide) ?_
 refine GL.step (Stp.call (vs := [(.agg #[(.int .i64 1), (.slice xq2.ad 3 xq2.cp)]), (.int .i64 (-1)), (.int .u32 1073741824), (.int .u32 1065353216)]) rfl rfl T.own13 (by decide) (fun wc hw => (Ret.frm (L' := fun x => (⟨bq4, [(.int .i64 1), (.slice xq2.ad 3 xq2.cp)], 25, true⟩ :: ⟨bq1, [(.int .u32 1065353216), (.int .u32 1073741824), (.int .u32 1082130432)], 28, true⟩ :: (x.blks 43 28 ++ (xq2.blks 43 28 ++ ([] : List Blk))))) hw (affine_a 1 xq2.ad 3 xq2.cp xq2.pl 1 1 1073741824 1065353216 (fun x : Int => if x = 1065353216 then (1077936128 : Int) else if x = 1073741824 then 1084227584 else 1091567616) wc (ones_pa hq3.2.1 (by decide) (Hp.seg (T := ([] : List Blk)) (A := [[_, _], xq2.blks 43 28]) hw 1 rfl)) (by rw [Ac.pl_len]; exact (ones_len hq3.2.1).symm) (ones_ok hq3.2.1 (by decide) (by decide) (by decide)) (fun p hp x hx w' _ => kn_fma x (ones_mem hq3.2.1 p hp x hx) w')) (fun x w' _ h => by exact Hp.segsT (T := ([] : List Blk)) (A := [x.blks 43 28, [⟨bq4, [(.int .i64 1), (.slice xq2.ad 3 xq2.cp)], 25, true⟩, ⟨bq1, [(.int .u32 1065353216), (.int .u32 1073741824), (.int .u32 1082130432)], 28, true⟩], xq2.blks 43 28]) (idx := [1, 0, 2]) 3 [] h rfl (by decide) rfl)))) (fun xq5 hq6 => ?_)
 refine GL.mv rfl (by decide) ?_
 refine GL.val (Ex.extract rfl rfl) (by decide) ?_
 refine GL.val (Ex.extract rfl rfl) (by decide) ?_
 refine GL.step (Stp.alloc T.zr25 (by decide)) (fun bq7 _ => ?_)
 refine GL.step (Stp.st0 (cs' := [(.int .i64 1), (.slice xq5.ad 3 xq5.cp)]) rfl rfl rfl T.sz25 rfl rfl rfl) (fun _ _ => ?_)
 refine GL.sg rfl (by decide) ?_
 refine GL.nil (GE.thenN (GC.seq (GC.region ?_)))
 refine GL.val (v := (.agg #[(.int .i64 1), (.slice xq2.ad 3 xq2.cp)])) (Ex.loadA rfl T.ag25 T.sz25 (i := 1) rfl (vs := [(.int .i64 1), (.slice xq2.ad 3 xq2.cp)]) rfl rfl) (by decide) ?_
 refine GL.val (v := (.agg #[(.int .u32 0), (.int .u32 0), (.int .u32 1065353216), (.int .u32 0), (.int .u32 1065353216), (.int .u32 0), (.int .u32 1065353216), (.int .u32 0), (.int .u32 0)])) (Ex.build (vs := [(0, (.int .u32 0)), (1, (.int .u32 0)), (2, (.int .u32 1065353216)), (3, (.int .u32 0)), (4, (.int .u32 1065353216)), (5, (.int .u32 0)), (6, (.int .u32 1065353216)), (7, (.int .u32 0)), (8, (.int .u32 0))]) rfl (by first | rfl | kernel_rfl)) (by decide) ?_
 refine GL.step (Stp.call (vs := [(.agg #[(.int .i64 1), (.slice xq2.ad 3 xq2.cp)]), (.agg #[(.int .u32 0), (.int .u32 0), (.int .u32 1065353216), (.int .u32 0), (.int .u32 1065353216), (.int .u32 0), (.int .u32 1065353216), (.int .u32 0), (.int .u32 0)])]) rfl rfl T.own14 (by decide) (fun wc hw => (Ret.frm (L' := fun x => (⟨bq7, [(.int .i64 1), (.slice xq5.ad 3 xq5.cp)], 25, true⟩ :: ⟨bq4, [(.int .i64 1), (.slice xq2.ad 3 xq2.cp)], 25, true⟩ :: ⟨bq1, [(.int .u32 1065353216), (.int .u32 1073741824), (.int .u32 1082130432)], 28, true⟩ :: (x.blks 43 28 ++ (xq5.blks 43 28 ++ (xq2.blks 43 28 ++ ([] : List Blk)))))) hw (matrix_sw_a 1 xq2.ad 3 xq2.cp xq2.pl 1 1 1 (fun x y z : Int => (z, y, x)) wc (ones_pa hq3.2.1 (by decide) (Hp.seg (T := ([] : List Blk)) (A := [[_, _, _], xq5.blks 43 28, xq2.blks 43 28]) hw 2 rfl)) (by rw [Ac.pl_len]; exact (ones_len hq3.2.1).symm) (ones_ok hq3.2.1 (by decide) (by decide) (by decide)) rfl (by decide) (fun bR w' hh x hx y hy z hz => by
  have ex : x = 1065353216 := (by rw [(ones_at hq3.2.1 (show 0 < _ by decide)).2.2] at hx; exact List.mem_singleton.1 hx)
  have ey : y = 1073741824 := (by rw [(ones_at hq3.2.1 (show 1 < _ by decide)).2.2] at hy; exact List.mem_singleton.1 hy)
  have ez : z = 1082130432 := (by rw [(ones_at hq3.2.1 (show 2 < _ by decide)).2.2] at hz; exact List.mem_singleton.1 hz)
  subst ex ey ez
  exact q49_45 bR w' hh)) (fun x w' _ h => by exact Hp.segsT (T := ([] : List Blk)) (A := [x.blks 43 28, [⟨bq7, [(.int .i64 1), (.slice xq5.ad 3 xq5.cp)], 25, true⟩, ⟨bq4, [(.int .i64 1), (.slice xq2.ad 3 xq2.cp)], 25, true⟩, ⟨bq1, [(.int .u32 1065353216), (.int .u32 1073741824), (.int .u32 1082130432)], 28, true⟩], xq5.blks 43 28, xq2.blks 43 28]) (idx := [1, 0, 2, 3]) 4 [] h rfl (by decide) rfl)))) (fun xq8 hq9 => ?_)
 refine GL.mv rfl (by decide) ?_
 refine GL.val (Ex.extract rfl rfl) (by decide) ?_
 refine GL.val (Ex.extract rfl rfl) (by decide) ?_
 refine GL.step (Stp.alloc T.zr25 (by decide)) (fun bq10 _ => ?_)
 refine GL.step (Stp.st0 (cs' := [(.int .i64 1), (.slice xq8.ad 3 xq8.cp)]) rfl rfl rfl T.sz25 rfl rfl rfl) (fun _ _ => ?_)
 refine GL.sg rfl (by decide) ?_
 refine GL.nil (GE.thenN (GC.seq (GC.region ?_)))
 refine GL.val (v := (.agg #[(.int .i64 1), (.slice xq2.ad 3 xq2.cp)])) (Ex.loadA rfl T.ag25 T.sz25 (i := 2) rfl (vs := [(.int .i64 1), (.slice xq2.ad 3 xq2.cp)]) rfl rfl) (by decide) ?_
 refine GL.val (v := (.agg #[(.int .i64 1), (.slice xq2.ad 3 xq2.cp)])) (Ex.loadA rfl T.ag25 T.sz25 (i := 2) rfl (vs := [(.int .i64 1), (.slice xq2.ad 3 xq2.cp)]) rfl rfl) (by decide) ?_
 refine GL.step (Stp.call (vs := [(.int .i64 2), (.agg #[(.int .i64 1), (.slice xq2.ad 3 xq2.cp)]), (.agg #[(.int .i64 1), (.slice xq2.ad 3 xq2.cp)])]) rfl rfl T.own15 (by decide) (fun wc hw => (Ret.frm (L' := fun x => (⟨bq10, [(.int .i64 1), (.slice xq8.ad 3 xq8.cp)], 25, true⟩ :: ⟨bq7, [(.int .i64 1), (.slice xq5.ad 3 xq5.cp)], 25, true⟩ :: ⟨bq4, [(.int .i64 1), (.slice xq2.ad 3 xq2.cp)], 25, true⟩ :: ⟨bq1, [(.int .u32 1065353216), (.int .u32 1073741824), (.int .u32 1082130432)], 28, true⟩ :: (x.blks 43 28 ++ (xq8.blks 43 28 ++ (xq5.blks 43 28 ++ (xq2.blks 43 28 ++ ([] : List Blk))))))) hw (two_a 2 1 xq2.ad 3 xq2.cp xq2.pl 1 1 xq2.ad xq2.cp xq2.pl 85 (fun _ _ => 0) wc (ones_pa hq3.2.1 (by decide) (Hp.seg (T := ([] : List Blk)) (A := [[_, _, _, _], xq8.blks 43 28, xq5.blks 43 28, xq2.blks 43 28]) hw 3 rfl)) (by rw [Ac.pl_len]; exact (ones_len hq3.2.1).symm) (ones_ok hq3.2.1 (by decide) (by decide) (by decide)) (ones_pa hq3.2.1 (by decide) (Hp.seg (T := ([] : List Blk)) (A := [[_, _, _, _], xq8.blks 43 28, xq5.blks 43 28, xq2.blks 43 28]) hw 3 rfl)) (by rw [Ac.pl_len]; exact (ones_len hq3.2.1).symm) (ones_ok hq3.2.1 (by decide) (by decide) (by decide)) (fun w' => two_f2 w') (fun i hi => ⟨T.own85, fun x hx y hy w' _ => by
  have e := (ones_at hq3.2.1 (show i < _ from hi)).2.2
  have hm := ones_mem hq3.2.1 _ (pAt_mem (by rw [Ac.pl_len, ones_len hq3.2.1]; exact hi)) _ hx
  rw [e] at hx hy
  have ex := List.mem_singleton.1 hx
  have ey := List.mem_singleton.1 hy
  rw [ey, ← ex]
  exact kn_sub x hm w'⟩)) (fun x w' _ h => by exact Hp.segsT (T := ([] : List Blk)) (A := [x.blks 43 28, [⟨bq10, [(.int .i64 1), (.slice xq8.ad 3 xq8.cp)], 25, true⟩, ⟨bq7, [(.int .i64 1), (.slice xq5.ad 3 xq5.cp)], 25, true⟩, ⟨bq4, [(.int .i64 1), (.slice xq2.ad 3 xq2.cp)], 25, true⟩, ⟨bq1, [(.int .u32 1065353216), (.int .u32 1073741824), (.int .u32 1082130432)], 28, true⟩], xq8.blks 43 28, xq5.blks 43 28, xq2.blks 43 28]) (idx := [1, 0, 2, 3, 4]) 5 [] h rfl (by decide) rfl)))) (fun xq11 hq12 => ?_)
 refine GL.mv rfl (by decide) ?_
 refine GL.val (Ex.extract rfl rfl) (by decide) ?_
 refine GL.val (Ex.extract rfl rfl) (by decide) ?_
 refine GL.step (Stp.alloc T.zr25 (by decide)) (fun bq13 _ => ?_)
 refine GL.step (Stp.st0 (cs' := [(.int .i64 1), (.slice xq11.ad 3 xq11.cp)]) rfl rfl rfl T.sz25 rfl rfl rfl) (fun _ _ => ?_)
 refine GL.sg rfl (by decide) ?_
 refine GL.nil (GE.thenN (GC.seq (GC.region ?_)))
 refine GL.val (v := (.agg #[(.int .i64 1), (.slice xq2.ad 3 xq2.cp)])) (Ex.loadA rfl T.ag25 T.sz25 (i := 3) rfl (vs := [(.int .i64 1), (.slice xq2.ad 3 xq2.cp)]) rfl rfl) (by decide) ?_
 refine GL.step (Stp.call (vs := [(.agg #[(.int .i64 1), (.slice xq2.ad 3 xq2.cp)]), (.int .i64 (-1)), (.int .u32 1069547520), (.int .u32 1077936128)]) rfl rfl T.own18 (by decide) (fun wc hw => (Ret.frm (L' := fun x => (⟨bq13, [(.int .i64 1), (.slice xq11.ad 3 xq11.cp)], 25, true⟩ :: ⟨bq10, [(.int .i64 1), (.slice xq8.ad 3 xq8.cp)], 25, true⟩ :: ⟨bq7, [(.int .i64 1), (.slice xq5.ad 3 xq5.cp)], 25, true⟩ :: ⟨bq4, [(.int .i64 1), (.slice xq2.ad 3 xq2.cp)], 25, true⟩ :: ⟨bq1, [(.int .u32 1065353216), (.int .u32 1073741824), (.int .u32 1082130432)], 28, true⟩ :: (x.blks 43 28 ++ (xq11.blks 43 28 ++ (xq8.blks 43 28 ++ (xq5.blks 43 28 ++ (xq2.blks 43 28 ++ ([] : List Blk)))))))) hw (between_a 1 xq2.ad 3 xq2.cp xq2.pl 1 1 1069547520 1077936128 (fun x : Int => if x = 1065353216 then (1069547520 : Int) else if x = 1073741824 then 1073741824 else 1077936128) wc (ones_pa hq3.2.1 (by decide) (Hp.seg (T := ([] : List Blk)) (A := [[_, _, _, _, _], xq11.blks 43 28, xq8.blks 43 28, xq5.blks 43 28, xq2.blks 43 28]) hw 4 rfl)) (by rw [Ac.pl_len]; exact (ones_len hq3.2.1).symm) (ones_ok hq3.2.1 (by decide) (by decide) (by decide)) (fun p hp x hx w' _ => kn_between x (ones_mem hq3.2.1 p hp x hx) w')) (fun x w' _ h => by exact Hp.segsT (T := ([] : List Blk)) (A := [x.blks 43 28, [⟨bq13, [(.int .i64 1), (.slice xq11.ad 3 xq11.cp)], 25, true⟩, ⟨bq10, [(.int .i64 1), (.slice xq8.ad 3 xq8.cp)], 25, true⟩, ⟨bq7, [(.int .i64 1), (.slice xq5.ad 3 xq5.cp)], 25, true⟩, ⟨bq4, [(.int .i64 1), (.slice xq2.ad 3 xq2.cp)], 25, true⟩, ⟨bq1, [(.int .u32 1065353216), (.int .u32 1073741824), (.int .u32 1082130432)], 28, true⟩], xq11.blks 43 28, xq8.blks 43 28, xq5.blks 43 28, xq2.blks 43 28]) (idx := [1, 0, 2, 3, 4, 5]) 6 [] h rfl (by decide) rfl)))) (fun xq14 hq15 => ?_)
 refine GL.mv rfl (by decide) ?_
 refine GL.val (Ex.extract rfl rfl) (by decide) ?_
 refine GL.val (Ex.extract rfl rfl) (by decide) ?_
 refine GL.step (Stp.alloc T.zr25 (by decide)) (fun bq16 _ => ?_)
 refine GL.step (Stp.st0 (cs' := [(.int .i64 1), (.slice xq14.ad 3 xq14.cp)]) rfl rfl rfl T.sz25 rfl rfl rfl) (fun _ _ => ?_)
 refine GL.sg rfl (by decide) ?_
 refine GL.nil (GE.thenN (GC.seq (GC.region ?_)))
 refine GL.step (Stp.call (vs := [(.int .i64 1), (.int .i64 2), (.int .i64 1), (.int .i64 1), (.int .u32 0)]) rfl rfl T.own17 (by decide) (fun wc hw => (Ret.frm (L' := fun x => (⟨bq16, [(.int .i64 1), (.slice xq14.ad 3 xq14.cp)], 25, true⟩ :: ⟨bq13, [(.int .i64 1), (.slice xq11.ad 3 xq11.cp)], 25, true⟩ :: ⟨bq10, [(.int .i64 1), (.slice xq8.ad 3 xq8.cp)], 25, true⟩ :: ⟨bq7, [(.int .i64 1), (.slice xq5.ad 3 xq5.cp)], 25, true⟩ :: ⟨bq4, [(.int .i64 1), (.slice xq2.ad 3 xq2.cp)], 25, true⟩ :: ⟨bq1, [(.int .u32 1065353216), (.int .u32 1073741824), (.int .u32 1082130432)], 28, true⟩ :: (x.blks 43 28 ++ (xq14.blks 43 28 ++ (xq11.blks 43 28 ++ (xq8.blks 43 28 ++ (xq5.blks 43 28 ++ (xq2.blks 43 28 ++ ([] : List Blk))))))))) hw (kn_new81 wc) (fun x w' _ h => by exact Hp.segsT (T := ([] : List Blk)) (A := [x.blks 43 28, [⟨bq16, [(.int .i64 1), (.slice xq14.ad 3 xq14.cp)], 25, true⟩, ⟨bq13, [(.int .i64 1), (.slice xq11.ad 3 xq11.cp)], 25, true⟩, ⟨bq10, [(.int .i64 1), (.slice xq8.ad 3 xq8.cp)], 25, true⟩, ⟨bq7, [(.int .i64 1), (.slice xq5.ad 3 xq5.cp)], 25, true⟩, ⟨bq4, [(.int .i64 1), (.slice xq2.ad 3 xq2.cp)], 25, true⟩, ⟨bq1, [(.int .u32 1065353216), (.int .u32 1073741824), (.int .u32 1082130432)], 28, true⟩], xq14.blks 43 28, xq11.blks 43 28, xq8.blks 43 28, xq5.blks 43 28, xq2.blks 43 28]) (idx := [1, 0, 2, 3, 4, 5, 6]) 7 [] h rfl (by decide) rfl)))) (fun xq17 hq18 => ?_)
 refine GL.mv rfl (by decide) ?_
 refine GL.val (Ex.extract rfl rfl) (by decide) ?_
 refine GL.val (Ex.extract rfl rfl) (by decide) ?_
 refine GL.step (Stp.alloc T.zr25 (by decide)) (fun bq19 _ => ?_)
 refine GL.step (Stp.st0 (cs' := [(.int .i64 ((picS 81 1))), (.slice xq17.ad xq17.n xq17.cp)]) rfl rfl rfl T.sz25 rfl rfl rfl) (fun _ _ => ?_)
 refine GL.sg rfl (by decide) ?_
 refine GL.nil (GE.thenN (GC.seq (GC.region ?_)))
 refine GL.step (Stp.call (vs := [(.int .i64 0), (.int .i64 5), (.int .i64 1), (.int .i64 1), (.int .u32 0)]) rfl rfl T.own17 (by decide) (fun wc hw => (Ret.frm (L' := fun x => (⟨bq19, [(.int .i64 ((picS 81 1))), (.slice xq17.ad xq17.n xq17.cp)], 25, true⟩ :: ⟨bq16, [(.int .i64 1), (.slice xq14.ad 3 xq14.cp)], 25, true⟩ :: ⟨bq13, [(.int .i64 1), (.slice xq11.ad 3 xq11.cp)], 25, true⟩ :: ⟨bq10, [(.int .i64 1), (.slice xq8.ad 3 xq8.cp)], 25, true⟩ :: ⟨bq7, [(.int .i64 1), (.slice xq5.ad 3 xq5.cp)], 25, true⟩ :: ⟨bq4, [(.int .i64 1), (.slice xq2.ad 3 xq2.cp)], 25, true⟩ :: ⟨bq1, [(.int .u32 1065353216), (.int .u32 1073741824), (.int .u32 1082130432)], 28, true⟩ :: (x.blks 43 28 ++ (xq17.blks 43 28 ++ (xq14.blks 43 28 ++ (xq11.blks 43 28 ++ (xq8.blks 43 28 ++ (xq5.blks 43 28 ++ (xq2.blks 43 28 ++ ([] : List Blk)))))))))) hw (kn_new80 wc) (fun x w' _ h => by exact Hp.segsT (T := ([] : List Blk)) (A := [x.blks 43 28, [⟨bq19, [(.int .i64 ((picS 81 1))), (.slice xq17.ad xq17.n xq17.cp)], 25, true⟩, ⟨bq16, [(.int .i64 1), (.slice xq14.ad 3 xq14.cp)], 25, true⟩, ⟨bq13, [(.int .i64 1), (.slice xq11.ad 3 xq11.cp)], 25, true⟩, ⟨bq10, [(.int .i64 1), (.slice xq8.ad 3 xq8.cp)], 25, true⟩, ⟨bq7, [(.int .i64 1), (.slice xq5.ad 3 xq5.cp)], 25, true⟩, ⟨bq4, [(.int .i64 1), (.slice xq2.ad 3 xq2.cp)], 25, true⟩, ⟨bq1, [(.int .u32 1065353216), (.int .u32 1073741824), (.int .u32 1082130432)], 28, true⟩], xq17.blks 43 28, xq14.blks 43 28, xq11.blks 43 28, xq8.blks 43 28, xq5.blks 43 28, xq2.blks 43 28]) (idx := [1, 0, 2, 3, 4, 5, 6, 7]) 8 [] h rfl (by decide) rfl)))) (fun xq20 hq21 => ?_)
 refine GL.mv rfl (by decide) ?_
 refine GL.val (Ex.extract rfl rfl) (by decide) ?_
 refine GL.val (Ex.extract rfl rfl) (by decide) ?_
 refine GL.step (Stp.alloc T.zr25 (by decide)) (fun bq22 _ => ?_)
 refine GL.step (Stp.st0 (cs' := [(.int .i64 ((picS 80 0))), (.slice xq20.ad xq20.n xq20.cp)]) rfl rfl rfl T.sz25 rfl rfl rfl) (fun _ _ => ?_)
 refine GL.sg rfl (by decide) ?_
 refine GL.nil (GE.thenN (GC.seq (GC.seq (GC.region ?_))))
 refine GL.mv rfl (by decide) ?_
 refine GL.step (Stp.callR (vs := [(.int .i64 0)]) rfl rfl T.own8 (by decide) (fun wc hw => num 0 wc (by decide))) (fun xq23 hq24 => ?_)
 refine GL.mv rfl (by decide) ?_
 refine GL.step (Stp.callR (vs := [(.int .i64 0)]) rfl rfl T.own8 (by decide) (fun wc hw => num 0 wc (by decide))) (fun xq25 hq26 => ?_)
 refine GL.val (v := (.int .i64 0)) (Ex.add rfl rfl (Z := 0) (by decide)) (by decide) ?_
 refine GL.mv rfl (by decide) ?_
 refine GL.step (Stp.callR (vs := [(.int .i64 0)]) rfl rfl T.own8 (by decide) (fun wc hw => num 0 wc (by decide))) (fun xq27 hq28 => ?_)
 refine GL.val (v := (.int .i64 0)) (Ex.add rfl rfl (Z := 0) (by decide)) (by decide) ?_
 refine GL.mv rfl (by decide) ?_
 refine GL.step (Stp.callR (vs := [(.int .i64 0)]) rfl rfl T.own8 (by decide) (fun wc hw => num 0 wc (by decide))) (fun xq29 hq30 => ?_)
 refine GL.val (v := (.int .i64 0)) (Ex.add rfl rfl (Z := 0) (by decide)) (by decide) ?_
 refine GL.val (v := (.bool false)) (Ex.cast (Ex.neq rfl rfl) rfl) (by decide) ?_
 refine GL.mv rfl (by decide) ?_
 refine GL.stepG (tj := 58) rfl rfl (Ex.wp (v := (.int .i64 81)) (Ex.move rfl) (by decide)) (fun _ _ => ?_)
 refine GL.stepG (tj := 58) rfl rfl (Stp.callR (vs := [(.int .i64 81)]) rfl rfl T.own8 (by decide) (fun wc hw => num 81 wc (by decide))) (fun xq31 hq32 => ?_)
 refine GL.stepG (tj := 58) rfl rfl (Ex.wp (v := (.bool false)) (Ex.cast (Ex.neq rfl rfl) rfl) (by decide)) (fun _ _ => ?_)
 refine GL.val (v := (.bool false)) (Ex.pickF rfl rfl) (by decide) ?_
 refine GL.mv rfl (by decide) ?_
 refine GL.stepG (tj := 63) rfl rfl (Ex.wp (v := (.int .i64 80)) (Ex.move rfl) (by decide)) (fun _ _ => ?_)
 refine GL.stepG (tj := 63) rfl rfl (Stp.callR (vs := [(.int .i64 80)]) rfl rfl T.own8 (by decide) (fun wc hw => num 80 wc (by decide))) (fun xq33 hq34 => ?_)
 refine GL.stepG (tj := 63) rfl rfl (Ex.wp (v := (.bool false)) (Ex.cast (Ex.neq rfl rfl) rfl) (by decide)) (fun _ _ => ?_)
 refine GL.val (v := (.bool false)) (Ex.pickF rfl rfl) (by decide) ?_
 refine GL.nil (GE.thenN ?_)
 refine GC.cond rfl (fun hq35 => by cases hq35) (fun _ => ?_)
 refine GC.skip (GE.thenN (GC.seq ?_))
 refine GC.drawP [⟨bq22, [(.int .i64 ((picS 80 0))), (.slice xq20.ad xq20.n xq20.cp)], 25, true⟩, ⟨bq19, [(.int .i64 ((picS 81 1))), (.slice xq17.ad xq17.n xq17.cp)], 25, true⟩, ⟨bq16, [(.int .i64 1), (.slice xq14.ad 3 xq14.cp)], 25, true⟩, ⟨bq13, [(.int .i64 1), (.slice xq11.ad 3 xq11.cp)], 25, true⟩, ⟨bq10, [(.int .i64 1), (.slice xq8.ad 3 xq8.cp)], 25, true⟩, ⟨bq7, [(.int .i64 1), (.slice xq5.ad 3 xq5.cp)], 25, true⟩, ⟨bq4, [(.int .i64 1), (.slice xq2.ad 3 xq2.cp)], 25, true⟩, ⟨bq1, [(.int .u32 1065353216), (.int .u32 1073741824), (.int .u32 1082130432)], 28, true⟩] T.mixed (by kernel_rfl) (by kernel_rfl) (fuel := 22) rfl rfl ?_
 refine GH.tk 0 (v := (.agg #[(.int .i64 1), (.slice xq5.ad 3 xq5.cp)])) rfl (by kernel_rfl) (fun _ _ _ h => h) (Ex.loadA rfl T.ag25 T.sz25 (i := 5) rfl (vs := [(.int .i64 1), (.slice xq5.ad 3 xq5.cp)]) rfl rfl) (ulC (ulC (ulC (ulC (ulC (ulC (ulC (ulC ulN)))))))) (by decide) ?_
 refine GH.one 1 rfl (by kernel_rfl) (Stp.buildSlice (cs := [(.int .u32 1077936128), (.int .u32 1084227584), (.int .u32 1091567616)]) (vs := [(0, (.int .u32 1077936128)), (1, (.int .u32 1084227584)), (2, (.int .u32 1091567616))]) Try.underlying41 T.zr28 T.sz28 rfl (by decide) (by decide) (by first | rfl | kernel_rfl) (by decide)) (fun _ => (ulS (ulC (ulC (ulC (ulC (ulC (ulC (ulC (ulC ulN)))))))))) (fun bq36 _ => ?_)
 refine GH.one 2 rfl (by kernel_rfl) (Stp.call (vs := [(.int .i64 1), (.slice (some ⟨bq36, 0, none⟩) 3 3)]) rfl rfl T.own33 (by decide) (fun wc hw => (Ret.frm (L' := fun x => (⟨bq36, [(.int .u32 1077936128), (.int .u32 1084227584), (.int .u32 1091567616)], 28, true⟩ :: ⟨bq22, [(.int .i64 ((picS 80 0))), (.slice xq20.ad xq20.n xq20.cp)], 25, true⟩ :: ⟨bq19, [(.int .i64 ((picS 81 1))), (.slice xq17.ad xq17.n xq17.cp)], 25, true⟩ :: ⟨bq16, [(.int .i64 1), (.slice xq14.ad 3 xq14.cp)], 25, true⟩ :: ⟨bq13, [(.int .i64 1), (.slice xq11.ad 3 xq11.cp)], 25, true⟩ :: ⟨bq10, [(.int .i64 1), (.slice xq8.ad 3 xq8.cp)], 25, true⟩ :: ⟨bq7, [(.int .i64 1), (.slice xq5.ad 3 xq5.cp)], 25, true⟩ :: ⟨bq4, [(.int .i64 1), (.slice xq2.ad 3 xq2.cp)], 25, true⟩ :: ⟨bq1, [(.int .u32 1065353216), (.int .u32 1073741824), (.int .u32 1082130432)], 28, true⟩ :: (x.blks 43 28 ++ (xq20.blks 43 28 ++ (xq17.blks 43 28 ++ (xq14.blks 43 28 ++ (xq11.blks 43 28 ++ (xq8.blks 43 28 ++ (xq5.blks 43 28 ++ (xq2.blks 43 28 ++ ([] : List Blk))))))))))) hw (place 1 bq36 0 3 3 [1077936128, 1084227584, 1091567616] wc rfl (by decide) (by decide) (hw.rdOf (i := 0) rfl 0)) (fun x w' _ h => by exact Hp.segsT (T := ([] : List Blk)) (A := [x.blks 43 28, [⟨bq36, [(.int .u32 1077936128), (.int .u32 1084227584), (.int .u32 1091567616)], 28, true⟩, ⟨bq22, [(.int .i64 ((picS 80 0))), (.slice xq20.ad xq20.n xq20.cp)], 25, true⟩, ⟨bq19, [(.int .i64 ((picS 81 1))), (.slice xq17.ad xq17.n xq17.cp)], 25, true⟩, ⟨bq16, [(.int .i64 1), (.slice xq14.ad 3 xq14.cp)], 25, true⟩, ⟨bq13, [(.int .i64 1), (.slice xq11.ad 3 xq11.cp)], 25, true⟩, ⟨bq10, [(.int .i64 1), (.slice xq8.ad 3 xq8.cp)], 25, true⟩, ⟨bq7, [(.int .i64 1), (.slice xq5.ad 3 xq5.cp)], 25, true⟩, ⟨bq4, [(.int .i64 1), (.slice xq2.ad 3 xq2.cp)], 25, true⟩, ⟨bq1, [(.int .u32 1065353216), (.int .u32 1073741824), (.int .u32 1082130432)], 28, true⟩], xq20.blks 43 28, xq17.blks 43 28, xq14.blks 43 28, xq11.blks 43 28, xq8.blks 43 28, xq5.blks 43 28, xq2.blks 43 28]) (idx := [1, 0, 2, 3, 4, 5, 6, 7, 8]) 9 [] h rfl (by decide) rfl)))) (fun _ => (ulS (ulC (ulC (ulC (ulC (ulC (ulC (ulC (ulC ulN)))))))))) (fun xq37 hq38 => ?_)
 refine GH.one 3 rfl (by kernel_rfl) (Stp.callR (σ := Unit) (p := fun rz => True) (v := fun rz => (.bool true)) (N := fun rz => []) (vs := [(.agg #[(.int .i64 1), (.slice xq5.ad 3 xq5.cp)]), (.agg #[(.int .i64 1), (.slice xq37.ad 3 xq37.cp)])]) rfl rfl T.own19 (by decide) (fun wc hw => (by
  have ea : xq5.ds = onesD [1077936128, 1084227584, 1091567616] := hq6.2.1.trans ((ones_map hq3.2.1 (fun x : Int => if x = 1065353216 then (1077936128 : Int) else if x = 1073741824 then 1084227584 else 1091567616)).trans (congrArg onesD (by decide)))
  exact pic_eq 1 xq5.ad xq37.ad 3 xq5.cp xq37.cp xq5.pl xq37.pl wc (by rw [Ac.pl_len]; exact (ones_len ea).symm) (by decide) (ones_eq ea hq38.2.1 rfl) (Ac.r (Hp.seg (T := ([] : List Blk)) (A := [[_, _, _, _, _, _, _, _, _], xq37.blks 43 28, xq20.blks 43 28, xq17.blks 43 28, xq14.blks 43 28, xq11.blks 43 28, xq8.blks 43 28, xq5.blks 43 28, xq2.blks 43 28]) hw 7 rfl) (ones_x ea)) (Ac.r (Hp.seg (T := ([] : List Blk)) (A := [[_, _, _, _, _, _, _, _, _], xq37.blks 43 28, xq20.blks 43 28, xq17.blks 43 28, xq14.blks 43 28, xq11.blks 43 28, xq8.blks 43 28, xq5.blks 43 28, xq2.blks 43 28]) hw 1 rfl) (ones_x hq38.2.1))))) (fun _ => (ulS (ulC (ulC (ulC (ulC (ulC (ulC (ulC (ulC ulN)))))))))) (fun xq39 hq40 => ?_)
 refine GH.tk 4 (v := (.bool true)) rfl (by kernel_rfl) (fun _ _ _ h => h) (Ex.move rfl) (ulS (ulC (ulC (ulC (ulC (ulC (ulC (ulC (ulC ulN))))))))) (by decide) ?_
 refine GH.takeG 5 (tj := 72) (v := (.agg #[(.int .i64 1), (.slice xq8.ad 3 xq8.cp)])) rfl rfl rfl (by kernel_rfl) (by kernel_rfl) (by kernel_rfl) (fun _ _ _ h => h) (Ex.loadA rfl T.ag25 T.sz25 (i := 4) rfl (vs := [(.int .i64 1), (.slice xq8.ad 3 xq8.cp)]) rfl rfl) (ulS (ulC (ulC (ulC (ulC (ulC (ulC (ulC (ulC ulN))))))))) (by decide) ?_
 refine GH.oneG 6 (tj := 72) rfl rfl rfl (by kernel_rfl) (Stp.buildSlice (cs := [(.int .u32 1082130432), (.int .u32 1073741824), (.int .u32 1065353216)]) (vs := [(0, (.int .u32 1082130432)), (1, (.int .u32 1073741824)), (2, (.int .u32 1065353216))]) Try.underlying41 T.zr28 T.sz28 rfl (by decide) (by decide) (by first | rfl | kernel_rfl) (by decide)) (fun _ => (ulS (ulS (ulC (ulC (ulC (ulC (ulC (ulC (ulC (ulC ulN))))))))))) (fun bq41 _ => ?_)
 refine GH.oneG 7 (tj := 72) rfl rfl rfl (by kernel_rfl) (Stp.call (vs := [(.int .i64 1), (.slice (some ⟨bq41, 0, none⟩) 3 3)]) rfl rfl T.own33 (by decide) (fun wc hw => (Ret.frm (L' := fun x => (⟨bq41, [(.int .u32 1082130432), (.int .u32 1073741824), (.int .u32 1065353216)], 28, true⟩ :: ⟨bq36, [(.int .u32 1077936128), (.int .u32 1084227584), (.int .u32 1091567616)], 28, true⟩ :: ⟨bq22, [(.int .i64 ((picS 80 0))), (.slice xq20.ad xq20.n xq20.cp)], 25, true⟩ :: ⟨bq19, [(.int .i64 ((picS 81 1))), (.slice xq17.ad xq17.n xq17.cp)], 25, true⟩ :: ⟨bq16, [(.int .i64 1), (.slice xq14.ad 3 xq14.cp)], 25, true⟩ :: ⟨bq13, [(.int .i64 1), (.slice xq11.ad 3 xq11.cp)], 25, true⟩ :: ⟨bq10, [(.int .i64 1), (.slice xq8.ad 3 xq8.cp)], 25, true⟩ :: ⟨bq7, [(.int .i64 1), (.slice xq5.ad 3 xq5.cp)], 25, true⟩ :: ⟨bq4, [(.int .i64 1), (.slice xq2.ad 3 xq2.cp)], 25, true⟩ :: ⟨bq1, [(.int .u32 1065353216), (.int .u32 1073741824), (.int .u32 1082130432)], 28, true⟩ :: (x.blks 43 28 ++ (xq37.blks 43 28 ++ (xq20.blks 43 28 ++ (xq17.blks 43 28 ++ (xq14.blks 43 28 ++ (xq11.blks 43 28 ++ (xq8.blks 43 28 ++ (xq5.blks 43 28 ++ (xq2.blks 43 28 ++ ([] : List Blk)))))))))))) hw (place 1 bq41 0 3 3 [1082130432, 1073741824, 1065353216] wc rfl (by decide) (by decide) (hw.rdOf (i := 0) rfl 0)) (fun x w' _ h => by exact Hp.segsT (T := ([] : List Blk)) (A := [x.blks 43 28, [⟨bq41, [(.int .u32 1082130432), (.int .u32 1073741824), (.int .u32 1065353216)], 28, true⟩, ⟨bq36, [(.int .u32 1077936128), (.int .u32 1084227584), (.int .u32 1091567616)], 28, true⟩, ⟨bq22, [(.int .i64 ((picS 80 0))), (.slice xq20.ad xq20.n xq20.cp)], 25, true⟩, ⟨bq19, [(.int .i64 ((picS 81 1))), (.slice xq17.ad xq17.n xq17.cp)], 25, true⟩, ⟨bq16, [(.int .i64 1), (.slice xq14.ad 3 xq14.cp)], 25, true⟩, ⟨bq13, [(.int .i64 1), (.slice xq11.ad 3 xq11.cp)], 25, true⟩, ⟨bq10, [(.int .i64 1), (.slice xq8.ad 3 xq8.cp)], 25, true⟩, ⟨bq7, [(.int .i64 1), (.slice xq5.ad 3 xq5.cp)], 25, true⟩, ⟨bq4, [(.int .i64 1), (.slice xq2.ad 3 xq2.cp)], 25, true⟩, ⟨bq1, [(.int .u32 1065353216), (.int .u32 1073741824), (.int .u32 1082130432)], 28, true⟩], xq37.blks 43 28, xq20.blks 43 28, xq17.blks 43 28, xq14.blks 43 28, xq11.blks 43 28, xq8.blks 43 28, xq5.blks 43 28, xq2.blks 43 28]) (idx := [1, 0, 2, 3, 4, 5, 6, 7, 8, 9]) 10 [] h rfl (by decide) rfl)))) (fun _ => (ulS (ulS (ulC (ulC (ulC (ulC (ulC (ulC (ulC (ulC ulN))))))))))) (fun xq42 hq43 => ?_)
 refine GH.oneG 8 (tj := 72) rfl rfl rfl (by kernel_rfl) (Stp.callR (σ := Unit) (p := fun rz => True) (v := fun rz => (.bool true)) (N := fun rz => []) (vs := [(.agg #[(.int .i64 1), (.slice xq8.ad 3 xq8.cp)]), (.agg #[(.int .i64 1), (.slice xq42.ad 3 xq42.cp)])]) rfl rfl T.own19 (by decide) (fun wc hw => (by
  have ea : xq8.ds = onesD [1082130432, 1073741824, 1065353216] := hq9.2.1.trans (ones_tri hq3.2.1 (fun x y z : Int => (z, y, x)))
  exact pic_eq 1 xq8.ad xq42.ad 3 xq8.cp xq42.cp xq8.pl xq42.pl wc (by rw [Ac.pl_len]; exact (ones_len ea).symm) (by decide) (ones_eq ea hq43.2.1 rfl) (Ac.r (Hp.seg (T := ([] : List Blk)) (A := [[_, _, _, _, _, _, _, _, _, _], xq42.blks 43 28, xq37.blks 43 28, xq20.blks 43 28, xq17.blks 43 28, xq14.blks 43 28, xq11.blks 43 28, xq8.blks 43 28, xq5.blks 43 28, xq2.blks 43 28]) hw 7 rfl) (ones_x ea)) (Ac.r (Hp.seg (T := ([] : List Blk)) (A := [[_, _, _, _, _, _, _, _, _, _], xq42.blks 43 28, xq37.blks 43 28, xq20.blks 43 28, xq17.blks 43 28, xq14.blks 43 28, xq11.blks 43 28, xq8.blks 43 28, xq5.blks 43 28, xq2.blks 43 28]) hw 1 rfl) (ones_x hq43.2.1))))) (fun _ => (ulS (ulS (ulC (ulC (ulC (ulC (ulC (ulC (ulC (ulC ulN))))))))))) (fun xq44 hq45 => ?_)
 refine GH.tk 9 (v := (.bool true)) rfl (by kernel_rfl) (fun _ _ _ h => h) (Ex.pickT rfl rfl) (ulS (ulS (ulC (ulC (ulC (ulC (ulC (ulC (ulC (ulC ulN)))))))))) (by decide) ?_
 refine GH.tk 10 (v := (.bool true)) rfl (by kernel_rfl) (fun _ _ _ h => h) (Ex.move rfl) (ulS (ulS (ulC (ulC (ulC (ulC (ulC (ulC (ulC (ulC ulN)))))))))) (by decide) ?_
 refine GH.takeG 11 (tj := 78) (v := (.agg #[(.int .i64 1), (.slice xq11.ad 3 xq11.cp)])) rfl rfl rfl (by kernel_rfl) (by kernel_rfl) (by kernel_rfl) (fun _ _ _ h => h) (Ex.loadA rfl T.ag25 T.sz25 (i := 3) rfl (vs := [(.int .i64 1), (.slice xq11.ad 3 xq11.cp)]) rfl rfl) (ulS (ulS (ulC (ulC (ulC (ulC (ulC (ulC (ulC (ulC ulN)))))))))) (by decide) ?_
 refine GH.oneG 12 (tj := 78) rfl rfl rfl (by kernel_rfl) (Stp.buildSlice (cs := [(.int .u32 0), (.int .u32 0), (.int .u32 0)]) (vs := [(0, (.int .u32 0)), (1, (.int .u32 0)), (2, (.int .u32 0))]) Try.underlying41 T.zr28 T.sz28 rfl (by decide) (by decide) (by first | rfl | kernel_rfl) (by decide)) (fun _ => (ulS (ulS (ulS (ulC (ulC (ulC (ulC (ulC (ulC (ulC (ulC ulN)))))))))))) (fun bq46 _ => ?_)
 refine GH.oneG 13 (tj := 78) rfl rfl rfl (by kernel_rfl) (Stp.call (vs := [(.int .i64 1), (.slice (some ⟨bq46, 0, none⟩) 3 3)]) rfl rfl T.own33 (by decide) (fun wc hw => (Ret.frm (L' := fun x => (⟨bq46, [(.int .u32 0), (.int .u32 0), (.int .u32 0)], 28, true⟩ :: ⟨bq41, [(.int .u32 1082130432), (.int .u32 1073741824), (.int .u32 1065353216)], 28, true⟩ :: ⟨bq36, [(.int .u32 1077936128), (.int .u32 1084227584), (.int .u32 1091567616)], 28, true⟩ :: ⟨bq22, [(.int .i64 ((picS 80 0))), (.slice xq20.ad xq20.n xq20.cp)], 25, true⟩ :: ⟨bq19, [(.int .i64 ((picS 81 1))), (.slice xq17.ad xq17.n xq17.cp)], 25, true⟩ :: ⟨bq16, [(.int .i64 1), (.slice xq14.ad 3 xq14.cp)], 25, true⟩ :: ⟨bq13, [(.int .i64 1), (.slice xq11.ad 3 xq11.cp)], 25, true⟩ :: ⟨bq10, [(.int .i64 1), (.slice xq8.ad 3 xq8.cp)], 25, true⟩ :: ⟨bq7, [(.int .i64 1), (.slice xq5.ad 3 xq5.cp)], 25, true⟩ :: ⟨bq4, [(.int .i64 1), (.slice xq2.ad 3 xq2.cp)], 25, true⟩ :: ⟨bq1, [(.int .u32 1065353216), (.int .u32 1073741824), (.int .u32 1082130432)], 28, true⟩ :: (x.blks 43 28 ++ (xq42.blks 43 28 ++ (xq37.blks 43 28 ++ (xq20.blks 43 28 ++ (xq17.blks 43 28 ++ (xq14.blks 43 28 ++ (xq11.blks 43 28 ++ (xq8.blks 43 28 ++ (xq5.blks 43 28 ++ (xq2.blks 43 28 ++ ([] : List Blk))))))))))))) hw (place 1 bq46 0 3 3 [0, 0, 0] wc rfl (by decide) (by decide) (hw.rdOf (i := 0) rfl 0)) (fun x w' _ h => by exact Hp.segsT (T := ([] : List Blk)) (A := [x.blks 43 28, [⟨bq46, [(.int .u32 0), (.int .u32 0), (.int .u32 0)], 28, true⟩, ⟨bq41, [(.int .u32 1082130432), (.int .u32 1073741824), (.int .u32 1065353216)], 28, true⟩, ⟨bq36, [(.int .u32 1077936128), (.int .u32 1084227584), (.int .u32 1091567616)], 28, true⟩, ⟨bq22, [(.int .i64 ((picS 80 0))), (.slice xq20.ad xq20.n xq20.cp)], 25, true⟩, ⟨bq19, [(.int .i64 ((picS 81 1))), (.slice xq17.ad xq17.n xq17.cp)], 25, true⟩, ⟨bq16, [(.int .i64 1), (.slice xq14.ad 3 xq14.cp)], 25, true⟩, ⟨bq13, [(.int .i64 1), (.slice xq11.ad 3 xq11.cp)], 25, true⟩, ⟨bq10, [(.int .i64 1), (.slice xq8.ad 3 xq8.cp)], 25, true⟩, ⟨bq7, [(.int .i64 1), (.slice xq5.ad 3 xq5.cp)], 25, true⟩, ⟨bq4, [(.int .i64 1), (.slice xq2.ad 3 xq2.cp)], 25, true⟩, ⟨bq1, [(.int .u32 1065353216), (.int .u32 1073741824), (.int .u32 1082130432)], 28, true⟩], xq42.blks 43 28, xq37.blks 43 28, xq20.blks 43 28, xq17.blks 43 28, xq14.blks 43 28, xq11.blks 43 28, xq8.blks 43 28, xq5.blks 43 28, xq2.blks 43 28]) (idx := [1, 0, 2, 3, 4, 5, 6, 7, 8, 9, 10]) 11 [] h rfl (by decide) rfl)))) (fun _ => (ulS (ulS (ulS (ulC (ulC (ulC (ulC (ulC (ulC (ulC (ulC ulN)))))))))))) (fun xq47 hq48 => ?_)
 refine GH.oneG 14 (tj := 78) rfl rfl rfl (by kernel_rfl) (Stp.callR (σ := Unit) (p := fun rz => True) (v := fun rz => (.bool true)) (N := fun rz => []) (vs := [(.agg #[(.int .i64 1), (.slice xq11.ad 3 xq11.cp)]), (.agg #[(.int .i64 1), (.slice xq47.ad 3 xq47.cp)])]) rfl rfl T.own19 (by decide) (fun wc hw => (by
  have ea : xq11.ds = onesD [0, 0, 0] := hq12.2.1.trans ((ones_two hq3.2.1 (fun _ _ => 0)).trans (congrArg onesD rfl))
  exact pic_eq 1 xq11.ad xq47.ad 3 xq11.cp xq47.cp xq11.pl xq47.pl wc (by rw [Ac.pl_len]; exact (ones_len ea).symm) (by decide) (ones_eq ea hq48.2.1 rfl) (Ac.r (Hp.seg (T := ([] : List Blk)) (A := [[_, _, _, _, _, _, _, _, _, _, _], xq47.blks 43 28, xq42.blks 43 28, xq37.blks 43 28, xq20.blks 43 28, xq17.blks 43 28, xq14.blks 43 28, xq11.blks 43 28, xq8.blks 43 28, xq5.blks 43 28, xq2.blks 43 28]) hw 7 rfl) (ones_x ea)) (Ac.r (Hp.seg (T := ([] : List Blk)) (A := [[_, _, _, _, _, _, _, _, _, _, _], xq47.blks 43 28, xq42.blks 43 28, xq37.blks 43 28, xq20.blks 43 28, xq17.blks 43 28, xq14.blks 43 28, xq11.blks 43 28, xq8.blks 43 28, xq5.blks 43 28, xq2.blks 43 28]) hw 1 rfl) (ones_x hq48.2.1))))) (fun _ => (ulS (ulS (ulS (ulC (ulC (ulC (ulC (ulC (ulC (ulC (ulC ulN)))))))))))) (fun xq49 hq50 => ?_)
 refine GH.tk 15 (v := (.bool true)) rfl (by kernel_rfl) (fun _ _ _ h => h) (Ex.pickT rfl rfl) (ulS (ulS (ulS (ulC (ulC (ulC (ulC (ulC (ulC (ulC (ulC ulN))))))))))) (by decide) ?_
 refine GH.tk 16 (v := (.bool true)) rfl (by kernel_rfl) (fun _ _ _ h => h) (Ex.move rfl) (ulS (ulS (ulS (ulC (ulC (ulC (ulC (ulC (ulC (ulC (ulC ulN))))))))))) (by decide) ?_
 refine GH.takeG 17 (tj := 84) (v := (.agg #[(.int .i64 1), (.slice xq14.ad 3 xq14.cp)])) rfl rfl rfl (by kernel_rfl) (by kernel_rfl) (by kernel_rfl) (fun _ _ _ h => h) (Ex.loadA rfl T.ag25 T.sz25 (i := 2) rfl (vs := [(.int .i64 1), (.slice xq14.ad 3 xq14.cp)]) rfl rfl) (ulS (ulS (ulS (ulC (ulC (ulC (ulC (ulC (ulC (ulC (ulC ulN))))))))))) (by decide) ?_
 refine GH.oneG 18 (tj := 84) rfl rfl rfl (by kernel_rfl) (Stp.buildSlice (cs := [(.int .u32 1069547520), (.int .u32 1073741824), (.int .u32 1077936128)]) (vs := [(0, (.int .u32 1069547520)), (1, (.int .u32 1073741824)), (2, (.int .u32 1077936128))]) Try.underlying41 T.zr28 T.sz28 rfl (by decide) (by decide) (by first | rfl | kernel_rfl) (by decide)) (fun _ => (ulS (ulS (ulS (ulS (ulC (ulC (ulC (ulC (ulC (ulC (ulC (ulC ulN))))))))))))) (fun bq51 _ => ?_)
 refine GH.oneG 19 (tj := 84) rfl rfl rfl (by kernel_rfl) (Stp.call (vs := [(.int .i64 1), (.slice (some ⟨bq51, 0, none⟩) 3 3)]) rfl rfl T.own33 (by decide) (fun wc hw => (Ret.frm (L' := fun x => (⟨bq51, [(.int .u32 1069547520), (.int .u32 1073741824), (.int .u32 1077936128)], 28, true⟩ :: ⟨bq46, [(.int .u32 0), (.int .u32 0), (.int .u32 0)], 28, true⟩ :: ⟨bq41, [(.int .u32 1082130432), (.int .u32 1073741824), (.int .u32 1065353216)], 28, true⟩ :: ⟨bq36, [(.int .u32 1077936128), (.int .u32 1084227584), (.int .u32 1091567616)], 28, true⟩ :: ⟨bq22, [(.int .i64 ((picS 80 0))), (.slice xq20.ad xq20.n xq20.cp)], 25, true⟩ :: ⟨bq19, [(.int .i64 ((picS 81 1))), (.slice xq17.ad xq17.n xq17.cp)], 25, true⟩ :: ⟨bq16, [(.int .i64 1), (.slice xq14.ad 3 xq14.cp)], 25, true⟩ :: ⟨bq13, [(.int .i64 1), (.slice xq11.ad 3 xq11.cp)], 25, true⟩ :: ⟨bq10, [(.int .i64 1), (.slice xq8.ad 3 xq8.cp)], 25, true⟩ :: ⟨bq7, [(.int .i64 1), (.slice xq5.ad 3 xq5.cp)], 25, true⟩ :: ⟨bq4, [(.int .i64 1), (.slice xq2.ad 3 xq2.cp)], 25, true⟩ :: ⟨bq1, [(.int .u32 1065353216), (.int .u32 1073741824), (.int .u32 1082130432)], 28, true⟩ :: (x.blks 43 28 ++ (xq47.blks 43 28 ++ (xq42.blks 43 28 ++ (xq37.blks 43 28 ++ (xq20.blks 43 28 ++ (xq17.blks 43 28 ++ (xq14.blks 43 28 ++ (xq11.blks 43 28 ++ (xq8.blks 43 28 ++ (xq5.blks 43 28 ++ (xq2.blks 43 28 ++ ([] : List Blk)))))))))))))) hw (place 1 bq51 0 3 3 [1069547520, 1073741824, 1077936128] wc rfl (by decide) (by decide) (hw.rdOf (i := 0) rfl 0)) (fun x w' _ h => by exact Hp.segsT (T := ([] : List Blk)) (A := [x.blks 43 28, [⟨bq51, [(.int .u32 1069547520), (.int .u32 1073741824), (.int .u32 1077936128)], 28, true⟩, ⟨bq46, [(.int .u32 0), (.int .u32 0), (.int .u32 0)], 28, true⟩, ⟨bq41, [(.int .u32 1082130432), (.int .u32 1073741824), (.int .u32 1065353216)], 28, true⟩, ⟨bq36, [(.int .u32 1077936128), (.int .u32 1084227584), (.int .u32 1091567616)], 28, true⟩, ⟨bq22, [(.int .i64 ((picS 80 0))), (.slice xq20.ad xq20.n xq20.cp)], 25, true⟩, ⟨bq19, [(.int .i64 ((picS 81 1))), (.slice xq17.ad xq17.n xq17.cp)], 25, true⟩, ⟨bq16, [(.int .i64 1), (.slice xq14.ad 3 xq14.cp)], 25, true⟩, ⟨bq13, [(.int .i64 1), (.slice xq11.ad 3 xq11.cp)], 25, true⟩, ⟨bq10, [(.int .i64 1), (.slice xq8.ad 3 xq8.cp)], 25, true⟩, ⟨bq7, [(.int .i64 1), (.slice xq5.ad 3 xq5.cp)], 25, true⟩, ⟨bq4, [(.int .i64 1), (.slice xq2.ad 3 xq2.cp)], 25, true⟩, ⟨bq1, [(.int .u32 1065353216), (.int .u32 1073741824), (.int .u32 1082130432)], 28, true⟩], xq47.blks 43 28, xq42.blks 43 28, xq37.blks 43 28, xq20.blks 43 28, xq17.blks 43 28, xq14.blks 43 28, xq11.blks 43 28, xq8.blks 43 28, xq5.blks 43 28, xq2.blks 43 28]) (idx := [1, 0, 2, 3, 4, 5, 6, 7, 8, 9, 10, 11]) 12 [] h rfl (by decide) rfl)))) (fun _ => (ulS (ulS (ulS (ulS (ulC (ulC (ulC (ulC (ulC (ulC (ulC (ulC ulN))))))))))))) (fun xq52 hq53 => ?_)
 refine GH.oneG 20 (tj := 84) rfl rfl rfl (by kernel_rfl) (Stp.callR (σ := Unit) (p := fun rz => True) (v := fun rz => (.bool true)) (N := fun rz => []) (vs := [(.agg #[(.int .i64 1), (.slice xq14.ad 3 xq14.cp)]), (.agg #[(.int .i64 1), (.slice xq52.ad 3 xq52.cp)])]) rfl rfl T.own19 (by decide) (fun wc hw => (by
  have ea : xq14.ds = onesD [1069547520, 1073741824, 1077936128] := hq15.2.1.trans ((ones_map hq3.2.1 (fun x : Int => if x = 1065353216 then (1069547520 : Int) else if x = 1073741824 then 1073741824 else 1077936128)).trans (congrArg onesD (by decide)))
  exact pic_eq 1 xq14.ad xq52.ad 3 xq14.cp xq52.cp xq14.pl xq52.pl wc (by rw [Ac.pl_len]; exact (ones_len ea).symm) (by decide) (ones_eq ea hq53.2.1 rfl) (Ac.r (Hp.seg (T := ([] : List Blk)) (A := [[_, _, _, _, _, _, _, _, _, _, _, _], xq52.blks 43 28, xq47.blks 43 28, xq42.blks 43 28, xq37.blks 43 28, xq20.blks 43 28, xq17.blks 43 28, xq14.blks 43 28, xq11.blks 43 28, xq8.blks 43 28, xq5.blks 43 28, xq2.blks 43 28]) hw 7 rfl) (ones_x ea)) (Ac.r (Hp.seg (T := ([] : List Blk)) (A := [[_, _, _, _, _, _, _, _, _, _, _, _], xq52.blks 43 28, xq47.blks 43 28, xq42.blks 43 28, xq37.blks 43 28, xq20.blks 43 28, xq17.blks 43 28, xq14.blks 43 28, xq11.blks 43 28, xq8.blks 43 28, xq5.blks 43 28, xq2.blks 43 28]) hw 1 rfl) (ones_x hq53.2.1))))) (fun _ => (ulS (ulS (ulS (ulS (ulC (ulC (ulC (ulC (ulC (ulC (ulC (ulC ulN))))))))))))) (fun xq54 hq55 => ?_)
 refine GH.tk 21 (v := (.bool true)) rfl (by kernel_rfl) (fun _ _ _ h => h) (Ex.pickT rfl rfl) (ulS (ulS (ulS (ulS (ulC (ulC (ulC (ulC (ulC (ulC (ulC (ulC ulN)))))))))))) (by decide) ?_
 refine GH.done (by kernel_rfl) ?_
 refine GE.thenN ?_
 refine GE.tail rfl (Ex.wp (v := (.bool true)) (Ex.assign rfl) (by decide)) (fun _ _ => ?_)
 refine GE.thenN (GC.ret ?_)
 refine GC.ret1 rfl (Rv.tmp rfl) (fun wN HN => ?_)
 exact HN.ret () trivial rfl (List.nil_sublist _) rfl

theorem split (a : Int) (w : World) (ha : 0 ≤ a ∧ a < 4294967296) :
  Calls Try.prog 122 #[(.int .u32 a)] w (Ret w (fun _ : Unit => True) (fun _ => (.agg #[(.bool (decide (2147483648 ≤ a))), (.int .i64 (a / 8388608 % 256)), (.int .i64 (a % 8388608))])) (fun _ => [])) := by
 refine enter (M := None) (L := []) (n := 13) (l := [(0, (.int .u32 a))]) Try.func122 rfl rfl (Args.cons rfl (Args.nil _)) (Hp.start _ _) ?_
 refine GC.seq (GC.region ?_)
 refine GL.step (Stp.alloc T.zr148 (by decide)) (fun bq1 _ => ?_)
 refine GL.nil (GE.thenN (GC.seq (GC.region ?_)))
 refine GL.mv rfl (by decide) ?_
 refine GL.val (v := (.bool (decide (2147483648 ≤ a)))) (Ex.geq rfl rfl) (by decide) ?_
 refine GL.mv rfl (by decide) ?_
 refine GL.val (v := (.int .u32 (a / 8388608))) (Ex.shr rfl (m := 23) rfl (by decide) (Z := a / 8388608) rfl) (by decide) ?_
 refine GL.val (v := (.int .u32 ((a / 8388608) % 256))) (Ex.bits rfl rfl (by simp) (Z := (a / 8388608) % 256) (andm 8 (by omega) (by omega) (by decide) rfl rfl)) (by decide) ?_
 refine GL.val (v := (.int .i64 ((a / 8388608) % 256))) (Ex.conv rfl Try.underlying28 Try.underlying3 (Z := (a / 8388608) % 256) (w64 (by omega))) (by decide) ?_
 refine GL.mv rfl (by decide) ?_
 refine GL.val (v := (.int .u32 (a % 8388608))) (Ex.bits rfl rfl (by simp) (Z := a % 8388608) (andm 23 (by omega) (by omega) (by decide) rfl rfl)) (by decide) ?_
 refine GL.val (v := (.int .i64 (a % 8388608))) (Ex.conv rfl Try.underlying28 Try.underlying3 (Z := a % 8388608) (w64 (by omega))) (by decide) ?_
 refine GL.val (v := (.agg #[(.bool (decide (2147483648 ≤ a))), (.int .i64 ((a / 8388608) % 256)), (.int .i64 (a % 8388608))])) (Ex.build (vs := [(0, (.bool (decide (2147483648 ≤ a)))), (1, (.int .i64 ((a / 8388608) % 256))), (2, (.int .i64 (a % 8388608)))]) rfl (by first | rfl | kernel_rfl)) (by decide) ?_
 refine GL.step (Stp.st0 (cs' := [(.bool (decide (2147483648 ≤ a))), (.int .i64 ((a / 8388608) % 256)), (.int .i64 (a % 8388608))]) rfl rfl rfl T.sz148 rfl rfl rfl) (fun _ _ => ?_)
 refine GL.nil (GE.thenN (GC.ret ?_))
 refine GC.ret1 rfl (Rv.cellA rfl T.ag148 T.sz148 (L := _) (i := 0) rfl (vs := [(.bool (decide (2147483648 ≤ a))), (.int .i64 ((a / 8388608) % 256)), (.int .i64 (a % 8388608))]) rfl rfl) (fun wN HN => ?_)
 exact HN.ret () trivial rfl (List.nil_sublist _) rfl

theorem cls_p (a : Int) (w : World) (ha : 0 ≤ a ∧ a < 4294967296) :
  Calls Try.prog 120 #[(.int .u32 a)] w (Ret w (fun _ : Unit => True) (fun _ => (.int .i64 (Bt.cls a))) (fun _ => [])) := by
 refine enter (M := None) (L := []) (n := 23) (l := [(0, (.int .u32 a))]) Try.func120 rfl rfl (Args.cons rfl (Args.nil _)) (Hp.start _ _) ?_
 refine GC.seq (GC.region ?_)
 refine GL.sg rfl (by decide) ?_
 refine GL.nil (GE.thenN (GC.seq (GC.region ?_)))
 refine GL.mv rfl (by decide) ?_
 refine GL.step (Stp.callR (vs := [(.int .u32 a)]) rfl rfl T.own122 (by decide) (fun wc hw => split a wc (by first | assumption | omega | exact Bt.lst_bd (by assumption) (by assumption) | exact Bt.gst_bd (by assumption) (by assumption) | exact Bt.key_bd (by assumption) | exact Bt.unkey_bd (by assumption) | exact Bt.nxt_bd (by assumption) | exact Bt.lst_bd (Bt.gst_bd (by assumption) (by assumption)) (by assumption) | exact Bt.btw_bd (by assumption) (Bt.lst_bd (by assumption) (by assumption)) (Bt.gst_bd (by assumption) (by assumption))))) (fun xq1 hq2 => ?_)
 refine GL.step (Stp.alloc T.zr148 (by decide)) (fun bq3 _ => ?_)
 refine GL.step (Stp.st0 (cs' := [(.bool (decide (2147483648 ≤ a))), (.int .i64 (a / 8388608 % 256)), (.int .i64 (a % 8388608))]) rfl rfl rfl T.sz148 rfl rfl rfl) (fun _ _ => ?_)
 refine GL.nil (GE.thenN (GC.seq (GC.region ?_)))
 refine GL.val (v := (.pointer (some ⟨bq3, 0, none⟩))) (Ex.cast (Ex.fieldAddr rfl Try.underlying148 rfl T.sz4 (by decide)) rfl) (by decide) ?_
 refine GL.step (Stp.st0 (cs' := [(.bool false), (.int .i64 (a / 8388608 % 256)), (.int .i64 (a % 8388608))]) rfl rfl rfl T.sz4 rfl rfl rfl) (fun _ _ => ?_)
 refine GL.nil (GE.thenN (GC.seq (GC.block (GC.seq (GC.region ?_)))))
 refine GL.val (v := (.agg #[(.bool false), (.int .i64 (a / 8388608 % 256)), (.int .i64 (a % 8388608))])) (Ex.loadA rfl T.ag148 T.sz148 (i := 0) rfl (vs := [(.bool false), (.int .i64 (a / 8388608 % 256)), (.int .i64 (a % 8388608))]) rfl rfl) (by decide) ?_
 refine GL.val (v := (.agg #[(.bool false), (.int .i64 0), (.int .i64 0)])) (Ex.build (vs := []) rfl (by first | rfl | kernel_rfl)) (by decide) ?_
 refine GL.val (v := (.bool (decide ((a / 8388608 % 256) = 0 ∧ (a % 8388608) = 0)))) (Ex.eqS rfl rfl T.sfs148 (EqFs.cons rfl rfl (EqC.bool Try.underlying4) (EqFs.cons rfl rfl (EqC.int Try.underlying3) (EqFs.cons rfl rfl (EqC.int Try.underlying3) EqFs.nil))) (by simp [Bool.decide_and])) (by decide) ?_
 refine GL.sg rfl (by decide) ?_
 refine GL.nil (GE.thenN ?_)
 refine GC.cond rfl (fun hq4 => ?_) (fun hq4 => ?_)
 ·replace hq4 := of_decide_eq_true hq4
  refine GC.seq (GC.region ?_)
  refine GL.sg rfl (by decide) ?_
  refine GL.nil (GE.thenN (GC.ret (GE.blockR (GE.thenR ?_))))
  refine GC.ret1 rfl (Rv.tmp rfl) (fun wN HN => ?_)
  exact HN.ret () trivial (by rw [show Bt.cls a = 5 from by first | (exfalso; omega) | (unfold Bt.cls; (repeat (first | rw [if_pos (by omega)] | rw [if_neg (by omega)])); try omega)]) (List.nil_sublist _) rfl
 ·replace hq4 := of_decide_eq_false hq4
  refine GC.seq (GC.region ?_)
  refine GL.val (v := (.agg #[(.bool false), (.int .i64 (a / 8388608 % 256)), (.int .i64 (a % 8388608))])) (Ex.loadA rfl T.ag148 T.sz148 (i := 0) rfl (vs := [(.bool false), (.int .i64 (a / 8388608 % 256)), (.int .i64 (a % 8388608))]) rfl rfl) (by decide) ?_
  refine GL.val (v := (.agg #[(.bool false), (.int .i64 255), (.int .i64 0)])) (Ex.build (vs := [(1, (.int .i64 255))]) rfl (by first | rfl | kernel_rfl)) (by decide) ?_
  refine GL.val (v := (.bool (decide ((a / 8388608 % 256) = 255 ∧ (a % 8388608) = 0)))) (Ex.eqS rfl rfl T.sfs148 (EqFs.cons rfl rfl (EqC.bool Try.underlying4) (EqFs.cons rfl rfl (EqC.int Try.underlying3) (EqFs.cons rfl rfl (EqC.int Try.underlying3) EqFs.nil))) (by simp [Bool.decide_and])) (by decide) ?_
  refine GL.sg rfl (by decide) ?_
  refine GL.nil (GE.thenN ?_)
  refine GC.cond rfl (fun hq5 => ?_) (fun hq5 => ?_)
  ·replace hq5 := of_decide_eq_true hq5
   refine GC.seq (GC.region ?_)
   refine GL.sg rfl (by decide) ?_
   refine GL.nil (GE.thenN (GC.ret (GE.blockR (GE.thenR ?_))))
   refine GC.ret1 rfl (Rv.tmp rfl) (fun wN HN => ?_)
   exact HN.ret () trivial (by rw [show Bt.cls a = 2 from by first | (exfalso; omega) | (unfold Bt.cls; (repeat (first | rw [if_pos (by omega)] | rw [if_neg (by omega)])); try omega)]) (List.nil_sublist _) rfl
  ·replace hq5 := of_decide_eq_false hq5
   refine GC.seq (GC.region ?_)
   refine GL.val (v := (.pointer (some ⟨bq3, 1, none⟩))) (Ex.cast (Ex.fieldAddr rfl Try.underlying148 rfl T.sz3 (by decide)) rfl) (by decide) ?_
   refine GL.val (Ex.load rfl T.ag3 (i := 0) rfl rfl) (by decide) ?_
   refine GL.val (v := (.bool (decide ((a / 8388608 % 256) = 255)))) (Ex.eql rfl rfl) (by decide) ?_
   refine GL.sg rfl (by decide) ?_
   refine GL.nil (GE.thenN ?_)
   refine GC.cond rfl (fun hq6 => ?_) (fun hq6 => ?_)
   ·replace hq6 := of_decide_eq_true hq6
    refine GC.seq (GC.region ?_)
    refine GL.sg rfl (by decide) ?_
    refine GL.nil (GE.thenN (GC.ret (GE.blockR (GE.thenR ?_))))
    refine GC.ret1 rfl (Rv.tmp rfl) (fun wN HN => ?_)
    exact HN.ret () trivial (by rw [show Bt.cls a = 1 from by first | (exfalso; omega) | (unfold Bt.cls; (repeat (first | rw [if_pos (by omega)] | rw [if_neg (by omega)])); try omega)]) (List.nil_sublist _) rfl
   ·replace hq6 := of_decide_eq_false hq6
    refine GC.seq (GC.region ?_)
    refine GL.val (v := (.pointer (some ⟨bq3, 1, none⟩))) (Ex.cast (Ex.fieldAddr rfl Try.underlying148 rfl T.sz3 (by decide)) rfl) (by decide) ?_
    refine GL.val (Ex.load rfl T.ag3 (i := 0) rfl rfl) (by decide) ?_
    refine GL.val (v := (.bool (decide ((a / 8388608 % 256) = 0)))) (Ex.eql rfl rfl) (by decide) ?_
    refine GL.sg rfl (by decide) ?_
    refine GL.nil (GE.thenN ?_)
    refine GC.cond rfl (fun hq7 => ?_) (fun hq7 => ?_)
    ·replace hq7 := of_decide_eq_true hq7
     refine GC.seq (GC.region ?_)
     refine GL.sg rfl (by decide) ?_
     refine GL.nil (GE.thenN (GC.ret (GE.blockR (GE.thenR ?_))))
     refine GC.ret1 rfl (Rv.tmp rfl) (fun wN HN => ?_)
     exact HN.ret () trivial (by rw [show Bt.cls a = 4 from by first | (exfalso; omega) | (unfold Bt.cls; (repeat (first | rw [if_pos (by omega)] | rw [if_neg (by omega)])); try omega)]) (List.nil_sublist _) rfl
    ·replace hq7 := of_decide_eq_false hq7
     refine GC.skip (GE.blockN (GE.thenN (GC.seq (GC.region ?_))))
     refine GL.sg rfl (by decide) ?_
     refine GL.nil (GE.thenN (GC.ret ?_))
     refine GC.ret1 rfl (Rv.tmp rfl) (fun wN HN => ?_)
     exact HN.ret () trivial (by rw [show Bt.cls a = 3 from by first | (exfalso; omega) | (unfold Bt.cls; (repeat (first | rw [if_pos (by omega)] | rw [if_neg (by omega)])); try omega)]) (List.nil_sublist _) rfl

theorem nan_p (a : Int) (w : World) (ha : 0 ≤ a ∧ a < 4294967296) :
  Calls Try.prog 108 #[(.int .u32 a)] w (Ret w (fun _ : Unit => True) (fun _ => (.bool (decide (Bt.cls a = 1)))) (fun _ => [])) := by
 refine enter (M := None) (L := []) (n := 6) (l := [(0, (.int .u32 a))]) Try.func108 rfl rfl (Args.cons rfl (Args.nil _)) (Hp.start _ _) ?_
 refine GC.seq (GC.region ?_)
 refine GL.sg rfl (by decide) ?_
 refine GL.nil (GE.thenN (GC.seq (GC.region ?_)))
 refine GL.mv rfl (by decide) ?_
 refine GL.step (Stp.callR (vs := [(.int .u32 a)]) rfl rfl T.own120 (by decide) (fun wc hw => cls_p a wc (by first | assumption | omega | exact Bt.lst_bd (by assumption) (by assumption) | exact Bt.gst_bd (by assumption) (by assumption) | exact Bt.key_bd (by assumption) | exact Bt.unkey_bd (by assumption) | exact Bt.nxt_bd (by assumption) | exact Bt.lst_bd (Bt.gst_bd (by assumption) (by assumption)) (by assumption) | exact Bt.btw_bd (by assumption) (Bt.lst_bd (by assumption) (by assumption)) (Bt.gst_bd (by assumption) (by assumption))))) (fun xq1 hq2 => ?_)
 refine GL.val (v := (.bool (decide ((Bt.cls a) = 1)))) (Ex.eql rfl rfl) (by decide) ?_
 refine GL.sg rfl (by decide) ?_
 refine GL.nil (GE.thenN (GC.ret ?_))
 refine GC.ret1 rfl (Rv.tmp rfl) (fun wN HN => ?_)
 exact HN.ret () trivial rfl (List.nil_sublist _) rfl

theorem made_p (a : Int) (w : World) (ha : 0 ≤ a ∧ a < 4294967296) :
  Calls Try.prog 82 #[(.int .u32 a)] w (Ret w (fun _ : Unit => True) (fun _ => (.int .u32 (Bt.mde a))) (fun _ => [])) := by
 refine enter (M := None) (L := []) (n := 6) (l := [(0, (.int .u32 a))]) Try.func82 rfl rfl (Args.cons rfl (Args.nil _)) (Hp.start _ _) ?_
 refine GC.seq (GC.region ?_)
 refine GL.sg rfl (by decide) ?_
 refine GL.nil (GE.thenN (GC.seq (GC.seq (GC.region ?_))))
 refine GL.mv rfl (by decide) ?_
 refine GL.step (Stp.callR (vs := [(.int .u32 a)]) rfl rfl T.own108 (by decide) (fun wc hw => nan_p a wc (by first | assumption | omega | exact Bt.lst_bd (by assumption) (by assumption) | exact Bt.gst_bd (by assumption) (by assumption) | exact Bt.key_bd (by assumption) | exact Bt.unkey_bd (by assumption) | exact Bt.nxt_bd (by assumption) | exact Bt.lst_bd (Bt.gst_bd (by assumption) (by assumption)) (by assumption) | exact Bt.btw_bd (by assumption) (Bt.lst_bd (by assumption) (by assumption)) (Bt.gst_bd (by assumption) (by assumption))))) (fun xq1 hq2 => ?_)
 refine GL.nil (GE.thenN ?_)
 refine GC.cond rfl (fun hq3 => ?_) (fun hq3 => ?_)
 ·replace hq3 := of_decide_eq_true hq3
  refine GC.seq (GC.region ?_)
  refine GL.sg rfl (by decide) ?_
  refine GL.nil (GE.thenN (GC.ret (GE.thenR ?_)))
  refine GC.ret1 rfl (Rv.tmp rfl) (fun wN HN => ?_)
  exact HN.ret () trivial (by rw [show Bt.mde a = 2143289344 from by first | (exfalso; omega) | (unfold Bt.mde; (repeat (first | rw [if_pos (by omega)] | rw [if_neg (by omega)])); try omega)]) (List.nil_sublist _) rfl
 ·replace hq3 := of_decide_eq_false hq3
  refine GC.skip (GE.thenN (GC.seq (GC.region ?_)))
  refine GL.mv rfl (by decide) ?_
  refine GL.sg rfl (by decide) ?_
  refine GL.nil (GE.thenN (GC.ret ?_))
  refine GC.ret1 rfl (Rv.tmp rfl) (fun wN HN => ?_)
  exact HN.ret () trivial (by rw [show Bt.mde a = a from by first | (exfalso; omega) | (unfold Bt.mde; (repeat (first | rw [if_pos (by omega)] | rw [if_neg (by omega)])); try omega)]) (List.nil_sublist _) rfl

theorem key_p (a : Int) (w : World) (ha : 0 ≤ a ∧ a < 4294967296) :
  Calls Try.prog 116 #[(.int .u32 a)] w (Ret w (fun _ : Unit => True) (fun _ => (.int .u32 (Bt.key a))) (fun _ => [])) := by
 refine enter (M := None) (L := []) (n := 9) (l := [(0, (.int .u32 a))]) Try.func116 rfl rfl (Args.cons rfl (Args.nil _)) (Hp.start _ _) ?_
 refine GC.seq (GC.region ?_)
 refine GL.sg rfl (by decide) ?_
 refine GL.nil (GE.thenN (GC.seq (GC.seq (GC.region ?_))))
 refine GL.mv rfl (by decide) ?_
 refine GL.val (v := (.bool (decide (a < 2147483648)))) (Ex.lss rfl rfl) (by decide) ?_
 refine GL.nil (GE.thenN ?_)
 refine GC.cond rfl (fun hq1 => ?_) (fun hq1 => ?_)
 ·replace hq1 := of_decide_eq_true hq1
  refine GC.seq (GC.region ?_)
  refine GL.mv rfl (by decide) ?_
  refine GL.val (v := (.int .u32 (a + 2147483648))) (Ex.add rfl rfl (Z := a + 2147483648) (wu32b (by omega))) (by decide) ?_
  refine GL.sg rfl (by decide) ?_
  refine GL.nil (GE.thenN (GC.ret (GE.thenR ?_)))
  refine GC.ret1 rfl (Rv.tmp rfl) (fun wN HN => ?_)
  exact HN.ret () trivial (by rw [show Bt.key a = a + 2147483648 from by first | (exfalso; omega) | (unfold Bt.key; (repeat (first | rw [if_pos (by omega)] | rw [if_neg (by omega)])); try omega)]) (List.nil_sublist _) rfl
 ·replace hq1 := of_decide_eq_false hq1
  refine GC.skip (GE.thenN (GC.seq (GC.region ?_)))
  refine GL.mv rfl (by decide) ?_
  refine GL.val (v := (.int .u32 (4294967295 - a))) (Ex.sub' rfl rfl (Z := 4294967295 - a) (wu32b (by omega))) (by decide) ?_
  refine GL.sg rfl (by decide) ?_
  refine GL.nil (GE.thenN (GC.ret ?_))
  refine GC.ret1 rfl (Rv.tmp rfl) (fun wN HN => ?_)
  exact HN.ret () trivial (by rw [show Bt.key a = 4294967295 - a from by first | (exfalso; omega) | (unfold Bt.key; (repeat (first | rw [if_pos (by omega)] | rw [if_neg (by omega)])); try omega)]) (List.nil_sublist _) rfl

theorem before_p (a b : Int) (w : World) (ha : 0 ≤ a ∧ a < 4294967296) (hb : 0 ≤ b ∧ b < 4294967296) :
  Calls Try.prog 110 #[(.int .u32 a), (.int .u32 b)] w (Ret w (fun _ : Unit => True) (fun _ => (.bool (decide (Bt.key a < Bt.key b)))) (fun _ => [])) := by
 refine enter (M := None) (L := []) (n := 10) (l := [(0, (.int .u32 a)), (1, (.int .u32 b))]) Try.func110 rfl rfl (Args.cons rfl (Args.cons rfl (Args.nil _))) (Hp.start _ _) ?_
 refine GC.seq ?_
 have hka := Bt.key_bd ha
 have hkb := Bt.key_bd hb
 refine GC.region ?_
 refine GL.sg rfl (by decide) ?_
 refine GL.nil (GE.thenN (GC.seq (GC.region ?_)))
 refine GL.mv rfl (by decide) ?_
 refine GL.step (Stp.callR (vs := [(.int .u32 a)]) rfl rfl T.own116 (by decide) (fun wc hw => key_p a wc (by first | assumption | omega | exact Bt.lst_bd (by assumption) (by assumption) | exact Bt.gst_bd (by assumption) (by assumption) | exact Bt.key_bd (by assumption) | exact Bt.unkey_bd (by assumption) | exact Bt.nxt_bd (by assumption) | exact Bt.lst_bd (Bt.gst_bd (by assumption) (by assumption)) (by assumption) | exact Bt.btw_bd (by assumption) (Bt.lst_bd (by assumption) (by assumption)) (Bt.gst_bd (by assumption) (by assumption))))) (fun xq1 hq2 => ?_)
 refine GL.mv rfl (by decide) ?_
 refine GL.step (Stp.callR (vs := [(.int .u32 b)]) rfl rfl T.own116 (by decide) (fun wc hw => key_p b wc (by first | assumption | omega | exact Bt.lst_bd (by assumption) (by assumption) | exact Bt.gst_bd (by assumption) (by assumption) | exact Bt.key_bd (by assumption) | exact Bt.unkey_bd (by assumption) | exact Bt.nxt_bd (by assumption) | exact Bt.lst_bd (Bt.gst_bd (by assumption) (by assumption)) (by assumption) | exact Bt.btw_bd (by assumption) (Bt.lst_bd (by assumption) (by assumption)) (Bt.gst_bd (by assumption) (by assumption))))) (fun xq3 hq4 => ?_)
 refine GL.val (v := (.bool (decide ((Bt.key a) < (Bt.key b))))) (Ex.lss rfl rfl) (by decide) ?_
 refine GL.sg rfl (by decide) ?_
 refine GL.nil (GE.thenN (GC.ret ?_))
 refine GC.ret1 rfl (Rv.tmp rfl) (fun wN HN => ?_)
 exact HN.ret () trivial (congrArg Value.bool (decide_eq_decide.2 (by omega))) (List.nil_sublist _) rfl

theorem least_p (a b : Int) (w : World) (ha : 0 ≤ a ∧ a < 4294967296) (hb : 0 ≤ b ∧ b < 4294967296) :
  Calls Try.prog 87 #[(.int .u32 a), (.int .u32 b)] w (Ret w (fun _ : Unit => True) (fun _ => (.int .u32 (Bt.lst a b))) (fun _ => [])) := by
 refine enter (M := None) (L := []) (n := 10) (l := [(0, (.int .u32 a)), (1, (.int .u32 b))]) Try.func87 rfl rfl (Args.cons rfl (Args.cons rfl (Args.nil _))) (Hp.start _ _) ?_
 refine GC.seq (GC.region ?_)
 refine GL.sg rfl (by decide) ?_
 refine GL.nil (GE.thenN (GC.seq (GC.seq (GC.region ?_))))
 refine GL.mv rfl (by decide) ?_
 refine GL.mv rfl (by decide) ?_
 refine GL.step (Stp.callR (vs := [(.int .u32 b), (.int .u32 a)]) rfl rfl T.own110 (by decide) (fun wc hw => before_p b a wc (by first | assumption | omega | exact Bt.lst_bd (by assumption) (by assumption) | exact Bt.gst_bd (by assumption) (by assumption) | exact Bt.key_bd (by assumption) | exact Bt.unkey_bd (by assumption) | exact Bt.nxt_bd (by assumption) | exact Bt.lst_bd (Bt.gst_bd (by assumption) (by assumption)) (by assumption) | exact Bt.btw_bd (by assumption) (Bt.lst_bd (by assumption) (by assumption)) (Bt.gst_bd (by assumption) (by assumption))) (by first | assumption | omega | exact Bt.lst_bd (by assumption) (by assumption) | exact Bt.gst_bd (by assumption) (by assumption) | exact Bt.key_bd (by assumption) | exact Bt.unkey_bd (by assumption) | exact Bt.nxt_bd (by assumption) | exact Bt.lst_bd (Bt.gst_bd (by assumption) (by assumption)) (by assumption) | exact Bt.btw_bd (by assumption) (Bt.lst_bd (by assumption) (by assumption)) (Bt.gst_bd (by assumption) (by assumption))))) (fun xq1 hq2 => ?_)
 refine GL.nil (GE.thenN ?_)
 refine GC.cond rfl (fun hq3 => ?_) (fun hq3 => ?_)
 ·replace hq3 := of_decide_eq_true hq3
  refine GC.seq (GC.region ?_)
  refine GL.mv rfl (by decide) ?_
  refine GL.sg rfl (by decide) ?_
  refine GL.nil (GE.thenN (GC.ret (GE.thenR ?_)))
  refine GC.ret1 rfl (Rv.tmp rfl) (fun wN HN => ?_)
  exact HN.ret () trivial (by rw [show Bt.lst a b = b from by first | (exfalso; omega) | (unfold Bt.lst; (repeat (first | rw [if_pos (by omega)] | rw [if_neg (by omega)])))]) (List.nil_sublist _) rfl
 ·replace hq3 := of_decide_eq_false hq3
  refine GC.skip (GE.thenN (GC.seq (GC.region ?_)))
  refine GL.mv rfl (by decide) ?_
  refine GL.sg rfl (by decide) ?_
  refine GL.nil (GE.thenN (GC.ret ?_))
  refine GC.ret1 rfl (Rv.tmp rfl) (fun wN HN => ?_)
  exact HN.ret () trivial (by rw [show Bt.lst a b = a from by first | (exfalso; omega) | (unfold Bt.lst; (repeat (first | rw [if_pos (by omega)] | rw [if_neg (by omega)])))]) (List.nil_sublist _) rfl

theorem greatest_p (a b : Int) (w : World) (ha : 0 ≤ a ∧ a < 4294967296) (hb : 0 ≤ b ∧ b < 4294967296) :
  Calls Try.prog 88 #[(.int .u32 a), (.int .u32 b)] w (Ret w (fun _ : Unit => True) (fun _ => (.int .u32 (Bt.gst a b))) (fun _ => [])) := by
 refine enter (M := None) (L := []) (n := 10) (l := [(0, (.int .u32 a)), (1, (.int .u32 b))]) Try.func88 rfl rfl (Args.cons rfl (Args.cons rfl (Args.nil _))) (Hp.start _ _) ?_
 refine GC.seq (GC.region ?_)
 refine GL.sg rfl (by decide) ?_
 refine GL.nil (GE.thenN (GC.seq (GC.seq (GC.region ?_))))
 refine GL.mv rfl (by decide) ?_
 refine GL.mv rfl (by decide) ?_
 refine GL.step (Stp.callR (vs := [(.int .u32 a), (.int .u32 b)]) rfl rfl T.own110 (by decide) (fun wc hw => before_p a b wc (by first | assumption | omega | exact Bt.lst_bd (by assumption) (by assumption) | exact Bt.gst_bd (by assumption) (by assumption) | exact Bt.key_bd (by assumption) | exact Bt.unkey_bd (by assumption) | exact Bt.nxt_bd (by assumption) | exact Bt.lst_bd (Bt.gst_bd (by assumption) (by assumption)) (by assumption) | exact Bt.btw_bd (by assumption) (Bt.lst_bd (by assumption) (by assumption)) (Bt.gst_bd (by assumption) (by assumption))) (by first | assumption | omega | exact Bt.lst_bd (by assumption) (by assumption) | exact Bt.gst_bd (by assumption) (by assumption) | exact Bt.key_bd (by assumption) | exact Bt.unkey_bd (by assumption) | exact Bt.nxt_bd (by assumption) | exact Bt.lst_bd (Bt.gst_bd (by assumption) (by assumption)) (by assumption) | exact Bt.btw_bd (by assumption) (Bt.lst_bd (by assumption) (by assumption)) (Bt.gst_bd (by assumption) (by assumption))))) (fun xq1 hq2 => ?_)
 refine GL.nil (GE.thenN ?_)
 refine GC.cond rfl (fun hq3 => ?_) (fun hq3 => ?_)
 ·replace hq3 := of_decide_eq_true hq3
  refine GC.seq (GC.region ?_)
  refine GL.mv rfl (by decide) ?_
  refine GL.sg rfl (by decide) ?_
  refine GL.nil (GE.thenN (GC.ret (GE.thenR ?_)))
  refine GC.ret1 rfl (Rv.tmp rfl) (fun wN HN => ?_)
  exact HN.ret () trivial (by rw [show Bt.gst a b = b from by first | (exfalso; omega) | (unfold Bt.gst; (repeat (first | rw [if_pos (by omega)] | rw [if_neg (by omega)])))]) (List.nil_sublist _) rfl
 ·replace hq3 := of_decide_eq_false hq3
  refine GC.skip (GE.thenN (GC.seq (GC.region ?_)))
  refine GL.mv rfl (by decide) ?_
  refine GL.sg rfl (by decide) ?_
  refine GL.nil (GE.thenN (GC.ret ?_))
  refine GC.ret1 rfl (Rv.tmp rfl) (fun wN HN => ?_)
  exact HN.ret () trivial (by rw [show Bt.gst a b = a from by first | (exfalso; omega) | (unfold Bt.gst; (repeat (first | rw [if_pos (by omega)] | rw [if_neg (by omega)])))]) (List.nil_sublist _) rfl

theorem btw_p (a b c : Int) (w : World) (ha : 0 ≤ a ∧ a < 4294967296) (hb : 0 ≤ b ∧ b < 4294967296) (hc : 0 ≤ c ∧ c < 4294967296) :
  Calls Try.prog 90 #[(.int .u32 a), (.int .u32 b), (.int .u32 c)] w (Ret w (fun _ : Unit => True) (fun _ => (.int .u32 (Bt.btw a b c))) (fun _ => [])) := by
 refine enter (M := None) (L := []) (n := 12) (l := [(0, (.int .u32 a)), (1, (.int .u32 b)), (2, (.int .u32 c))]) Try.func90 rfl rfl (Args.cons rfl (Args.cons rfl (Args.cons rfl (Args.nil _)))) (Hp.start _ _) ?_
 refine GC.seq ?_
 have hl0 : 0 ≤ Bt.gst a b ∧ Bt.gst a b < 4294967296 := by rcases Bt.gst_in a b with h | h <;> rw [h] <;> assumption
 refine GC.region ?_
 refine GL.sg rfl (by decide) ?_
 refine GL.nil (GE.thenN (GC.seq (GC.region ?_)))
 refine GL.mv rfl (by decide) ?_
 refine GL.mv rfl (by decide) ?_
 refine GL.step (Stp.callR (vs := [(.int .u32 a), (.int .u32 b)]) rfl rfl T.own88 (by decide) (fun wc hw => greatest_p a b wc (by first | assumption | omega | exact Bt.lst_bd (by assumption) (by assumption) | exact Bt.gst_bd (by assumption) (by assumption) | exact Bt.key_bd (by assumption) | exact Bt.unkey_bd (by assumption) | exact Bt.nxt_bd (by assumption) | exact Bt.lst_bd (Bt.gst_bd (by assumption) (by assumption)) (by assumption) | exact Bt.btw_bd (by assumption) (Bt.lst_bd (by assumption) (by assumption)) (Bt.gst_bd (by assumption) (by assumption))) (by first | assumption | omega | exact Bt.lst_bd (by assumption) (by assumption) | exact Bt.gst_bd (by assumption) (by assumption) | exact Bt.key_bd (by assumption) | exact Bt.unkey_bd (by assumption) | exact Bt.nxt_bd (by assumption) | exact Bt.lst_bd (Bt.gst_bd (by assumption) (by assumption)) (by assumption) | exact Bt.btw_bd (by assumption) (Bt.lst_bd (by assumption) (by assumption)) (Bt.gst_bd (by assumption) (by assumption))))) (fun xq1 hq2 => ?_)
 refine GL.mv rfl (by decide) ?_
 refine GL.step (Stp.callR (vs := [(.int .u32 (Bt.gst a b)), (.int .u32 c)]) rfl rfl T.own87 (by decide) (fun wc hw => least_p (Bt.gst a b) c wc (by first | assumption | omega | exact Bt.lst_bd (by assumption) (by assumption) | exact Bt.gst_bd (by assumption) (by assumption) | exact Bt.key_bd (by assumption) | exact Bt.unkey_bd (by assumption) | exact Bt.nxt_bd (by assumption) | exact Bt.lst_bd (Bt.gst_bd (by assumption) (by assumption)) (by assumption) | exact Bt.btw_bd (by assumption) (Bt.lst_bd (by assumption) (by assumption)) (Bt.gst_bd (by assumption) (by assumption))) (by first | assumption | omega | exact Bt.lst_bd (by assumption) (by assumption) | exact Bt.gst_bd (by assumption) (by assumption) | exact Bt.key_bd (by assumption) | exact Bt.unkey_bd (by assumption) | exact Bt.nxt_bd (by assumption) | exact Bt.lst_bd (Bt.gst_bd (by assumption) (by assumption)) (by assumption) | exact Bt.btw_bd (by assumption) (Bt.lst_bd (by assumption) (by assumption)) (Bt.gst_bd (by assumption) (by assumption))))) (fun xq3 hq4 => ?_)
 refine GL.sg rfl (by decide) ?_
 refine GL.nil (GE.thenN (GC.ret ?_))
 refine GC.ret1 rfl (Rv.tmp rfl) (fun wN HN => ?_)
 exact HN.ret () trivial rfl (List.nil_sublist _) rfl

theorem val32 (a : Int) (w : World) :
  Calls Try.prog 109 #[(.int .u32 a)] w (Ret w (fun _ : Unit => True) (fun _ => (.float .f32 a.toNat)) (fun _ => [])) := by
 refine enter (M := None) (L := []) (n := 5) (l := [(0, (.int .u32 a))]) Try.func109 rfl rfl (Args.cons rfl (Args.nil _)) (Hp.start _ _) ?_
 refine GC.seq (GC.region ?_)
 refine GL.sg rfl (by decide) ?_
 refine GL.nil (GE.thenN (GC.seq (GC.region ?_)))
 refine GL.mv rfl (by decide) ?_
 refine GL.val (v := (.float .f32 a.toNat)) (Ex.ext (vs := [(.int .u32 a)]) rfl rfl T.ext54 (fun _ => rfl)) (by decide) ?_
 refine GL.sg rfl (by decide) ?_
 refine GL.nil (GE.thenN (GC.ret ?_))
 refine GC.ret1 rfl (Rv.tmp rfl) (fun wN HN => ?_)
 exact HN.ret () trivial rfl (List.nil_sublist _) rfl

theorem wide_w (a : Int) (w : World) :
  Calls Try.prog 103 #[(.int .u32 a)] w (Ret w (fun z : Nat => Fv.Is .f64 z (Fv.V a)) (fun z => .float .f64 z) (fun _ => [])) := by
 refine enter (M := None) (L := []) (n := 6) (l := [(0, (.int .u32 a))]) Try.func103 rfl rfl (Args.cons rfl (Args.nil _)) (Hp.start _ _) ?_
 refine GC.seq (GC.region ?_)
 refine GL.sg rfl (by decide) ?_
 refine GL.nil (GE.thenN (GC.seq (GC.region ?_)))
 refine GL.mv rfl (by decide) ?_
 refine GL.step (Stp.callR (vs := [(.int .u32 a)]) rfl rfl T.own109 (by decide) (fun wc hw => val32 a wc)) (fun xq1 hq2 => ?_)
 refine GL.step (Stp.fcv (fx := (Fv.rd .f32 a.toNat)) (by decide) rfl Try.underlying99 Try.underlying44 (Fv.Is.rd _ _) Fv.holds_up (by decide)) (fun xq3 hq4 => ?_)
 refine GL.sg rfl (by decide) ?_
 refine GL.nil (GE.thenN (GC.ret ?_))
 refine GC.ret1 rfl (Rv.tmp rfl) (fun wN HN => ?_)
 exact HN.ret xq3 hq4.1 rfl (List.nil_sublist _) rfl

theorem wide_f (a : Int) (e r : Nat) (w : World) (hV : Fv.V a = some (Ld.wd e r)) : Calls Try.prog 103 #[.int .u32 a] w (Ret w (fun _ : Unit => True) (fun _ => .float .f64 (Ld.wd e r)) (fun _ => [])) := by
 refine (wide_w a w).mono fun e' w' ⟨z, he, hz, hn⟩ => ?_
 rw [hV] at hz
 obtain ⟨rfl, _⟩ := hz
 exact ⟨(), he, trivial, hn⟩

theorem value_m (a : Int) (w : World) :
  Calls Try.prog 48 #[(.int .u32 a)] w (Ret w (fun z : Nat => Fv.Is .f64 z (Fv.V a)) (fun z => .float .f64 z) (fun _ => [])) := by
 refine enter (M := None) (L := []) (n := 6) (l := [(0, (.int .u32 a))]) Try.func48 rfl rfl (Args.cons rfl (Args.nil _)) (Hp.start _ _) ?_
 refine GC.seq (GC.region ?_)
 refine GL.sg rfl (by decide) ?_
 refine GL.nil (GE.thenN (GC.seq (GC.region ?_)))
 refine GL.mv rfl (by decide) ?_
 refine GL.val (v := (.float .f32 a.toNat)) (Ex.ext (vs := [(.int .u32 a)]) rfl rfl T.ext54 (fun _ => rfl)) (by decide) ?_
 refine GL.step (Stp.fcv (fx := (Fv.rd .f32 a.toNat)) (by decide) rfl Try.underlying99 Try.underlying44 (Fv.Is.rd _ _) Fv.holds_up (by decide)) (fun xq1 hq2 => ?_)
 refine GL.sg rfl (by decide) ?_
 refine GL.nil (GE.thenN (GC.ret ?_))
 refine GC.ret1 rfl (Rv.tmp rfl) (fun wN HN => ?_)
 exact HN.ret xq1 hq2.1 rfl (List.nil_sublist _) rfl

theorem value_l (a : Int) (w : World) :
  Calls Try.prog 16 #[(.int .u32 a)] w (Ret w (fun z : Nat => Fv.Is .f64 z (Fv.V a)) (fun z => .float .f64 z) (fun _ => [])) := by
 refine enter (M := None) (L := []) (n := 6) (l := [(0, (.int .u32 a))]) Try.func16 rfl rfl (Args.cons rfl (Args.nil _)) (Hp.start _ _) ?_
 refine GC.seq (GC.region ?_)
 refine GL.sg rfl (by decide) ?_
 refine GL.nil (GE.thenN (GC.seq (GC.region ?_)))
 refine GL.mv rfl (by decide) ?_
 refine GL.val (v := (.float .f32 a.toNat)) (Ex.ext (vs := [(.int .u32 a)]) rfl rfl T.ext54 (fun _ => rfl)) (by decide) ?_
 refine GL.step (Stp.fcv (fx := (Fv.rd .f32 a.toNat)) (by decide) rfl Try.underlying99 Try.underlying44 (Fv.Is.rd _ _) Fv.holds_up (by decide)) (fun xq1 hq2 => ?_)
 refine GL.sg rfl (by decide) ?_
 refine GL.nil (GE.thenN (GC.ret ?_))
 refine GC.ret1 rfl (Rv.tmp rfl) (fun wN HN => ?_)
 exact HN.ret xq1 hq2.1 rfl (List.nil_sublist _) rfl

theorem told_a (z : Nat) (fx : Option Nat) (w : World) (hz : Fv.Is .f32 z fx) :
  Calls Try.prog 105 #[(.float .f32 z)] w (Ret w (fun _ : Unit => True) (fun _ => .int .u32 (Fv.T32 fx)) (fun _ => [])) := by
 refine enter (M := None) (L := []) (n := 8) (l := [(0, (.float .f32 z))]) Try.func105 rfl rfl (Args.cons rfl (Args.nil _)) (Hp.start _ _) ?_
 refine GC.seq (GC.region ?_)
 refine GL.sg rfl (by decide) ?_
 refine GL.nil (GE.thenN (GC.seq (GC.seq (GC.region ?_))))
 refine GL.mv rfl (by decide) ?_
 refine GL.mv rfl (by decide) ?_
 refine GL.val (v := (.bool fx.isNone)) (Ex.fneq (r := fx.isNone) rfl rfl (Eq.trans (congrArg (fun o : Option Ordering => (o != some .eq)) (Fv.ord_eq hz hz)) (Fv.neq_self hz))) (by decide) ?_
 refine GL.nil (GE.thenN ?_)
 refine GC.cond rfl (fun hq1 => ?_) (fun hq1 => ?_)
 ·refine GC.seq (GC.region ?_)
  refine GL.sg rfl (by decide) ?_
  refine GL.nil (GE.thenN (GC.ret (GE.thenR ?_)))
  refine GC.ret1 rfl (Rv.tmp rfl) (fun wN HN => ?_)
  exact HN.ret () trivial (by rw [Fv.T32_none hq1]) (List.nil_sublist _) rfl
 ·refine GC.skip (GE.thenN (GC.seq (GC.region ?_)))
  refine GL.mv rfl (by decide) ?_
  refine GL.val (v := (.int .u32 (((z : Nat) : Int)))) (Ex.ext (vs := [(.float .f32 z)]) rfl rfl T.ext83 (fun _ => rfl)) (by decide) ?_
  refine GL.sg rfl (by decide) ?_
  refine GL.nil (GE.thenN (GC.ret ?_))
  refine GC.ret1 rfl (Rv.tmp rfl) (fun wN HN => ?_)
  exact HN.ret () trivial (by rw [Fv.T32_some hz hq1]) (List.nil_sublist _) rfl

theorem abs_p (e r : Nat) (w : World) (he : e < 2) (hr : r < 9218868437227405312) :
  Calls Try.prog 119 #[(.float .f64 ((Ld.wd e r)))] w (Ret w (fun _ : Unit => True) (fun _ => .float .f64 r) (fun _ => [])) := by
 have hX := Ld.wd_is he hr
 have hR := Ld.rung_is hr
 have hlt := Ld.wd_lt he hr
 refine enter (M := None) (L := []) (n := 7) (l := [(0, (.float .f64 ((Ld.wd e r))))]) Try.func119 rfl rfl (Args.cons rfl (Args.nil _)) (Hp.start _ _) ?_
 refine GC.seq (GC.region ?_)
 refine GL.sg rfl (by decide) ?_
 refine GL.nil (GE.thenN (GC.seq (GC.region ?_)))
 refine GL.mv rfl (by decide) ?_
 refine GL.val (v := (.int .u64 ((((Ld.wd e r) : Nat) : Int)))) (Ex.ext (vs := [(.float .f64 ((Ld.wd e r)))]) rfl rfl T.ext106 (fun _ => rfl)) (by decide) ?_
 refine GL.val (v := (.int .u64 (((r : Nat) : Int)))) (Ex.andn rfl rfl (Z := ((r : Nat) : Int)) (by have h := Ld.andn63 hlt; rw [Ld.wd_mod hr] at h; exact h)) (by decide) ?_
 refine GL.val (v := (.float .f64 ((((r : Nat) : Int)).toNat))) (Ex.ext (vs := [(.int .u64 (((r : Nat) : Int)))]) rfl rfl T.ext107 (fun _ => rfl)) (by decide) ?_
 refine GL.sg rfl (by decide) ?_
 refine GL.nil (GE.thenN (GC.ret ?_))
 refine GC.ret1 rfl (Rv.tmp rfl) (fun wN HN => ?_)
 exact HN.ret () trivial rfl (List.nil_sublist _) rfl

theorem isinf_p (e r : Nat) (w : World) (he : e < 2) (hr : r < 9218868437227405312) :
  Calls Try.prog 104 #[(.float .f64 ((Ld.wd e r))), (.int .i64 0)] w (Ret w (fun _ : Unit => True) (fun _ => .bool false) (fun _ => [])) := by
 have hX := Ld.wd_is he hr
 have hR := Ld.rung_is hr
 have hlt := Ld.wd_lt he hr
 refine enter (M := None) (L := []) (n := 15) (l := [(0, (.float .f64 ((Ld.wd e r)))), (1, (.int .i64 0))]) Try.func104 rfl rfl (Args.cons rfl (Args.cons rfl (Args.nil _))) (Hp.start _ _) ?_
 refine GC.seq (GC.region ?_)
 refine GL.sg rfl (by decide) ?_
 refine GL.nil (GE.thenN (GC.seq (GC.seq (GC.region ?_))))
 refine GL.mv rfl (by decide) ?_
 refine GL.val (v := (.bool true)) (Ex.cast (Ex.eql rfl rfl) rfl) (by decide) ?_
 refine GL.nil (GE.thenN ?_)
 refine GC.cond rfl (fun _ => ?_) (fun hq1 => by cases hq1)
 refine GC.region ?_
 refine GL.mv rfl (by decide) ?_
 refine GL.step (Stp.callR (vs := [(.float .f64 ((Ld.wd e r)))]) rfl rfl T.own119 (by decide) (fun wc hw => abs_p e r wc he hr)) (fun xq2 hq3 => ?_)
 refine GL.sg rfl (by decide) ?_
 refine GL.nil (GE.thenN (GC.seq (GC.region ?_)))
 refine GL.mv rfl (by decide) ?_
 refine GL.val (v := (.bool false)) (Ex.fgtr (r := false) rfl rfl (Eq.trans (congrArg (fun o : Option Ordering => (o == some .gt)) (Fv.ord_eq hR (show Fv.Is .f64 9218868437227405311 (some 9218868437227405311) from ⟨rfl, by decide +kernel⟩))) (Ld.not_gt (by omega) (by decide)))) (by decide) ?_
 refine GL.sg rfl (by decide) ?_
 refine GL.nil (GE.thenN (GC.ret ?_))
 refine GC.ret1 rfl (Rv.tmp rfl) (fun wN HN => ?_)
 exact HN.ret () trivial rfl (List.nil_sublist _) rfl

theorem q109_64 (w : World) :
  Calls Try.prog 109 #[(.int .u32 2147483648)] w (Ret w (fun _ : Unit => True) (fun rz => (.float .f32 2147483648)) (fun rz => [])) := by
 refine enter (M := None) (L := []) (n := 5) (l := [(0, (.int .u32 2147483648))]) Try.func109 rfl rfl (Args.cons rfl (Args.nil _)) (Hp.start _ _) ?_
 refine GC.seq (GC.region ?_)
 refine GL.sg rfl (by decide) ?_
 refine GL.nil (GE.thenN (GC.seq (GC.region ?_)))
 refine GL.mv rfl (by decide) ?_
 refine GL.val (v := (.float .f32 2147483648)) (Ex.ext (vs := [(.int .u32 2147483648)]) rfl rfl T.ext54 (fun _ => by first | rfl | kernel_rfl)) (by decide) ?_
 refine GL.sg rfl (by decide) ?_
 refine GL.nil (GE.thenN (GC.ret ?_))
 refine GC.ret1 rfl (Rv.tmp rfl) (fun wN HN => ?_)
 exact HN.ret () trivial rfl ulN rfl

theorem q103_63 (w : World) :
  Calls Try.prog 103 #[(.int .u32 2147483648)] w (Ret w (fun _ : Unit => True) (fun rz => (.float .f64 9223372036854775808)) (fun rz => [])) := by
 refine enter (M := None) (L := []) (n := 6) (l := [(0, (.int .u32 2147483648))]) Try.func103 rfl rfl (Args.cons rfl (Args.nil _)) (Hp.start _ _) ?_
 refine GC.seq (GC.region ?_)
 refine GL.sg rfl (by decide) ?_
 refine GL.nil (GE.thenN (GC.seq (GC.region ?_)))
 refine GL.mv rfl (by decide) ?_
 refine GL.step (Stp.callR (vs := [(.int .u32 2147483648)]) rfl rfl T.own109 (by decide) (fun wc hw => q109_64  wc )) (fun xq1 hq2 => ?_)
 refine GL.val (v := (.float .f64 9223372036854775808)) (Ex.cff (r := 9223372036854775808) rfl Try.underlying99 Try.underlying44 (by kernel_rfl)) (by decide) ?_
 refine GL.sg rfl (by decide) ?_
 refine GL.nil (GE.thenN (GC.ret ?_))
 refine GC.ret1 rfl (Rv.tmp rfl) (fun wN HN => ?_)
 exact HN.ret () trivial rfl ulN rfl

theorem fma_fin (a : Int) (e r : Nat) (w : World) (he : e < 2) (hr : r < 9218868437227405312) (hV : Fv.V a = some (Ld.wd e r)) (hT : Fv.T (some (Ld.wd e r)) = a) (hH : Fv.Holds .f64 .f32 (some (Ld.wd e r))) :
  Calls Try.prog 81 #[(.int .u32 a), (.int .u32 1065353216), (.int .u32 2147483648)] w (Ret w (fun _ : Unit => True) (fun _ => .int .u32 a) (fun _ => [])) := by
 refine enter (M := None) (L := []) (n := 68) (l := [(0, (.int .u32 a)), (1, (.int .u32 1065353216)), (2, (.int .u32 2147483648))]) Try.func81 rfl rfl (Args.cons rfl (Args.cons rfl (Args.cons rfl (Args.nil _)))) (Hp.start _ _) ?_
 refine GC.seq (GC.region ?_)
 refine GL.sg rfl (by decide) ?_
 refine GL.nil (GE.thenN (GC.seq (GC.region ?_)))
 refine GL.mv rfl (by decide) ?_
 refine GL.step (Stp.callR (vs := [(.int .u32 a)]) rfl rfl T.own103 (by decide) (fun wc hw => wide_f a e r wc hV)) (fun xq1 hq2 => ?_)
 refine GL.mv rfl (by decide) ?_
 refine GL.step (Stp.callR (vs := [(.int .u32 1065353216)]) rfl rfl T.own103 (by decide) (fun wc hw => q103_4  wc )) (fun xq3 hq4 => ?_)
 refine GL.val (v := (.float .f64 ((Ld.wd e r)))) (Ex.farith (r := (Ld.wd e r)) rfl rfl (Kp.fmul he hr)) (by decide) ?_
 refine GL.sg rfl (by decide) ?_
 refine GL.nil (GE.thenN (GC.seq (GC.region ?_)))
 refine GL.mv rfl (by decide) ?_
 refine GL.step (Stp.callR (vs := [(.int .u32 2147483648)]) rfl rfl T.own103 (by decide) (fun wc hw => q103_63  wc )) (fun xq5 hq6 => ?_)
 refine GL.sg rfl (by decide) ?_
 refine GL.nil (GE.thenN (GC.seq (GC.region ?_)))
 refine GL.mv rfl (by decide) ?_
 refine GL.mv rfl (by decide) ?_
 refine GL.val (v := (.float .f64 ((Ld.wd e r)))) (Ex.farith (r := (Ld.wd e r)) rfl rfl (Kp.fadd he hr)) (by decide) ?_
 refine GL.sg rfl (by decide) ?_
 refine GL.nil (GE.thenN (GC.seq (GC.seq (GC.region ?_))))
 refine GL.mv rfl (by decide) ?_
 refine GL.mv rfl (by decide) ?_
 refine GL.val (v := (.bool false)) (Ex.fneq (r := false) rfl rfl (Eq.trans (congrArg (fun o : Option Ordering => (o != some .eq)) (Fv.ord_eq (Ld.wd_is he hr) (Ld.wd_is he hr))) (Fv.neq_self (Ld.wd_is he hr)))) (by decide) ?_
 refine GL.mv rfl (by decide) ?_
 refine GL.stepG (tj := 26) rfl rfl (Ex.wp (v := (.float .f64 ((Ld.wd e r)))) (Ex.move rfl) (by decide)) (fun _ _ => ?_)
 refine GL.stepG (tj := 26) rfl rfl (Stp.callR (vs := [(.float .f64 ((Ld.wd e r))), (.int .i64 0)]) rfl rfl T.own104 (by decide) (fun wc hw => isinf_p e r wc he hr)) (fun xq7 hq8 => ?_)
 refine GL.val (v := (.bool false)) (Ex.pickF rfl rfl) (by decide) ?_
 refine GL.nil (GE.thenN ?_)
 refine GC.cond rfl (fun hq9 => by cases hq9) (fun _ => ?_)
 refine GC.skip (GE.thenN (GC.seq (GC.region ?_)))
 refine GL.mv rfl (by decide) ?_
 refine GL.mv rfl (by decide) ?_
 refine GL.val (v := (.float .f64 0)) (Ex.farith (r := 0) rfl rfl (Kp.fsubs he hr)) (by decide) ?_
 refine GL.sg rfl (by decide) ?_
 refine GL.nil (GE.thenN (GC.seq (GC.region ?_)))
 refine GL.mv rfl (by decide) ?_
 refine GL.mv rfl (by decide) ?_
 refine GL.mv rfl (by decide) ?_
 refine GL.val (v := (.float .f64 ((Ld.wd e r)))) (Ex.farith (r := (Ld.wd e r)) rfl rfl (Kp.fsub0 he hr)) (by decide) ?_
 refine GL.val (v := (.float .f64 0)) (Ex.farith (r := 0) rfl rfl (Kp.fsubs he hr)) (by decide) ?_
 refine GL.mv rfl (by decide) ?_
 refine GL.mv rfl (by decide) ?_
 refine GL.val (v := (.float .f64 9223372036854775808)) (Ex.farith (r := 9223372036854775808) rfl rfl (by kernel_rfl)) (by decide) ?_
 refine GL.val (v := (.float .f64 0)) (Ex.farith (r := 0) rfl rfl (by kernel_rfl)) (by decide) ?_
 refine GL.sg rfl (by decide) ?_
 refine GL.nil (GE.thenN (GC.seq (GC.seq (GC.region ?_))))
 refine GL.mv rfl (by decide) ?_
 refine GL.val (v := (.int .u64 ((((Ld.wd e r) : Nat) : Int)))) (Ex.ext (vs := [(.float .f64 ((Ld.wd e r)))]) rfl rfl T.ext106 (fun _ => rfl)) (by decide) ?_
 refine GL.sg rfl (by decide) ?_
 refine GL.nil (GE.thenN (GC.seq (GC.region ?_)))
 refine GL.mv rfl (by decide) ?_
 refine GL.val (v := (.bool false)) (Ex.fneq (r := false) rfl rfl (by kernel_rfl)) (by decide) ?_
 refine GL.mv rfl (by decide) ?_
 refine GL.skipG (tj := 49) rfl rfl rfl (by decide) ?_
 refine GL.skipG (tj := 49) rfl rfl rfl (by decide) ?_
 refine GL.skipG (tj := 49) rfl rfl rfl (by decide) ?_
 refine GL.val (v := (.bool false)) (Ex.pickF rfl rfl) (by decide) ?_
 refine GL.nil (GE.thenN ?_)
 refine GC.cond rfl (fun hq10 => by cases hq10) (fun _ => ?_)
 refine GC.skip (GE.thenN (GC.seq (GC.region ?_)))
 refine GL.mv rfl (by decide) ?_
 refine GL.step (Stp.fcv (fx := (some (Ld.wd e r))) (by decide) rfl Try.underlying44 Try.underlying99 (Ld.wd_is he hr) hH (by decide)) (fun xq11 hq12 => ?_)
 refine GL.step (Stp.callR (vs := [(.float .f32 xq11)]) rfl rfl T.own105 (by decide) (fun wc hw => told_a xq11 (Fv.cv .f64 .f32 (some (Ld.wd e r))) wc hq12.1)) (fun xq13 hq14 => ?_)
 refine GL.sg rfl (by decide) ?_
 refine GL.nil (GE.thenN (GC.ret ?_))
 refine GC.ret1 rfl (Rv.tmp rfl) (fun wN HN => ?_)
 exact HN.ret () trivial (congrArg (Value.int .u32) hT) (List.nil_sublist _) rfl

theorem fma_nan (a : Int) (w : World) (hN : Fv.V a = none) :
  Calls Try.prog 81 #[(.int .u32 a), (.int .u32 1065353216), (.int .u32 2147483648)] w (Ret w (fun _ : Unit => True) (fun _ => .int .u32 2143289344) (fun _ => [])) := by
 have hH : Fv.Holds .f64 .f32 (Fv.op .add .f64 (Fv.op .mul .f64 (Fv.V a) (some 4607182418800017408)) (some 9223372036854775808)) := by rw [hN]; exact Kp.holds_none
 refine enter (M := None) (L := []) (n := 68) (l := [(0, (.int .u32 a)), (1, (.int .u32 1065353216)), (2, (.int .u32 2147483648))]) Try.func81 rfl rfl (Args.cons rfl (Args.cons rfl (Args.cons rfl (Args.nil _)))) (Hp.start _ _) ?_
 refine GC.seq (GC.region ?_)
 refine GL.sg rfl (by decide) ?_
 refine GL.nil (GE.thenN (GC.seq (GC.region ?_)))
 refine GL.mv rfl (by decide) ?_
 refine GL.step (Stp.callR (vs := [(.int .u32 a)]) rfl rfl T.own103 (by decide) (fun wc hw => wide_w a wc)) (fun xq1 hq2 => ?_)
 refine GL.mv rfl (by decide) ?_
 refine GL.step (Stp.callR (vs := [(.int .u32 1065353216)]) rfl rfl T.own103 (by decide) (fun wc hw => q103_4  wc )) (fun xq3 hq4 => ?_)
 refine GL.step (Stp.fop (fx := (Fv.V a)) (fy := (some 4607182418800017408)) rfl rfl rfl hq2 (show Fv.Is .f64 4607182418800017408 (some 4607182418800017408) from ⟨rfl, by decide +kernel⟩) (by decide)) (fun xq5 hq6 => ?_)
 refine GL.sg rfl (by decide) ?_
 refine GL.nil (GE.thenN (GC.seq (GC.region ?_)))
 refine GL.mv rfl (by decide) ?_
 refine GL.step (Stp.callR (vs := [(.int .u32 2147483648)]) rfl rfl T.own103 (by decide) (fun wc hw => q103_63  wc )) (fun xq7 hq8 => ?_)
 refine GL.sg rfl (by decide) ?_
 refine GL.nil (GE.thenN (GC.seq (GC.region ?_)))
 refine GL.mv rfl (by decide) ?_
 refine GL.mv rfl (by decide) ?_
 refine GL.step (Stp.fop (fx := (Fv.op .mul .f64 (Fv.V a) (some 4607182418800017408))) (fy := (some 9223372036854775808)) rfl rfl rfl hq6 (show Fv.Is .f64 9223372036854775808 (some 9223372036854775808) from ⟨rfl, by decide +kernel⟩) (by decide)) (fun xq9 hq10 => ?_)
 refine GL.sg rfl (by decide) ?_
 refine GL.nil (GE.thenN (GC.seq (GC.seq (GC.region ?_))))
 refine GL.mv rfl (by decide) ?_
 refine GL.mv rfl (by decide) ?_
 refine GL.val (v := (.bool true)) (Ex.fneq (r := true) rfl rfl (Eq.trans (congrArg (fun o : Option Ordering => (o != some .eq)) (Fv.ord_eq hq10 hq10)) (Eq.trans (Fv.neq_self hq10) (by rw [hN]; rfl)))) (by decide) ?_
 refine GL.mv rfl (by decide) ?_
 refine GL.skipG (tj := 26) rfl rfl rfl (by decide) ?_
 refine GL.skipG (tj := 26) rfl rfl rfl (by decide) ?_
 refine GL.val (v := (.bool true)) (Ex.pickT rfl rfl) (by decide) ?_
 refine GL.nil (GE.thenN ?_)
 refine GC.cond rfl (fun _ => ?_) (fun hq11 => by cases hq11)
 refine GC.seq (GC.region ?_)
 refine GL.mv rfl (by decide) ?_
 refine GL.step (Stp.fcv (fx := (Fv.op .add .f64 (Fv.op .mul .f64 (Fv.V a) (some 4607182418800017408)) (some 9223372036854775808))) (by decide) rfl Try.underlying44 Try.underlying99 hq10 hH (by decide)) (fun xq12 hq13 => ?_)
 refine GL.step (Stp.callR (vs := [(.float .f32 xq12)]) rfl rfl T.own105 (by decide) (fun wc hw => told_a xq12 (Fv.cv .f64 .f32 (Fv.op .add .f64 (Fv.op .mul .f64 (Fv.V a) (some 4607182418800017408)) (some 9223372036854775808))) wc hq13.1)) (fun xq14 hq15 => ?_)
 refine GL.sg rfl (by decide) ?_
 refine GL.nil (GE.thenN (GC.ret (GE.thenR ?_)))
 refine GC.ret1 rfl (Rv.tmp rfl) (fun wN HN => ?_)
 exact HN.ret () trivial (by rw [hN]; rfl) (List.nil_sublist _) rfl

theorem q109_67 (w : World) :
  Calls Try.prog 109 #[(.int .u32 2139095040)] w (Ret w (fun _ : Unit => True) (fun rz => (.float .f32 2139095040)) (fun rz => [])) := by
 refine enter (M := None) (L := []) (n := 5) (l := [(0, (.int .u32 2139095040))]) Try.func109 rfl rfl (Args.cons rfl (Args.nil _)) (Hp.start _ _) ?_
 refine GC.seq (GC.region ?_)
 refine GL.sg rfl (by decide) ?_
 refine GL.nil (GE.thenN (GC.seq (GC.region ?_)))
 refine GL.mv rfl (by decide) ?_
 refine GL.val (v := (.float .f32 2139095040)) (Ex.ext (vs := [(.int .u32 2139095040)]) rfl rfl T.ext54 (fun _ => by first | rfl | kernel_rfl)) (by decide) ?_
 refine GL.sg rfl (by decide) ?_
 refine GL.nil (GE.thenN (GC.ret ?_))
 refine GC.ret1 rfl (Rv.tmp rfl) (fun wN HN => ?_)
 exact HN.ret () trivial rfl ulN rfl

theorem q103_66 (w : World) :
  Calls Try.prog 103 #[(.int .u32 2139095040)] w (Ret w (fun _ : Unit => True) (fun rz => (.float .f64 9218868437227405312)) (fun rz => [])) := by
 refine enter (M := None) (L := []) (n := 6) (l := [(0, (.int .u32 2139095040))]) Try.func103 rfl rfl (Args.cons rfl (Args.nil _)) (Hp.start _ _) ?_
 refine GC.seq (GC.region ?_)
 refine GL.sg rfl (by decide) ?_
 refine GL.nil (GE.thenN (GC.seq (GC.region ?_)))
 refine GL.mv rfl (by decide) ?_
 refine GL.step (Stp.callR (vs := [(.int .u32 2139095040)]) rfl rfl T.own109 (by decide) (fun wc hw => q109_67  wc )) (fun xq1 hq2 => ?_)
 refine GL.val (v := (.float .f64 9218868437227405312)) (Ex.cff (r := 9218868437227405312) rfl Try.underlying99 Try.underlying44 (by kernel_rfl)) (by decide) ?_
 refine GL.sg rfl (by decide) ?_
 refine GL.nil (GE.thenN (GC.ret ?_))
 refine GC.ret1 rfl (Rv.tmp rfl) (fun wN HN => ?_)
 exact HN.ret () trivial rfl ulN rfl

theorem q119_69 (w : World) :
  Calls Try.prog 119 #[(.float .f64 9218868437227405312)] w (Ret w (fun _ : Unit => True) (fun rz => (.float .f64 9218868437227405312)) (fun rz => [])) := by
 refine enter (M := None) (L := []) (n := 7) (l := [(0, (.float .f64 9218868437227405312))]) Try.func119 rfl rfl (Args.cons rfl (Args.nil _)) (Hp.start _ _) ?_
 refine GC.seq (GC.region ?_)
 refine GL.sg rfl (by decide) ?_
 refine GL.nil (GE.thenN (GC.seq (GC.region ?_)))
 refine GL.mv rfl (by decide) ?_
 refine GL.val (v := (.int .u64 9218868437227405312)) (Ex.ext (vs := [(.float .f64 9218868437227405312)]) rfl rfl T.ext106 (fun _ => by first | rfl | kernel_rfl)) (by decide) ?_
 refine GL.val (v := (.int .u64 9218868437227405312)) (Ex.andn rfl rfl (Z := 9218868437227405312) (by decide +kernel)) (by decide) ?_
 refine GL.val (v := (.float .f64 9218868437227405312)) (Ex.ext (vs := [(.int .u64 9218868437227405312)]) rfl rfl T.ext107 (fun _ => by first | rfl | kernel_rfl)) (by decide) ?_
 refine GL.sg rfl (by decide) ?_
 refine GL.nil (GE.thenN (GC.ret ?_))
 refine GC.ret1 rfl (Rv.tmp rfl) (fun wN HN => ?_)
 exact HN.ret () trivial rfl ulN rfl

theorem q104_68 (w : World) :
  Calls Try.prog 104 #[(.float .f64 9218868437227405312), (.int .i64 0)] w (Ret w (fun _ : Unit => True) (fun rz => (.bool true)) (fun rz => [])) := by
 refine enter (M := None) (L := []) (n := 15) (l := [(0, (.float .f64 9218868437227405312)), (1, (.int .i64 0))]) Try.func104 rfl rfl (Args.cons rfl (Args.cons rfl (Args.nil _))) (Hp.start _ _) ?_
 refine GC.seq (GC.region ?_)
 refine GL.sg rfl (by decide) ?_
 refine GL.nil (GE.thenN (GC.seq (GC.seq (GC.region ?_))))
 refine GL.mv rfl (by decide) ?_
 refine GL.val (v := (.bool true)) (Ex.cast (Ex.eql rfl rfl) rfl) (by decide) ?_
 refine GL.nil (GE.thenN ?_)
 refine GC.cond rfl (fun _ => ?_) (fun hq1 => by cases hq1)
 refine GC.region ?_
 refine GL.mv rfl (by decide) ?_
 refine GL.step (Stp.callR (vs := [(.float .f64 9218868437227405312)]) rfl rfl T.own119 (by decide) (fun wc hw => q119_69  wc )) (fun xq2 hq3 => ?_)
 refine GL.sg rfl (by decide) ?_
 refine GL.nil (GE.thenN (GC.seq (GC.region ?_)))
 refine GL.mv rfl (by decide) ?_
 refine GL.val (v := (.bool true)) (Ex.fgtr (r := true) rfl rfl (by kernel_rfl)) (by decide) ?_
 refine GL.sg rfl (by decide) ?_
 refine GL.nil (GE.thenN (GC.ret ?_))
 refine GC.ret1 rfl (Rv.tmp rfl) (fun wN HN => ?_)
 exact HN.ret () trivial rfl ulN rfl

theorem q105_70 (w : World) :
  Calls Try.prog 105 #[(.float .f32 2139095040)] w (Ret w (fun _ : Unit => True) (fun rz => (.int .u32 2139095040)) (fun rz => [])) := by
 refine enter (M := None) (L := []) (n := 8) (l := [(0, (.float .f32 2139095040))]) Try.func105 rfl rfl (Args.cons rfl (Args.nil _)) (Hp.start _ _) ?_
 refine GC.seq (GC.region ?_)
 refine GL.sg rfl (by decide) ?_
 refine GL.nil (GE.thenN (GC.seq (GC.seq (GC.region ?_))))
 refine GL.mv rfl (by decide) ?_
 refine GL.mv rfl (by decide) ?_
 refine GL.val (v := (.bool false)) (Ex.fneq (r := false) rfl rfl (by kernel_rfl)) (by decide) ?_
 refine GL.nil (GE.thenN ?_)
 refine GC.cond rfl (fun hq1 => by cases hq1) (fun _ => ?_)
 refine GC.skip (GE.thenN (GC.seq (GC.region ?_)))
 refine GL.mv rfl (by decide) ?_
 refine GL.val (v := (.int .u32 2139095040)) (Ex.ext (vs := [(.float .f32 2139095040)]) rfl rfl T.ext83 (fun _ => by first | rfl | kernel_rfl)) (by decide) ?_
 refine GL.sg rfl (by decide) ?_
 refine GL.nil (GE.thenN (GC.ret ?_))
 refine GC.ret1 rfl (Rv.tmp rfl) (fun wN HN => ?_)
 exact HN.ret () trivial rfl ulN rfl

theorem q81_65 (w : World) :
  Calls Try.prog 81 #[(.int .u32 2139095040), (.int .u32 1065353216), (.int .u32 2147483648)] w (Ret w (fun _ : Unit => True) (fun rz => (.int .u32 2139095040)) (fun rz => [])) := by
 refine enter (M := None) (L := []) (n := 68) (l := [(0, (.int .u32 2139095040)), (1, (.int .u32 1065353216)), (2, (.int .u32 2147483648))]) Try.func81 rfl rfl (Args.cons rfl (Args.cons rfl (Args.cons rfl (Args.nil _)))) (Hp.start _ _) ?_
 refine GC.seq (GC.region ?_)
 refine GL.sg rfl (by decide) ?_
 refine GL.nil (GE.thenN (GC.seq (GC.region ?_)))
 refine GL.mv rfl (by decide) ?_
 refine GL.step (Stp.callR (vs := [(.int .u32 2139095040)]) rfl rfl T.own103 (by decide) (fun wc hw => q103_66  wc )) (fun xq1 hq2 => ?_)
 refine GL.mv rfl (by decide) ?_
 refine GL.step (Stp.callR (vs := [(.int .u32 1065353216)]) rfl rfl T.own103 (by decide) (fun wc hw => q103_4  wc )) (fun xq3 hq4 => ?_)
 refine GL.val (v := (.float .f64 9218868437227405312)) (Ex.farith (r := 9218868437227405312) rfl rfl (by kernel_rfl)) (by decide) ?_
 refine GL.sg rfl (by decide) ?_
 refine GL.nil (GE.thenN (GC.seq (GC.region ?_)))
 refine GL.mv rfl (by decide) ?_
 refine GL.step (Stp.callR (vs := [(.int .u32 2147483648)]) rfl rfl T.own103 (by decide) (fun wc hw => q103_63  wc )) (fun xq5 hq6 => ?_)
 refine GL.sg rfl (by decide) ?_
 refine GL.nil (GE.thenN (GC.seq (GC.region ?_)))
 refine GL.mv rfl (by decide) ?_
 refine GL.mv rfl (by decide) ?_
 refine GL.val (v := (.float .f64 9218868437227405312)) (Ex.farith (r := 9218868437227405312) rfl rfl (by kernel_rfl)) (by decide) ?_
 refine GL.sg rfl (by decide) ?_
 refine GL.nil (GE.thenN (GC.seq (GC.seq (GC.region ?_))))
 refine GL.mv rfl (by decide) ?_
 refine GL.mv rfl (by decide) ?_
 refine GL.val (v := (.bool false)) (Ex.fneq (r := false) rfl rfl (by kernel_rfl)) (by decide) ?_
 refine GL.mv rfl (by decide) ?_
 refine GL.stepG (tj := 26) rfl rfl (Ex.wp (v := (.float .f64 9218868437227405312)) (Ex.move rfl) (by decide)) (fun _ _ => ?_)
 refine GL.stepG (tj := 26) rfl rfl (Stp.callR (vs := [(.float .f64 9218868437227405312), (.int .i64 0)]) rfl rfl T.own104 (by decide) (fun wc hw => q104_68  wc )) (fun xq7 hq8 => ?_)
 refine GL.val (v := (.bool true)) (Ex.pickF rfl rfl) (by decide) ?_
 refine GL.nil (GE.thenN ?_)
 refine GC.cond rfl (fun _ => ?_) (fun hq9 => by cases hq9)
 refine GC.seq (GC.region ?_)
 refine GL.mv rfl (by decide) ?_
 refine GL.val (v := (.float .f32 2139095040)) (Ex.cff (r := 2139095040) rfl Try.underlying44 Try.underlying99 (by kernel_rfl)) (by decide) ?_
 refine GL.step (Stp.callR (vs := [(.float .f32 2139095040)]) rfl rfl T.own105 (by decide) (fun wc hw => q105_70  wc )) (fun xq10 hq11 => ?_)
 refine GL.sg rfl (by decide) ?_
 refine GL.nil (GE.thenN (GC.ret (GE.thenR ?_)))
 refine GC.ret1 rfl (Rv.tmp rfl) (fun wN HN => ?_)
 exact HN.ret () trivial rfl ulN rfl

theorem q109_73 (w : World) :
  Calls Try.prog 109 #[(.int .u32 4286578688)] w (Ret w (fun _ : Unit => True) (fun rz => (.float .f32 4286578688)) (fun rz => [])) := by
 refine enter (M := None) (L := []) (n := 5) (l := [(0, (.int .u32 4286578688))]) Try.func109 rfl rfl (Args.cons rfl (Args.nil _)) (Hp.start _ _) ?_
 refine GC.seq (GC.region ?_)
 refine GL.sg rfl (by decide) ?_
 refine GL.nil (GE.thenN (GC.seq (GC.region ?_)))
 refine GL.mv rfl (by decide) ?_
 refine GL.val (v := (.float .f32 4286578688)) (Ex.ext (vs := [(.int .u32 4286578688)]) rfl rfl T.ext54 (fun _ => by first | rfl | kernel_rfl)) (by decide) ?_
 refine GL.sg rfl (by decide) ?_
 refine GL.nil (GE.thenN (GC.ret ?_))
 refine GC.ret1 rfl (Rv.tmp rfl) (fun wN HN => ?_)
 exact HN.ret () trivial rfl ulN rfl

theorem q103_72 (w : World) :
  Calls Try.prog 103 #[(.int .u32 4286578688)] w (Ret w (fun _ : Unit => True) (fun rz => (.float .f64 18442240474082181120)) (fun rz => [])) := by
 refine enter (M := None) (L := []) (n := 6) (l := [(0, (.int .u32 4286578688))]) Try.func103 rfl rfl (Args.cons rfl (Args.nil _)) (Hp.start _ _) ?_
 refine GC.seq (GC.region ?_)
 refine GL.sg rfl (by decide) ?_
 refine GL.nil (GE.thenN (GC.seq (GC.region ?_)))
 refine GL.mv rfl (by decide) ?_
 refine GL.step (Stp.callR (vs := [(.int .u32 4286578688)]) rfl rfl T.own109 (by decide) (fun wc hw => q109_73  wc )) (fun xq1 hq2 => ?_)
 refine GL.val (v := (.float .f64 18442240474082181120)) (Ex.cff (r := 18442240474082181120) rfl Try.underlying99 Try.underlying44 (by kernel_rfl)) (by decide) ?_
 refine GL.sg rfl (by decide) ?_
 refine GL.nil (GE.thenN (GC.ret ?_))
 refine GC.ret1 rfl (Rv.tmp rfl) (fun wN HN => ?_)
 exact HN.ret () trivial rfl ulN rfl

theorem q119_75 (w : World) :
  Calls Try.prog 119 #[(.float .f64 18442240474082181120)] w (Ret w (fun _ : Unit => True) (fun rz => (.float .f64 9218868437227405312)) (fun rz => [])) := by
 refine enter (M := None) (L := []) (n := 7) (l := [(0, (.float .f64 18442240474082181120))]) Try.func119 rfl rfl (Args.cons rfl (Args.nil _)) (Hp.start _ _) ?_
 refine GC.seq (GC.region ?_)
 refine GL.sg rfl (by decide) ?_
 refine GL.nil (GE.thenN (GC.seq (GC.region ?_)))
 refine GL.mv rfl (by decide) ?_
 refine GL.val (v := (.int .u64 18442240474082181120)) (Ex.ext (vs := [(.float .f64 18442240474082181120)]) rfl rfl T.ext106 (fun _ => by first | rfl | kernel_rfl)) (by decide) ?_
 refine GL.val (v := (.int .u64 9218868437227405312)) (Ex.andn rfl rfl (Z := 9218868437227405312) (by decide +kernel)) (by decide) ?_
 refine GL.val (v := (.float .f64 9218868437227405312)) (Ex.ext (vs := [(.int .u64 9218868437227405312)]) rfl rfl T.ext107 (fun _ => by first | rfl | kernel_rfl)) (by decide) ?_
 refine GL.sg rfl (by decide) ?_
 refine GL.nil (GE.thenN (GC.ret ?_))
 refine GC.ret1 rfl (Rv.tmp rfl) (fun wN HN => ?_)
 exact HN.ret () trivial rfl ulN rfl

theorem q104_74 (w : World) :
  Calls Try.prog 104 #[(.float .f64 18442240474082181120), (.int .i64 0)] w (Ret w (fun _ : Unit => True) (fun rz => (.bool true)) (fun rz => [])) := by
 refine enter (M := None) (L := []) (n := 15) (l := [(0, (.float .f64 18442240474082181120)), (1, (.int .i64 0))]) Try.func104 rfl rfl (Args.cons rfl (Args.cons rfl (Args.nil _))) (Hp.start _ _) ?_
 refine GC.seq (GC.region ?_)
 refine GL.sg rfl (by decide) ?_
 refine GL.nil (GE.thenN (GC.seq (GC.seq (GC.region ?_))))
 refine GL.mv rfl (by decide) ?_
 refine GL.val (v := (.bool true)) (Ex.cast (Ex.eql rfl rfl) rfl) (by decide) ?_
 refine GL.nil (GE.thenN ?_)
 refine GC.cond rfl (fun _ => ?_) (fun hq1 => by cases hq1)
 refine GC.region ?_
 refine GL.mv rfl (by decide) ?_
 refine GL.step (Stp.callR (vs := [(.float .f64 18442240474082181120)]) rfl rfl T.own119 (by decide) (fun wc hw => q119_75  wc )) (fun xq2 hq3 => ?_)
 refine GL.sg rfl (by decide) ?_
 refine GL.nil (GE.thenN (GC.seq (GC.region ?_)))
 refine GL.mv rfl (by decide) ?_
 refine GL.val (v := (.bool true)) (Ex.fgtr (r := true) rfl rfl (by kernel_rfl)) (by decide) ?_
 refine GL.sg rfl (by decide) ?_
 refine GL.nil (GE.thenN (GC.ret ?_))
 refine GC.ret1 rfl (Rv.tmp rfl) (fun wN HN => ?_)
 exact HN.ret () trivial rfl ulN rfl

theorem q105_76 (w : World) :
  Calls Try.prog 105 #[(.float .f32 4286578688)] w (Ret w (fun _ : Unit => True) (fun rz => (.int .u32 4286578688)) (fun rz => [])) := by
 refine enter (M := None) (L := []) (n := 8) (l := [(0, (.float .f32 4286578688))]) Try.func105 rfl rfl (Args.cons rfl (Args.nil _)) (Hp.start _ _) ?_
 refine GC.seq (GC.region ?_)
 refine GL.sg rfl (by decide) ?_
 refine GL.nil (GE.thenN (GC.seq (GC.seq (GC.region ?_))))
 refine GL.mv rfl (by decide) ?_
 refine GL.mv rfl (by decide) ?_
 refine GL.val (v := (.bool false)) (Ex.fneq (r := false) rfl rfl (by kernel_rfl)) (by decide) ?_
 refine GL.nil (GE.thenN ?_)
 refine GC.cond rfl (fun hq1 => by cases hq1) (fun _ => ?_)
 refine GC.skip (GE.thenN (GC.seq (GC.region ?_)))
 refine GL.mv rfl (by decide) ?_
 refine GL.val (v := (.int .u32 4286578688)) (Ex.ext (vs := [(.float .f32 4286578688)]) rfl rfl T.ext83 (fun _ => by first | rfl | kernel_rfl)) (by decide) ?_
 refine GL.sg rfl (by decide) ?_
 refine GL.nil (GE.thenN (GC.ret ?_))
 refine GC.ret1 rfl (Rv.tmp rfl) (fun wN HN => ?_)
 exact HN.ret () trivial rfl ulN rfl

theorem q81_71 (w : World) :
  Calls Try.prog 81 #[(.int .u32 4286578688), (.int .u32 1065353216), (.int .u32 2147483648)] w (Ret w (fun _ : Unit => True) (fun rz => (.int .u32 4286578688)) (fun rz => [])) := by
 refine enter (M := None) (L := []) (n := 68) (l := [(0, (.int .u32 4286578688)), (1, (.int .u32 1065353216)), (2, (.int .u32 2147483648))]) Try.func81 rfl rfl (Args.cons rfl (Args.cons rfl (Args.cons rfl (Args.nil _)))) (Hp.start _ _) ?_
 refine GC.seq (GC.region ?_)
 refine GL.sg rfl (by decide) ?_
 refine GL.nil (GE.thenN (GC.seq (GC.region ?_)))
 refine GL.mv rfl (by decide) ?_
 refine GL.step (Stp.callR (vs := [(.int .u32 4286578688)]) rfl rfl T.own103 (by decide) (fun wc hw => q103_72  wc )) (fun xq1 hq2 => ?_)
 refine GL.mv rfl (by decide) ?_
 refine GL.step (Stp.callR (vs := [(.int .u32 1065353216)]) rfl rfl T.own103 (by decide) (fun wc hw => q103_4  wc )) (fun xq3 hq4 => ?_)
 refine GL.val (v := (.float .f64 18442240474082181120)) (Ex.farith (r := 18442240474082181120) rfl rfl (by kernel_rfl)) (by decide) ?_
 refine GL.sg rfl (by decide) ?_
 refine GL.nil (GE.thenN (GC.seq (GC.region ?_)))
 refine GL.mv rfl (by decide) ?_
 refine GL.step (Stp.callR (vs := [(.int .u32 2147483648)]) rfl rfl T.own103 (by decide) (fun wc hw => q103_63  wc )) (fun xq5 hq6 => ?_)
 refine GL.sg rfl (by decide) ?_
 refine GL.nil (GE.thenN (GC.seq (GC.region ?_)))
 refine GL.mv rfl (by decide) ?_
 refine GL.mv rfl (by decide) ?_
 refine GL.val (v := (.float .f64 18442240474082181120)) (Ex.farith (r := 18442240474082181120) rfl rfl (by kernel_rfl)) (by decide) ?_
 refine GL.sg rfl (by decide) ?_
 refine GL.nil (GE.thenN (GC.seq (GC.seq (GC.region ?_))))
 refine GL.mv rfl (by decide) ?_
 refine GL.mv rfl (by decide) ?_
 refine GL.val (v := (.bool false)) (Ex.fneq (r := false) rfl rfl (by kernel_rfl)) (by decide) ?_
 refine GL.mv rfl (by decide) ?_
 refine GL.stepG (tj := 26) rfl rfl (Ex.wp (v := (.float .f64 18442240474082181120)) (Ex.move rfl) (by decide)) (fun _ _ => ?_)
 refine GL.stepG (tj := 26) rfl rfl (Stp.callR (vs := [(.float .f64 18442240474082181120), (.int .i64 0)]) rfl rfl T.own104 (by decide) (fun wc hw => q104_74  wc )) (fun xq7 hq8 => ?_)
 refine GL.val (v := (.bool true)) (Ex.pickF rfl rfl) (by decide) ?_
 refine GL.nil (GE.thenN ?_)
 refine GC.cond rfl (fun _ => ?_) (fun hq9 => by cases hq9)
 refine GC.seq (GC.region ?_)
 refine GL.mv rfl (by decide) ?_
 refine GL.val (v := (.float .f32 4286578688)) (Ex.cff (r := 4286578688) rfl Try.underlying44 Try.underlying99 (by kernel_rfl)) (by decide) ?_
 refine GL.step (Stp.callR (vs := [(.float .f32 4286578688)]) rfl rfl T.own105 (by decide) (fun wc hw => q105_76  wc )) (fun xq10 hq11 => ?_)
 refine GL.sg rfl (by decide) ?_
 refine GL.nil (GE.thenN (GC.ret (GE.thenR ?_)))
 refine GC.ret1 rfl (Rv.tmp rfl) (fun wN HN => ?_)
 exact HN.ret () trivial rfl ulN rfl

theorem fma_one (a : Int) (w : World) (ha : 0 ≤ a ∧ a < 4294967296) : Calls Try.prog 81 #[.int .u32 a, .int .u32 1065353216, .int .u32 2147483648] w (Ret w (fun _ : Unit => True) (fun _ => .int .u32 (Kp.kmd a)) (fun _ => [])) := by
 by_cases hf : a / 8388608 % 256 ≠ 255
 ·obtain ⟨e, r, he, hr, hV, hT, hH⟩ := Kp.fin_V ha hf
  rw [show Kp.kmd a = a from if_neg (fun h => hf h.1)]
  exact fma_fin a e r w he hr hV hT hH
 ·by_cases hn : a % 8388608 = 0
  ·have : a = 2139095040 ∨ a = 4286578688 := by omega
   rcases this with rfl | rfl
   ·exact q81_65  w 
   ·exact q81_71  w 
  ·rw [show Kp.kmd a = 2143289344 from if_pos ⟨Classical.not_not.1 hf, hn⟩]
   exact fma_nan a w (Sl.V_nan ha (by unfold Fv.rk; split <;> omega))

theorem told_m (z : Nat) (fx : Option Nat) (w : World) (hz : Fv.Is .f64 z fx) (hH : Fv.Holds .f64 .f32 fx) :
  Calls Try.prog 50 #[(.float .f64 z)] w (Ret w (fun _ : Unit => True) (fun _ => .int .u32 (Fv.T fx)) (fun _ => [])) := by
 refine enter (M := None) (L := []) (n := 7) (l := [(0, (.float .f64 z))]) Try.func50 rfl rfl (Args.cons rfl (Args.nil _)) (Hp.start _ _) ?_
 refine GC.seq (GC.region ?_)
 refine GL.sg rfl (by decide) ?_
 refine GL.nil (GE.thenN (GC.seq (GC.region ?_)))
 refine GL.mv rfl (by decide) ?_
 refine GL.step (Stp.fcv (fx := fx) (by decide) rfl Try.underlying44 Try.underlying99 hz hH (by decide)) (fun xq1 hq2 => ?_)
 refine GL.val (v := (.int .u32 (((xq1 : Nat) : Int)))) (Ex.ext (vs := [(.float .f32 xq1)]) rfl rfl T.ext83 (fun _ => rfl)) (by decide) ?_
 refine GL.step (Stp.callR (σ := Unit) (p := fun rz => True) (v := fun rz => (.int .u32 ((Fv.T32 (Fv.cv .f64 .f32 fx))))) (N := fun rz => []) (vs := [(.int .u32 (((xq1 : Nat) : Int)))]) rfl rfl T.own82 (by decide) (fun wc hw => (by have h := made_p ((xq1 : Nat) : Int) wc (Kp.isb_lt hq2); rw [Kp.mde_is hq2] at h; exact h))) (fun xq3 hq4 => ?_)
 refine GL.sg rfl (by decide) ?_
 refine GL.nil (GE.thenN (GC.ret ?_))
 refine GC.ret1 rfl (Rv.tmp rfl) (fun wN HN => ?_)
 exact HN.ret () trivial rfl (List.nil_sublist _) rfl

theorem mat1_id (x y z : Int) (c0 : Nat) (w : World) (hh : Has w [⟨c0, [(.float .f64 4607182418800017408), (.float .f64 0), (.float .f64 0), (.float .f64 0), (.float .f64 4607182418800017408), (.float .f64 0), (.float .f64 0), (.float .f64 0), (.float .f64 4607182418800017408)], 93, false⟩]) (hx : Kp.U x) (hy : Kp.U y) (hz : Kp.U z) :
  Calls Try.prog 49 #[(.int .u32 x), (.int .u32 y), (.int .u32 z), (.pointer (some ⟨c0, 0, none⟩))] w (Ret w (fun _ : Unit => True) (fun _ => .tuple #[.int .u32 (Kp.mxF x y z).1, .int .u32 (Kp.mxF x y z).2.1, .int .u32 (Kp.mxF x y z).2.2]) (fun _ => [])) := by
 refine enter (M := None) (L := [⟨c0, [(.float .f64 4607182418800017408), (.float .f64 0), (.float .f64 0), (.float .f64 0), (.float .f64 4607182418800017408), (.float .f64 0), (.float .f64 0), (.float .f64 0), (.float .f64 4607182418800017408)], 93, false⟩]) (n := 49) (l := [(0, (.int .u32 x)), (1, (.int .u32 y)), (2, (.int .u32 z)), (3, (.pointer (some ⟨c0, 0, none⟩)))]) Try.func49 rfl rfl (Args.cons rfl (Args.cons rfl (Args.cons rfl (Args.cons rfl (Args.nil _))))) (Hp.reads hh rfl) ?_
 refine GC.seq (GC.region ?_)
 refine GL.sg rfl (by decide) ?_
 refine GL.sg rfl (by decide) ?_
 refine GL.sg rfl (by decide) ?_
 refine GL.nil (GE.thenN (GC.seq (GC.region ?_)))
 refine GL.step (Stp.alloc T.zr94 (by decide)) (fun bq1 _ => ?_)
 refine GL.nil (GE.thenN (GC.seq (GC.seq (GC.region ?_))))
 refine GL.val (v := (.agg #[(.float .f64 4607182418800017408), (.float .f64 0), (.float .f64 0), (.float .f64 0), (.float .f64 4607182418800017408), (.float .f64 0), (.float .f64 0), (.float .f64 0), (.float .f64 4607182418800017408)])) (Ex.loadA rfl T.ag93 T.sz93 (i := 1) rfl (vs := [(.float .f64 4607182418800017408), (.float .f64 0), (.float .f64 0), (.float .f64 0), (.float .f64 4607182418800017408), (.float .f64 0), (.float .f64 0), (.float .f64 0), (.float .f64 4607182418800017408)]) rfl rfl) (by decide) ?_
 refine GL.mv rfl (by decide) ?_
 refine GL.nil (GE.thenN (GC.block ?_))
 refine GC.unroll 4 ?_
 refine GE.round (GC.seq (GC.region ?_))
 refine GL.val (v := (.bool true)) (Ex.cast (Ex.lss rfl rfl) rfl) (by decide) ?_
 refine GL.nil (GE.thenN (GC.seq ?_))
 refine GC.cond rfl (fun _ => ?_) (fun hq2 => by cases hq2)
 refine GC.skip (GE.thenN (GC.seq (GC.block (GC.seq (GC.region ?_)))))
 refine GL.mv rfl (by decide) ?_
 refine GL.val (v := (.agg #[(.float .f64 4607182418800017408), (.float .f64 0), (.float .f64 0)])) (Ex.indexA rfl rfl Try.underlying93 T.sz92 T.ag92 (by decide) (by decide) (vs := [(.float .f64 4607182418800017408), (.float .f64 0), (.float .f64 0)]) rfl) (by decide) ?_
 refine GL.step (Stp.alloc T.zr92 (by decide)) (fun bq3 _ => ?_)
 refine GL.sg rfl (by decide) ?_
 refine GL.step (Stp.st0 (cs' := [(.float .f64 4607182418800017408), (.float .f64 0), (.float .f64 0)]) rfl rfl rfl T.sz92 rfl rfl rfl) (fun _ _ => ?_)
 refine GL.nil (GE.thenN (GC.seq ?_))
 refine GC.drawP [⟨bq3, [(.float .f64 4607182418800017408), (.float .f64 0), (.float .f64 0)], 92, true⟩, ⟨bq1, [(.int .u32 0), (.int .u32 0), (.int .u32 0)], 94, true⟩, ⟨c0, [(.float .f64 4607182418800017408), (.float .f64 0), (.float .f64 0), (.float .f64 0), (.float .f64 4607182418800017408), (.float .f64 0), (.float .f64 0), (.float .f64 0), (.float .f64 4607182418800017408)], 93, false⟩] T.mixed (by kernel_rfl) (by kernel_rfl) (fuel := 5) rfl rfl ?_
 refine GH.tk 0 (v := (.pointer (some ⟨bq3, 0, none⟩))) rfl (by kernel_rfl) (fun _ _ _ h => h) (Ex.cast (Ex.indexArr (m := 3) rfl rfl Try.underlying92 T.sz44 (by decide) (by decide)) rfl) (ulC (ulC (ulC ulN))) (by decide) ?_
 refine GH.tk 1 (v := (.float .f64 4607182418800017408)) rfl (by kernel_rfl) (fun _ _ _ h => h) (Ex.load rfl T.ag44 (i := 0) rfl rfl) (ulC (ulC (ulC ulN))) (by decide) ?_
 refine GH.tk 2 (v := (.int .u32 x)) rfl (by kernel_rfl) (fun _ _ _ h => h) (Ex.move rfl) (ulC (ulC (ulC ulN))) (by decide) ?_
 refine GH.one 3 rfl (by kernel_rfl) (Stp.callR (vs := [(.int .u32 x)]) rfl rfl T.own48 (by decide) (fun wc hw => value_m x wc)) (fun _ => (ulC (ulC (ulC ulN)))) (fun xq4 hq5 => ?_)
 refine GH.one 4 rfl (by kernel_rfl) (Stp.fop (fx := (some 4607182418800017408)) (fy := (Fv.V x)) rfl rfl rfl (show Fv.Is .f64 4607182418800017408 (some 4607182418800017408) from ⟨rfl, by decide +kernel⟩) hq5 (by decide)) (fun _ => (ulC (ulC (ulC ulN)))) (fun xq8 hq9 => ?_)
 refine GH.done (by kernel_rfl) ?_
 refine GE.thenN ?_
 refine GE.tail rfl (Ex.wp (v := (.float .f64 xq8)) (Ex.assign rfl) (by decide)) (fun _ _ => ?_)
 refine GE.thenN (GC.seq ?_)
 refine GC.drawP [⟨bq3, [(.float .f64 4607182418800017408), (.float .f64 0), (.float .f64 0)], 92, true⟩, ⟨bq1, [(.int .u32 0), (.int .u32 0), (.int .u32 0)], 94, true⟩, ⟨c0, [(.float .f64 4607182418800017408), (.float .f64 0), (.float .f64 0), (.float .f64 0), (.float .f64 4607182418800017408), (.float .f64 0), (.float .f64 0), (.float .f64 0), (.float .f64 4607182418800017408)], 93, false⟩] T.mixed (by kernel_rfl) (by kernel_rfl) (fuel := 7) rfl rfl ?_
 refine GH.tk 0 (v := (.float .f64 xq8)) rfl (by kernel_rfl) (fun _ _ _ h => h) (Ex.move rfl) (ulC (ulC (ulC ulN))) (by decide) ?_
 refine GH.tk 1 (v := (.pointer (some ⟨bq3, 1, none⟩))) rfl (by kernel_rfl) (fun _ _ _ h => h) (Ex.cast (Ex.indexArr (m := 3) rfl rfl Try.underlying92 T.sz44 (by decide) (by decide)) rfl) (ulC (ulC (ulC ulN))) (by decide) ?_
 refine GH.tk 2 (v := (.float .f64 0)) rfl (by kernel_rfl) (fun _ _ _ h => h) (Ex.load rfl T.ag44 (i := 0) rfl rfl) (ulC (ulC (ulC ulN))) (by decide) ?_
 refine GH.tk 3 (v := (.int .u32 y)) rfl (by kernel_rfl) (fun _ _ _ h => h) (Ex.move rfl) (ulC (ulC (ulC ulN))) (by decide) ?_
 refine GH.one 4 rfl (by kernel_rfl) (Stp.callR (vs := [(.int .u32 y)]) rfl rfl T.own48 (by decide) (fun wc hw => value_m y wc)) (fun _ => (ulC (ulC (ulC ulN)))) (fun xq10 hq11 => ?_)
 refine GH.one 5 rfl (by kernel_rfl) (Stp.fop (fx := (some 0)) (fy := (Fv.V y)) rfl rfl rfl (show Fv.Is .f64 0 (some 0) from ⟨rfl, by decide +kernel⟩) hq11 (by decide)) (fun _ => (ulC (ulC (ulC ulN)))) (fun xq14 hq15 => ?_)
 refine GH.one 6 rfl (by kernel_rfl) (Stp.fop (fx := (Fv.op .mul .f64 (some 4607182418800017408) (Fv.V x))) (fy := (Fv.op .mul .f64 (some 0) (Fv.V y))) rfl rfl rfl hq9 hq15 (by decide)) (fun _ => (ulC (ulC (ulC ulN)))) (fun xq18 hq19 => ?_)
 refine GH.done (by kernel_rfl) ?_
 refine GE.thenN ?_
 refine GE.tail rfl (Ex.wp (v := (.float .f64 xq18)) (Ex.assign rfl) (by decide)) (fun _ _ => ?_)
 refine GE.thenN (GC.seq ?_)
 refine GC.drawP [⟨bq3, [(.float .f64 4607182418800017408), (.float .f64 0), (.float .f64 0)], 92, true⟩, ⟨bq1, [(.int .u32 0), (.int .u32 0), (.int .u32 0)], 94, true⟩, ⟨c0, [(.float .f64 4607182418800017408), (.float .f64 0), (.float .f64 0), (.float .f64 0), (.float .f64 4607182418800017408), (.float .f64 0), (.float .f64 0), (.float .f64 0), (.float .f64 4607182418800017408)], 93, false⟩] T.mixed (by kernel_rfl) (by kernel_rfl) (fuel := 7) rfl rfl ?_
 refine GH.tk 0 (v := (.float .f64 xq18)) rfl (by kernel_rfl) (fun _ _ _ h => h) (Ex.move rfl) (ulC (ulC (ulC ulN))) (by decide) ?_
 refine GH.tk 1 (v := (.pointer (some ⟨bq3, 2, none⟩))) rfl (by kernel_rfl) (fun _ _ _ h => h) (Ex.cast (Ex.indexArr (m := 3) rfl rfl Try.underlying92 T.sz44 (by decide) (by decide)) rfl) (ulC (ulC (ulC ulN))) (by decide) ?_
 refine GH.tk 2 (v := (.float .f64 0)) rfl (by kernel_rfl) (fun _ _ _ h => h) (Ex.load rfl T.ag44 (i := 0) rfl rfl) (ulC (ulC (ulC ulN))) (by decide) ?_
 refine GH.tk 3 (v := (.int .u32 z)) rfl (by kernel_rfl) (fun _ _ _ h => h) (Ex.move rfl) (ulC (ulC (ulC ulN))) (by decide) ?_
 refine GH.one 4 rfl (by kernel_rfl) (Stp.callR (vs := [(.int .u32 z)]) rfl rfl T.own48 (by decide) (fun wc hw => value_m z wc)) (fun _ => (ulC (ulC (ulC ulN)))) (fun xq20 hq21 => ?_)
 refine GH.one 5 rfl (by kernel_rfl) (Stp.fop (fx := (some 0)) (fy := (Fv.V z)) rfl rfl rfl (show Fv.Is .f64 0 (some 0) from ⟨rfl, by decide +kernel⟩) hq21 (by decide)) (fun _ => (ulC (ulC (ulC ulN)))) (fun xq24 hq25 => ?_)
 refine GH.one 6 rfl (by kernel_rfl) (Stp.fop (fx := (Fv.op .add .f64 (Fv.op .mul .f64 (some 4607182418800017408) (Fv.V x)) (Fv.op .mul .f64 (some 0) (Fv.V y)))) (fy := (Fv.op .mul .f64 (some 0) (Fv.V z))) rfl rfl rfl hq19 hq25 (by decide)) (fun _ => (ulC (ulC (ulC ulN)))) (fun xq28 hq29 => ?_)
 refine GH.done (by kernel_rfl) ?_
 refine GE.thenN ?_
 refine GE.tail rfl (Ex.wp (v := (.float .f64 xq28)) (Ex.assign rfl) (by decide)) (fun _ _ => ?_)
 refine GE.thenN (GC.region ?_)
 refine GL.mv rfl (by decide) ?_
 refine GL.mv rfl (by decide) ?_
 refine GL.step (Stp.callR (vs := [(.float .f64 xq28)]) rfl rfl T.own50 (by decide) (fun wc hw => told_m xq28 (Fv.op .add .f64 (Fv.op .add .f64 (Fv.op .mul .f64 (some 4607182418800017408) (Fv.V x)) (Fv.op .mul .f64 (some 0) (Fv.V y))) (Fv.op .mul .f64 (some 0) (Fv.V z))) wc hq29 (Kp.holds1 hx hy hz))) (fun xq30 hq31 => ?_)
 refine GL.val (v := (.pointer (some ⟨bq1, 0, none⟩))) (Ex.cast (Ex.indexArr (m := 3) rfl rfl Try.underlying94 T.sz28 (by decide) (by decide)) rfl) (by decide) ?_
 refine GL.step (Stp.st1 (cs' := [(.int .u32 ((Fv.T (Fv.op .add .f64 (Fv.op .add .f64 (Fv.op .mul .f64 (some 4607182418800017408) (Fv.V x)) (Fv.op .mul .f64 (some 0) (Fv.V y))) (Fv.op .mul .f64 (some 0) (Fv.V z)))))), (.int .u32 0), (.int .u32 0)]) rfl rfl rfl T.sz28 rfl rfl rfl) (fun _ _ => ?_)
 refine GL.nil (GE.blockN (GE.thenN (GC.region ?_)))
 refine GL.val (v := (.int .i64 1)) (Ex.add rfl rfl (Z := 1) (by decide)) (by decide) ?_
 refine GL.mv rfl (by decide) ?_
 refine GL.nil (GE.thenN (GE.round (GC.seq (GC.region ?_))))
 refine GL.val (v := (.bool true)) (Ex.cast (Ex.lss rfl rfl) rfl) (by decide) ?_
 refine GL.nil (GE.thenN (GC.seq ?_))
 refine GC.cond rfl (fun _ => ?_) (fun hq32 => by cases hq32)
 refine GC.skip (GE.thenN (GC.seq (GC.block (GC.seq (GC.region ?_)))))
 refine GL.mv rfl (by decide) ?_
 refine GL.val (v := (.agg #[(.float .f64 0), (.float .f64 4607182418800017408), (.float .f64 0)])) (Ex.indexA rfl rfl Try.underlying93 T.sz92 T.ag92 (by decide) (by decide) (vs := [(.float .f64 0), (.float .f64 4607182418800017408), (.float .f64 0)]) rfl) (by decide) ?_
 refine GL.step (Stp.alloc T.zr92 (by decide)) (fun bq33 _ => ?_)
 refine GL.sg rfl (by decide) ?_
 refine GL.step (Stp.st0 (cs' := [(.float .f64 0), (.float .f64 4607182418800017408), (.float .f64 0)]) rfl rfl rfl T.sz92 rfl rfl rfl) (fun _ _ => ?_)
 refine GL.nil (GE.thenN (GC.seq ?_))
 refine GC.drawP [⟨bq33, [(.float .f64 0), (.float .f64 4607182418800017408), (.float .f64 0)], 92, true⟩, ⟨bq3, [(.float .f64 4607182418800017408), (.float .f64 0), (.float .f64 0)], 92, true⟩, ⟨bq1, [(.int .u32 ((Fv.T (Fv.op .add .f64 (Fv.op .add .f64 (Fv.op .mul .f64 (some 4607182418800017408) (Fv.V x)) (Fv.op .mul .f64 (some 0) (Fv.V y))) (Fv.op .mul .f64 (some 0) (Fv.V z)))))), (.int .u32 0), (.int .u32 0)], 94, true⟩, ⟨c0, [(.float .f64 4607182418800017408), (.float .f64 0), (.float .f64 0), (.float .f64 0), (.float .f64 4607182418800017408), (.float .f64 0), (.float .f64 0), (.float .f64 0), (.float .f64 4607182418800017408)], 93, false⟩] T.mixed (by kernel_rfl) (by kernel_rfl) (fuel := 5) rfl rfl ?_
 refine GH.tk 0 (v := (.pointer (some ⟨bq33, 0, none⟩))) rfl (by kernel_rfl) (fun _ _ _ h => h) (Ex.cast (Ex.indexArr (m := 3) rfl rfl Try.underlying92 T.sz44 (by decide) (by decide)) rfl) (ulC (ulC (ulC (ulC ulN)))) (by decide) ?_
 refine GH.tk 1 (v := (.float .f64 0)) rfl (by kernel_rfl) (fun _ _ _ h => h) (Ex.load rfl T.ag44 (i := 0) rfl rfl) (ulC (ulC (ulC (ulC ulN)))) (by decide) ?_
 refine GH.tk 2 (v := (.int .u32 x)) rfl (by kernel_rfl) (fun _ _ _ h => h) (Ex.move rfl) (ulC (ulC (ulC (ulC ulN)))) (by decide) ?_
 refine GH.one 3 rfl (by kernel_rfl) (Stp.callR (vs := [(.int .u32 x)]) rfl rfl T.own48 (by decide) (fun wc hw => value_m x wc)) (fun _ => (ulC (ulC (ulC (ulC ulN))))) (fun xq34 hq35 => ?_)
 refine GH.one 4 rfl (by kernel_rfl) (Stp.fop (fx := (some 0)) (fy := (Fv.V x)) rfl rfl rfl (show Fv.Is .f64 0 (some 0) from ⟨rfl, by decide +kernel⟩) hq35 (by decide)) (fun _ => (ulC (ulC (ulC (ulC ulN))))) (fun xq38 hq39 => ?_)
 refine GH.done (by kernel_rfl) ?_
 refine GE.thenN ?_
 refine GE.tail rfl (Ex.wp (v := (.float .f64 xq38)) (Ex.assign rfl) (by decide)) (fun _ _ => ?_)
 refine GE.thenN (GC.seq ?_)
 refine GC.drawP [⟨bq33, [(.float .f64 0), (.float .f64 4607182418800017408), (.float .f64 0)], 92, true⟩, ⟨bq3, [(.float .f64 4607182418800017408), (.float .f64 0), (.float .f64 0)], 92, true⟩, ⟨bq1, [(.int .u32 ((Fv.T (Fv.op .add .f64 (Fv.op .add .f64 (Fv.op .mul .f64 (some 4607182418800017408) (Fv.V x)) (Fv.op .mul .f64 (some 0) (Fv.V y))) (Fv.op .mul .f64 (some 0) (Fv.V z)))))), (.int .u32 0), (.int .u32 0)], 94, true⟩, ⟨c0, [(.float .f64 4607182418800017408), (.float .f64 0), (.float .f64 0), (.float .f64 0), (.float .f64 4607182418800017408), (.float .f64 0), (.float .f64 0), (.float .f64 0), (.float .f64 4607182418800017408)], 93, false⟩] T.mixed (by kernel_rfl) (by kernel_rfl) (fuel := 7) rfl rfl ?_
 refine GH.tk 0 (v := (.float .f64 xq38)) rfl (by kernel_rfl) (fun _ _ _ h => h) (Ex.move rfl) (ulC (ulC (ulC (ulC ulN)))) (by decide) ?_
 refine GH.tk 1 (v := (.pointer (some ⟨bq33, 1, none⟩))) rfl (by kernel_rfl) (fun _ _ _ h => h) (Ex.cast (Ex.indexArr (m := 3) rfl rfl Try.underlying92 T.sz44 (by decide) (by decide)) rfl) (ulC (ulC (ulC (ulC ulN)))) (by decide) ?_
 refine GH.tk 2 (v := (.float .f64 4607182418800017408)) rfl (by kernel_rfl) (fun _ _ _ h => h) (Ex.load rfl T.ag44 (i := 0) rfl rfl) (ulC (ulC (ulC (ulC ulN)))) (by decide) ?_
 refine GH.tk 3 (v := (.int .u32 y)) rfl (by kernel_rfl) (fun _ _ _ h => h) (Ex.move rfl) (ulC (ulC (ulC (ulC ulN)))) (by decide) ?_
 refine GH.one 4 rfl (by kernel_rfl) (Stp.callR (vs := [(.int .u32 y)]) rfl rfl T.own48 (by decide) (fun wc hw => value_m y wc)) (fun _ => (ulC (ulC (ulC (ulC ulN))))) (fun xq40 hq41 => ?_)
 refine GH.one 5 rfl (by kernel_rfl) (Stp.fop (fx := (some 4607182418800017408)) (fy := (Fv.V y)) rfl rfl rfl (show Fv.Is .f64 4607182418800017408 (some 4607182418800017408) from ⟨rfl, by decide +kernel⟩) hq41 (by decide)) (fun _ => (ulC (ulC (ulC (ulC ulN))))) (fun xq44 hq45 => ?_)
 refine GH.one 6 rfl (by kernel_rfl) (Stp.fop (fx := (Fv.op .mul .f64 (some 0) (Fv.V x))) (fy := (Fv.op .mul .f64 (some 4607182418800017408) (Fv.V y))) rfl rfl rfl hq39 hq45 (by decide)) (fun _ => (ulC (ulC (ulC (ulC ulN))))) (fun xq48 hq49 => ?_)
 refine GH.done (by kernel_rfl) ?_
 refine GE.thenN ?_
 refine GE.tail rfl (Ex.wp (v := (.float .f64 xq48)) (Ex.assign rfl) (by decide)) (fun _ _ => ?_)
 refine GE.thenN (GC.seq ?_)
 refine GC.drawP [⟨bq33, [(.float .f64 0), (.float .f64 4607182418800017408), (.float .f64 0)], 92, true⟩, ⟨bq3, [(.float .f64 4607182418800017408), (.float .f64 0), (.float .f64 0)], 92, true⟩, ⟨bq1, [(.int .u32 ((Fv.T (Fv.op .add .f64 (Fv.op .add .f64 (Fv.op .mul .f64 (some 4607182418800017408) (Fv.V x)) (Fv.op .mul .f64 (some 0) (Fv.V y))) (Fv.op .mul .f64 (some 0) (Fv.V z)))))), (.int .u32 0), (.int .u32 0)], 94, true⟩, ⟨c0, [(.float .f64 4607182418800017408), (.float .f64 0), (.float .f64 0), (.float .f64 0), (.float .f64 4607182418800017408), (.float .f64 0), (.float .f64 0), (.float .f64 0), (.float .f64 4607182418800017408)], 93, false⟩] T.mixed (by kernel_rfl) (by kernel_rfl) (fuel := 7) rfl rfl ?_
 refine GH.tk 0 (v := (.float .f64 xq48)) rfl (by kernel_rfl) (fun _ _ _ h => h) (Ex.move rfl) (ulC (ulC (ulC (ulC ulN)))) (by decide) ?_
 refine GH.tk 1 (v := (.pointer (some ⟨bq33, 2, none⟩))) rfl (by kernel_rfl) (fun _ _ _ h => h) (Ex.cast (Ex.indexArr (m := 3) rfl rfl Try.underlying92 T.sz44 (by decide) (by decide)) rfl) (ulC (ulC (ulC (ulC ulN)))) (by decide) ?_
 refine GH.tk 2 (v := (.float .f64 0)) rfl (by kernel_rfl) (fun _ _ _ h => h) (Ex.load rfl T.ag44 (i := 0) rfl rfl) (ulC (ulC (ulC (ulC ulN)))) (by decide) ?_
 refine GH.tk 3 (v := (.int .u32 z)) rfl (by kernel_rfl) (fun _ _ _ h => h) (Ex.move rfl) (ulC (ulC (ulC (ulC ulN)))) (by decide) ?_
 refine GH.one 4 rfl (by kernel_rfl) (Stp.callR (vs := [(.int .u32 z)]) rfl rfl T.own48 (by decide) (fun wc hw => value_m z wc)) (fun _ => (ulC (ulC (ulC (ulC ulN))))) (fun xq50 hq51 => ?_)
 refine GH.one 5 rfl (by kernel_rfl) (Stp.fop (fx := (some 0)) (fy := (Fv.V z)) rfl rfl rfl (show Fv.Is .f64 0 (some 0) from ⟨rfl, by decide +kernel⟩) hq51 (by decide)) (fun _ => (ulC (ulC (ulC (ulC ulN))))) (fun xq54 hq55 => ?_)
 refine GH.one 6 rfl (by kernel_rfl) (Stp.fop (fx := (Fv.op .add .f64 (Fv.op .mul .f64 (some 0) (Fv.V x)) (Fv.op .mul .f64 (some 4607182418800017408) (Fv.V y)))) (fy := (Fv.op .mul .f64 (some 0) (Fv.V z))) rfl rfl rfl hq49 hq55 (by decide)) (fun _ => (ulC (ulC (ulC (ulC ulN))))) (fun xq58 hq59 => ?_)
 refine GH.done (by kernel_rfl) ?_
 refine GE.thenN ?_
 refine GE.tail rfl (Ex.wp (v := (.float .f64 xq58)) (Ex.assign rfl) (by decide)) (fun _ _ => ?_)
 refine GE.thenN (GC.region ?_)
 refine GL.mv rfl (by decide) ?_
 refine GL.mv rfl (by decide) ?_
 refine GL.step (Stp.callR (vs := [(.float .f64 xq58)]) rfl rfl T.own50 (by decide) (fun wc hw => told_m xq58 (Fv.op .add .f64 (Fv.op .add .f64 (Fv.op .mul .f64 (some 0) (Fv.V x)) (Fv.op .mul .f64 (some 4607182418800017408) (Fv.V y))) (Fv.op .mul .f64 (some 0) (Fv.V z))) wc hq59 (Kp.holds2 hx hy hz))) (fun xq60 hq61 => ?_)
 refine GL.val (v := (.pointer (some ⟨bq1, 1, none⟩))) (Ex.cast (Ex.indexArr (m := 3) rfl rfl Try.underlying94 T.sz28 (by decide) (by decide)) rfl) (by decide) ?_
 refine GL.step (Stp.st2 (cs' := [(.int .u32 ((Fv.T (Fv.op .add .f64 (Fv.op .add .f64 (Fv.op .mul .f64 (some 4607182418800017408) (Fv.V x)) (Fv.op .mul .f64 (some 0) (Fv.V y))) (Fv.op .mul .f64 (some 0) (Fv.V z)))))), (.int .u32 ((Fv.T (Fv.op .add .f64 (Fv.op .add .f64 (Fv.op .mul .f64 (some 0) (Fv.V x)) (Fv.op .mul .f64 (some 4607182418800017408) (Fv.V y))) (Fv.op .mul .f64 (some 0) (Fv.V z)))))), (.int .u32 0)]) rfl rfl rfl T.sz28 rfl rfl rfl) (fun _ _ => ?_)
 refine GL.nil (GE.blockN (GE.thenN (GC.region ?_)))
 refine GL.val (v := (.int .i64 2)) (Ex.add rfl rfl (Z := 2) (by decide)) (by decide) ?_
 refine GL.mv rfl (by decide) ?_
 refine GL.nil (GE.thenN (GE.round (GC.seq (GC.region ?_))))
 refine GL.val (v := (.bool true)) (Ex.cast (Ex.lss rfl rfl) rfl) (by decide) ?_
 refine GL.nil (GE.thenN (GC.seq ?_))
 refine GC.cond rfl (fun _ => ?_) (fun hq62 => by cases hq62)
 refine GC.skip (GE.thenN (GC.seq (GC.block (GC.seq (GC.region ?_)))))
 refine GL.mv rfl (by decide) ?_
 refine GL.val (v := (.agg #[(.float .f64 0), (.float .f64 0), (.float .f64 4607182418800017408)])) (Ex.indexA rfl rfl Try.underlying93 T.sz92 T.ag92 (by decide) (by decide) (vs := [(.float .f64 0), (.float .f64 0), (.float .f64 4607182418800017408)]) rfl) (by decide) ?_
 refine GL.step (Stp.alloc T.zr92 (by decide)) (fun bq63 _ => ?_)
 refine GL.sg rfl (by decide) ?_
 refine GL.step (Stp.st0 (cs' := [(.float .f64 0), (.float .f64 0), (.float .f64 4607182418800017408)]) rfl rfl rfl T.sz92 rfl rfl rfl) (fun _ _ => ?_)
 refine GL.nil (GE.thenN (GC.seq ?_))
 refine GC.drawP [⟨bq63, [(.float .f64 0), (.float .f64 0), (.float .f64 4607182418800017408)], 92, true⟩, ⟨bq33, [(.float .f64 0), (.float .f64 4607182418800017408), (.float .f64 0)], 92, true⟩, ⟨bq3, [(.float .f64 4607182418800017408), (.float .f64 0), (.float .f64 0)], 92, true⟩, ⟨bq1, [(.int .u32 ((Fv.T (Fv.op .add .f64 (Fv.op .add .f64 (Fv.op .mul .f64 (some 4607182418800017408) (Fv.V x)) (Fv.op .mul .f64 (some 0) (Fv.V y))) (Fv.op .mul .f64 (some 0) (Fv.V z)))))), (.int .u32 ((Fv.T (Fv.op .add .f64 (Fv.op .add .f64 (Fv.op .mul .f64 (some 0) (Fv.V x)) (Fv.op .mul .f64 (some 4607182418800017408) (Fv.V y))) (Fv.op .mul .f64 (some 0) (Fv.V z)))))), (.int .u32 0)], 94, true⟩, ⟨c0, [(.float .f64 4607182418800017408), (.float .f64 0), (.float .f64 0), (.float .f64 0), (.float .f64 4607182418800017408), (.float .f64 0), (.float .f64 0), (.float .f64 0), (.float .f64 4607182418800017408)], 93, false⟩] T.mixed (by kernel_rfl) (by kernel_rfl) (fuel := 5) rfl rfl ?_
 refine GH.tk 0 (v := (.pointer (some ⟨bq63, 0, none⟩))) rfl (by kernel_rfl) (fun _ _ _ h => h) (Ex.cast (Ex.indexArr (m := 3) rfl rfl Try.underlying92 T.sz44 (by decide) (by decide)) rfl) (ulC (ulC (ulC (ulC (ulC ulN))))) (by decide) ?_
 refine GH.tk 1 (v := (.float .f64 0)) rfl (by kernel_rfl) (fun _ _ _ h => h) (Ex.load rfl T.ag44 (i := 0) rfl rfl) (ulC (ulC (ulC (ulC (ulC ulN))))) (by decide) ?_
 refine GH.tk 2 (v := (.int .u32 x)) rfl (by kernel_rfl) (fun _ _ _ h => h) (Ex.move rfl) (ulC (ulC (ulC (ulC (ulC ulN))))) (by decide) ?_
 refine GH.one 3 rfl (by kernel_rfl) (Stp.callR (vs := [(.int .u32 x)]) rfl rfl T.own48 (by decide) (fun wc hw => value_m x wc)) (fun _ => (ulC (ulC (ulC (ulC (ulC ulN)))))) (fun xq64 hq65 => ?_)
 refine GH.one 4 rfl (by kernel_rfl) (Stp.fop (fx := (some 0)) (fy := (Fv.V x)) rfl rfl rfl (show Fv.Is .f64 0 (some 0) from ⟨rfl, by decide +kernel⟩) hq65 (by decide)) (fun _ => (ulC (ulC (ulC (ulC (ulC ulN)))))) (fun xq68 hq69 => ?_)
 refine GH.done (by kernel_rfl) ?_
 refine GE.thenN ?_
 refine GE.tail rfl (Ex.wp (v := (.float .f64 xq68)) (Ex.assign rfl) (by decide)) (fun _ _ => ?_)
 refine GE.thenN (GC.seq ?_)
 refine GC.drawP [⟨bq63, [(.float .f64 0), (.float .f64 0), (.float .f64 4607182418800017408)], 92, true⟩, ⟨bq33, [(.float .f64 0), (.float .f64 4607182418800017408), (.float .f64 0)], 92, true⟩, ⟨bq3, [(.float .f64 4607182418800017408), (.float .f64 0), (.float .f64 0)], 92, true⟩, ⟨bq1, [(.int .u32 ((Fv.T (Fv.op .add .f64 (Fv.op .add .f64 (Fv.op .mul .f64 (some 4607182418800017408) (Fv.V x)) (Fv.op .mul .f64 (some 0) (Fv.V y))) (Fv.op .mul .f64 (some 0) (Fv.V z)))))), (.int .u32 ((Fv.T (Fv.op .add .f64 (Fv.op .add .f64 (Fv.op .mul .f64 (some 0) (Fv.V x)) (Fv.op .mul .f64 (some 4607182418800017408) (Fv.V y))) (Fv.op .mul .f64 (some 0) (Fv.V z)))))), (.int .u32 0)], 94, true⟩, ⟨c0, [(.float .f64 4607182418800017408), (.float .f64 0), (.float .f64 0), (.float .f64 0), (.float .f64 4607182418800017408), (.float .f64 0), (.float .f64 0), (.float .f64 0), (.float .f64 4607182418800017408)], 93, false⟩] T.mixed (by kernel_rfl) (by kernel_rfl) (fuel := 7) rfl rfl ?_
 refine GH.tk 0 (v := (.float .f64 xq68)) rfl (by kernel_rfl) (fun _ _ _ h => h) (Ex.move rfl) (ulC (ulC (ulC (ulC (ulC ulN))))) (by decide) ?_
 refine GH.tk 1 (v := (.pointer (some ⟨bq63, 1, none⟩))) rfl (by kernel_rfl) (fun _ _ _ h => h) (Ex.cast (Ex.indexArr (m := 3) rfl rfl Try.underlying92 T.sz44 (by decide) (by decide)) rfl) (ulC (ulC (ulC (ulC (ulC ulN))))) (by decide) ?_
 refine GH.tk 2 (v := (.float .f64 0)) rfl (by kernel_rfl) (fun _ _ _ h => h) (Ex.load rfl T.ag44 (i := 0) rfl rfl) (ulC (ulC (ulC (ulC (ulC ulN))))) (by decide) ?_
 refine GH.tk 3 (v := (.int .u32 y)) rfl (by kernel_rfl) (fun _ _ _ h => h) (Ex.move rfl) (ulC (ulC (ulC (ulC (ulC ulN))))) (by decide) ?_
 refine GH.one 4 rfl (by kernel_rfl) (Stp.callR (vs := [(.int .u32 y)]) rfl rfl T.own48 (by decide) (fun wc hw => value_m y wc)) (fun _ => (ulC (ulC (ulC (ulC (ulC ulN)))))) (fun xq70 hq71 => ?_)
 refine GH.one 5 rfl (by kernel_rfl) (Stp.fop (fx := (some 0)) (fy := (Fv.V y)) rfl rfl rfl (show Fv.Is .f64 0 (some 0) from ⟨rfl, by decide +kernel⟩) hq71 (by decide)) (fun _ => (ulC (ulC (ulC (ulC (ulC ulN)))))) (fun xq74 hq75 => ?_)
 refine GH.one 6 rfl (by kernel_rfl) (Stp.fop (fx := (Fv.op .mul .f64 (some 0) (Fv.V x))) (fy := (Fv.op .mul .f64 (some 0) (Fv.V y))) rfl rfl rfl hq69 hq75 (by decide)) (fun _ => (ulC (ulC (ulC (ulC (ulC ulN)))))) (fun xq78 hq79 => ?_)
 refine GH.done (by kernel_rfl) ?_
 refine GE.thenN ?_
 refine GE.tail rfl (Ex.wp (v := (.float .f64 xq78)) (Ex.assign rfl) (by decide)) (fun _ _ => ?_)
 refine GE.thenN (GC.seq ?_)
 refine GC.drawP [⟨bq63, [(.float .f64 0), (.float .f64 0), (.float .f64 4607182418800017408)], 92, true⟩, ⟨bq33, [(.float .f64 0), (.float .f64 4607182418800017408), (.float .f64 0)], 92, true⟩, ⟨bq3, [(.float .f64 4607182418800017408), (.float .f64 0), (.float .f64 0)], 92, true⟩, ⟨bq1, [(.int .u32 ((Fv.T (Fv.op .add .f64 (Fv.op .add .f64 (Fv.op .mul .f64 (some 4607182418800017408) (Fv.V x)) (Fv.op .mul .f64 (some 0) (Fv.V y))) (Fv.op .mul .f64 (some 0) (Fv.V z)))))), (.int .u32 ((Fv.T (Fv.op .add .f64 (Fv.op .add .f64 (Fv.op .mul .f64 (some 0) (Fv.V x)) (Fv.op .mul .f64 (some 4607182418800017408) (Fv.V y))) (Fv.op .mul .f64 (some 0) (Fv.V z)))))), (.int .u32 0)], 94, true⟩, ⟨c0, [(.float .f64 4607182418800017408), (.float .f64 0), (.float .f64 0), (.float .f64 0), (.float .f64 4607182418800017408), (.float .f64 0), (.float .f64 0), (.float .f64 0), (.float .f64 4607182418800017408)], 93, false⟩] T.mixed (by kernel_rfl) (by kernel_rfl) (fuel := 7) rfl rfl ?_
 refine GH.tk 0 (v := (.float .f64 xq78)) rfl (by kernel_rfl) (fun _ _ _ h => h) (Ex.move rfl) (ulC (ulC (ulC (ulC (ulC ulN))))) (by decide) ?_
 refine GH.tk 1 (v := (.pointer (some ⟨bq63, 2, none⟩))) rfl (by kernel_rfl) (fun _ _ _ h => h) (Ex.cast (Ex.indexArr (m := 3) rfl rfl Try.underlying92 T.sz44 (by decide) (by decide)) rfl) (ulC (ulC (ulC (ulC (ulC ulN))))) (by decide) ?_
 refine GH.tk 2 (v := (.float .f64 4607182418800017408)) rfl (by kernel_rfl) (fun _ _ _ h => h) (Ex.load rfl T.ag44 (i := 0) rfl rfl) (ulC (ulC (ulC (ulC (ulC ulN))))) (by decide) ?_
 refine GH.tk 3 (v := (.int .u32 z)) rfl (by kernel_rfl) (fun _ _ _ h => h) (Ex.move rfl) (ulC (ulC (ulC (ulC (ulC ulN))))) (by decide) ?_
 refine GH.one 4 rfl (by kernel_rfl) (Stp.callR (vs := [(.int .u32 z)]) rfl rfl T.own48 (by decide) (fun wc hw => value_m z wc)) (fun _ => (ulC (ulC (ulC (ulC (ulC ulN)))))) (fun xq80 hq81 => ?_)
 refine GH.one 5 rfl (by kernel_rfl) (Stp.fop (fx := (some 4607182418800017408)) (fy := (Fv.V z)) rfl rfl rfl (show Fv.Is .f64 4607182418800017408 (some 4607182418800017408) from ⟨rfl, by decide +kernel⟩) hq81 (by decide)) (fun _ => (ulC (ulC (ulC (ulC (ulC ulN)))))) (fun xq84 hq85 => ?_)
 refine GH.one 6 rfl (by kernel_rfl) (Stp.fop (fx := (Fv.op .add .f64 (Fv.op .mul .f64 (some 0) (Fv.V x)) (Fv.op .mul .f64 (some 0) (Fv.V y)))) (fy := (Fv.op .mul .f64 (some 4607182418800017408) (Fv.V z))) rfl rfl rfl hq79 hq85 (by decide)) (fun _ => (ulC (ulC (ulC (ulC (ulC ulN)))))) (fun xq88 hq89 => ?_)
 refine GH.done (by kernel_rfl) ?_
 refine GE.thenN ?_
 refine GE.tail rfl (Ex.wp (v := (.float .f64 xq88)) (Ex.assign rfl) (by decide)) (fun _ _ => ?_)
 refine GE.thenN (GC.region ?_)
 refine GL.mv rfl (by decide) ?_
 refine GL.mv rfl (by decide) ?_
 refine GL.step (Stp.callR (vs := [(.float .f64 xq88)]) rfl rfl T.own50 (by decide) (fun wc hw => told_m xq88 (Fv.op .add .f64 (Fv.op .add .f64 (Fv.op .mul .f64 (some 0) (Fv.V x)) (Fv.op .mul .f64 (some 0) (Fv.V y))) (Fv.op .mul .f64 (some 4607182418800017408) (Fv.V z))) wc hq89 (Kp.holds3 hx hy hz))) (fun xq90 hq91 => ?_)
 refine GL.val (v := (.pointer (some ⟨bq1, 2, none⟩))) (Ex.cast (Ex.indexArr (m := 3) rfl rfl Try.underlying94 T.sz28 (by decide) (by decide)) rfl) (by decide) ?_
 refine GL.step (Stp.st3 (cs' := [(.int .u32 ((Fv.T (Fv.op .add .f64 (Fv.op .add .f64 (Fv.op .mul .f64 (some 4607182418800017408) (Fv.V x)) (Fv.op .mul .f64 (some 0) (Fv.V y))) (Fv.op .mul .f64 (some 0) (Fv.V z)))))), (.int .u32 ((Fv.T (Fv.op .add .f64 (Fv.op .add .f64 (Fv.op .mul .f64 (some 0) (Fv.V x)) (Fv.op .mul .f64 (some 4607182418800017408) (Fv.V y))) (Fv.op .mul .f64 (some 0) (Fv.V z)))))), (.int .u32 ((Fv.T (Fv.op .add .f64 (Fv.op .add .f64 (Fv.op .mul .f64 (some 0) (Fv.V x)) (Fv.op .mul .f64 (some 0) (Fv.V y))) (Fv.op .mul .f64 (some 4607182418800017408) (Fv.V z))))))]) rfl rfl rfl T.sz28 rfl rfl rfl) (fun _ _ => ?_)
 refine GL.nil (GE.blockN (GE.thenN (GC.region ?_)))
 refine GL.val (v := (.int .i64 3)) (Ex.add rfl rfl (Z := 3) (by decide)) (by decide) ?_
 refine GL.mv rfl (by decide) ?_
 refine GL.nil (GE.thenN (GE.round (GC.seq (GC.region ?_))))
 refine GL.val (v := (.bool false)) (Ex.cast (Ex.lss rfl rfl) rfl) (by decide) ?_
 refine GL.nil (GE.thenN (GC.seq ?_))
 refine GC.cond rfl (fun hq92 => by cases hq92) (fun _ => ?_)
 refine GC.exit (GE.thenE (GE.thenE (GE.blockE (GE.thenN (GC.seq ?_)))))
 refine GC.drawP [⟨bq63, [(.float .f64 0), (.float .f64 0), (.float .f64 4607182418800017408)], 92, true⟩, ⟨bq33, [(.float .f64 0), (.float .f64 4607182418800017408), (.float .f64 0)], 92, true⟩, ⟨bq3, [(.float .f64 4607182418800017408), (.float .f64 0), (.float .f64 0)], 92, true⟩, ⟨bq1, [(.int .u32 ((Fv.T (Fv.op .add .f64 (Fv.op .add .f64 (Fv.op .mul .f64 (some 4607182418800017408) (Fv.V x)) (Fv.op .mul .f64 (some 0) (Fv.V y))) (Fv.op .mul .f64 (some 0) (Fv.V z)))))), (.int .u32 ((Fv.T (Fv.op .add .f64 (Fv.op .add .f64 (Fv.op .mul .f64 (some 0) (Fv.V x)) (Fv.op .mul .f64 (some 4607182418800017408) (Fv.V y))) (Fv.op .mul .f64 (some 0) (Fv.V z)))))), (.int .u32 ((Fv.T (Fv.op .add .f64 (Fv.op .add .f64 (Fv.op .mul .f64 (some 0) (Fv.V x)) (Fv.op .mul .f64 (some 0) (Fv.V y))) (Fv.op .mul .f64 (some 4607182418800017408) (Fv.V z))))))], 94, true⟩, ⟨c0, [(.float .f64 4607182418800017408), (.float .f64 0), (.float .f64 0), (.float .f64 0), (.float .f64 4607182418800017408), (.float .f64 0), (.float .f64 0), (.float .f64 0), (.float .f64 4607182418800017408)], 93, false⟩] T.mixed (by kernel_rfl) (by kernel_rfl) (fuel := 8) rfl rfl ?_
 refine GH.tk 0 (v := (.pointer (some ⟨bq1, 0, none⟩))) rfl (by kernel_rfl) (fun _ _ _ h => h) (Ex.cast (Ex.indexArr (m := 3) rfl rfl Try.underlying94 T.sz28 (by decide) (by decide)) rfl) (ulC (ulC (ulC (ulC (ulC ulN))))) (by decide) ?_
 refine GH.tk 1 (v := (.int .u32 ((Fv.T (Fv.op .add .f64 (Fv.op .add .f64 (Fv.op .mul .f64 (some 4607182418800017408) (Fv.V x)) (Fv.op .mul .f64 (some 0) (Fv.V y))) (Fv.op .mul .f64 (some 0) (Fv.V z))))))) rfl (by kernel_rfl) (fun _ _ _ h => h) (Ex.load rfl T.ag28 (i := 3) rfl rfl) (ulC (ulC (ulC (ulC (ulC ulN))))) (by decide) ?_
 refine GH.tk 2 (v := (.pointer (some ⟨bq1, 1, none⟩))) rfl (by kernel_rfl) (fun _ _ _ h => h) (Ex.cast (Ex.indexArr (m := 3) rfl rfl Try.underlying94 T.sz28 (by decide) (by decide)) rfl) (ulC (ulC (ulC (ulC (ulC ulN))))) (by decide) ?_
 refine GH.tk 3 (v := (.int .u32 ((Fv.T (Fv.op .add .f64 (Fv.op .add .f64 (Fv.op .mul .f64 (some 0) (Fv.V x)) (Fv.op .mul .f64 (some 4607182418800017408) (Fv.V y))) (Fv.op .mul .f64 (some 0) (Fv.V z))))))) rfl (by kernel_rfl) (fun _ _ _ h => h) (Ex.load rfl T.ag28 (i := 3) rfl rfl) (ulC (ulC (ulC (ulC (ulC ulN))))) (by decide) ?_
 refine GH.tk 4 (v := (.pointer (some ⟨bq1, 2, none⟩))) rfl (by kernel_rfl) (fun _ _ _ h => h) (Ex.cast (Ex.indexArr (m := 3) rfl rfl Try.underlying94 T.sz28 (by decide) (by decide)) rfl) (ulC (ulC (ulC (ulC (ulC ulN))))) (by decide) ?_
 refine GH.tk 5 (v := (.int .u32 ((Fv.T (Fv.op .add .f64 (Fv.op .add .f64 (Fv.op .mul .f64 (some 0) (Fv.V x)) (Fv.op .mul .f64 (some 0) (Fv.V y))) (Fv.op .mul .f64 (some 4607182418800017408) (Fv.V z))))))) rfl (by kernel_rfl) (fun _ _ _ h => h) (Ex.load rfl T.ag28 (i := 3) rfl rfl) (ulC (ulC (ulC (ulC (ulC ulN))))) (by decide) ?_
 refine GH.tk 6 (v := (.int .u32 ((Fv.T (Fv.op .add .f64 (Fv.op .add .f64 (Fv.op .mul .f64 (some 4607182418800017408) (Fv.V x)) (Fv.op .mul .f64 (some 0) (Fv.V y))) (Fv.op .mul .f64 (some 0) (Fv.V z))))))) rfl (by kernel_rfl) (fun _ _ _ h => h) (Ex.assign rfl) (ulC (ulC (ulC (ulC (ulC ulN))))) (by decide) ?_
 refine GH.tk 7 (v := (.int .u32 ((Fv.T (Fv.op .add .f64 (Fv.op .add .f64 (Fv.op .mul .f64 (some 0) (Fv.V x)) (Fv.op .mul .f64 (some 4607182418800017408) (Fv.V y))) (Fv.op .mul .f64 (some 0) (Fv.V z))))))) rfl (by kernel_rfl) (fun _ _ _ h => h) (Ex.assign rfl) (ulC (ulC (ulC (ulC (ulC ulN))))) (by decide) ?_
 refine GH.done (by kernel_rfl) ?_
 refine GE.thenN ?_
 refine GE.tail rfl (Ex.wp (v := (.int .u32 ((Fv.T (Fv.op .add .f64 (Fv.op .add .f64 (Fv.op .mul .f64 (some 0) (Fv.V x)) (Fv.op .mul .f64 (some 0) (Fv.V y))) (Fv.op .mul .f64 (some 4607182418800017408) (Fv.V z))))))) (Ex.assign rfl) (by decide)) (fun _ _ => ?_)
 refine GE.thenN (GC.ret ?_)
 refine GC.ret3 rfl (Rv.tmp rfl) (Rv.tmp rfl) (Rv.tmp rfl) (fun wN HN => ?_)
 exact HN.ret () trivial rfl (List.nil_sublist _) rfl

theorem matrix_id (sp : Int) (b o n cap : Nat) (ps : List Pn) (W H : Nat) (A : Nat) (f : Int → Int → Int → Int × Int × Int) (w : World) (hps : Pns w b o ps) (hn : n = ps.length) (hok : OkPic sp ps W H) (hA : A = W * H) (hn3 : 3 ≤ n) (hm : ∀ (bR : Nat) (w' : World), Has w' [⟨bR, [(.float .f64 4607182418800017408), (.float .f64 0), (.float .f64 0), (.float .f64 0), (.float .f64 4607182418800017408), (.float .f64 0), (.float .f64 0), (.float .f64 0), (.float .f64 4607182418800017408)], 93, false⟩] → ∀ x ∈ (pAt ps 0).xs, ∀ y ∈ (pAt ps 1).xs, ∀ z ∈ (pAt ps 2).xs, Calls Try.prog 49 #[.int .u32 x, .int .u32 y, .int .u32 z, .pointer (some ⟨bR, 0, none⟩)] w' (Ret w' (fun _ : Unit => True) (fun _ => .tuple #[.int .u32 (f x y z).1, .int .u32 (f x y z).2.1, .int .u32 (f x y z).2.2]) (fun _ => []))) :
  Calls Try.prog 14 #[(.agg #[(.int .i64 sp), (.slice (some ⟨b, o, none⟩) n cap)]), (.agg #[(.int .u32 1065353216), (.int .u32 0), (.int .u32 0), (.int .u32 0), (.int .u32 1065353216), (.int .u32 0), (.int .u32 0), (.int .u32 0), (.int .u32 1065353216)])] w (Ret w (fun r : Ac => r.qs ≠ [] ∧ r.ds = ((List.range n).map (trD f ps A)) ∧ r.Ok ∧ ∀ q ∈ r.qs, q.Ok) (fun r => .tuple #[(.agg #[(.int .i64 sp), (.slice r.ad r.n r.cp)]), .int .i64 0]) (fun r => r.blks 43 28)) := by
 refine enter (M := None) (L := []) (n := 40) (l := [(0, (.agg #[(.int .i64 sp), (.slice (some ⟨b, o, none⟩) n cap)])), (1, (.agg #[(.int .u32 1065353216), (.int .u32 0), (.int .u32 0), (.int .u32 0), (.int .u32 1065353216), (.int .u32 0), (.int .u32 0), (.int .u32 0), (.int .u32 1065353216)]))]) Try.func14 rfl rfl (Args.cons rfl (Args.cons rfl (Args.nil _))) (Hp.start _ _) ?_
 refine GC.seq (GC.region ?_)
 refine GL.step (Stp.box (cs := [(.int .i64 sp), (.slice (some ⟨b, o, none⟩) n cap)]) rfl rfl (by decide)) (fun bq1 _ => ?_)
 refine GL.step (Stp.box (cs := [(.int .u32 1065353216), (.int .u32 0), (.int .u32 0), (.int .u32 0), (.int .u32 1065353216), (.int .u32 0), (.int .u32 0), (.int .u32 0), (.int .u32 1065353216)]) rfl rfl (by decide)) (fun bq2 _ => ?_)
 refine GL.step (Stp.alloc T.zr25 (by decide)) (fun bq3 _ => ?_)
 refine GL.sg rfl (by decide) ?_
 refine GL.nil (GE.thenN (GC.seq (GC.seq (GC.region ?_))))
 refine GL.val (v := (.agg #[(.int .i64 sp), (.slice (some ⟨b, o, none⟩) n cap)])) (Ex.loadA rfl T.ag25 T.sz25 (i := 2) rfl (vs := [(.int .i64 sp), (.slice (some ⟨b, o, none⟩) n cap)]) rfl rfl) (by decide) ?_
 refine GL.step (Stp.callR (σ := Unit) (p := fun rz => True) (v := fun rz => (.int .i64 0)) (N := fun rz => []) (vs := [(.agg #[(.int .i64 sp), (.slice (some ⟨b, o, none⟩) n cap)])]) rfl rfl T.own9 (by decide) (fun wc hw => (by have h := chk_p sp b o n cap ps wc (hps.later hw.1) hn (by have := hok.n4; omega); rw [hok.chk] at h; exact h))) (fun xq4 hq5 => ?_)
 refine GL.sg rfl (by decide) ?_
 refine GL.nil (GE.thenN (GC.seq (GC.region ?_)))
 refine GL.mv rfl (by decide) ?_
 refine GL.val (v := (.bool false)) (Ex.cast (Ex.neq rfl rfl) rfl) (by decide) ?_
 refine GL.nil (GE.thenN ?_)
 refine GC.cond rfl (fun hq6 => by cases hq6) (fun _ => ?_)
 refine GC.skip (GE.thenN (GC.seq (GC.seq (GC.region ?_))))
 refine GL.val (v := (.pointer (some ⟨bq1, 1, none⟩))) (Ex.cast (Ex.fieldAddr rfl Try.underlying25 rfl T.sz23 (by decide)) rfl) (by decide) ?_
 refine GL.val (Ex.load rfl T.ag23 (i := 2) rfl rfl) (by decide) ?_
 refine GL.val (v := (.int .i64 ((n : Int)))) (Ex.len rfl Try.underlying23) (by decide) ?_
 refine GL.val (v := (.bool false)) (Ex.cast (Ex.lss rfl rfl) (congrArg Value.bool (decide_eq_false (by omega)))) (by decide) ?_
 refine GL.nil (GE.thenN ?_)
 refine GC.cond rfl (fun hq7 => by cases hq7) (fun _ => ?_)
 refine GC.skip (GE.thenN (GC.seq (GC.region ?_)))
 refine GL.step (Stp.alloc T.zr93 (by decide)) (fun bq8 _ => ?_)
 refine GL.nil (GE.thenN (GC.seq (GC.seq (GC.region ?_))))
 refine GL.val (v := (.agg #[(.int .u32 1065353216), (.int .u32 0), (.int .u32 0), (.int .u32 0), (.int .u32 1065353216), (.int .u32 0), (.int .u32 0), (.int .u32 0), (.int .u32 1065353216)])) (Ex.loadA rfl T.ag29 T.sz29 (i := 2) rfl (vs := [(.int .u32 1065353216), (.int .u32 0), (.int .u32 0), (.int .u32 0), (.int .u32 1065353216), (.int .u32 0), (.int .u32 0), (.int .u32 0), (.int .u32 1065353216)]) rfl rfl) (by decide) ?_
 refine GL.mv rfl (by decide) ?_
 refine GL.nil (GE.thenN (GC.block ?_))
 refine GC.unroll 10 ?_
 refine GE.round (GC.seq (GC.region ?_))
 refine GL.val (v := (.bool true)) (Ex.cast (Ex.lss rfl rfl) rfl) (by decide) ?_
 refine GL.nil (GE.thenN (GC.seq ?_))
 refine GC.cond rfl (fun _ => ?_) (fun hq9 => by cases hq9)
 refine GC.skip (GE.thenN (GC.seq (GC.block (GC.seq (GC.region ?_)))))
 refine GL.mv rfl (by decide) ?_
 refine GL.val (v := (.int .u32 1065353216)) (Ex.index1 rfl rfl Try.underlying29 T.sz28 T.ag28 (by decide) (by decide) rfl) (by decide) ?_
 refine GL.sg rfl (by decide) ?_
 refine GL.sg rfl (by decide) ?_
 refine GL.nil (GE.thenN ?_)
 refine GC.draw [⟨bq3, [(.int .i64 0), (.slice none 0 0)], 25, true⟩, ⟨bq2, [(.int .u32 1065353216), (.int .u32 0), (.int .u32 0), (.int .u32 0), (.int .u32 1065353216), (.int .u32 0), (.int .u32 0), (.int .u32 0), (.int .u32 1065353216)], 29, true⟩, ⟨bq1, [(.int .i64 sp), (.slice (some ⟨b, o, none⟩) n cap)], 25, true⟩] T.mixed (fuel := 9) rfl rfl ?_
 refine GH.tk 0 (v := (.int .i64 0)) rfl (by kernel_rfl) (fun _ _ _ h => h) (Ex.move rfl) (ulS (ulC (ulC (ulC ulN)))) (by decide) ?_
 refine GH.tk 1 (v := (.int .i64 0)) rfl (by kernel_rfl) (fun _ _ _ h => h) (Ex.quo rfl rfl (Z := 0) (by decide) (by decide)) (ulS (ulC (ulC (ulC ulN)))) (by decide) ?_
 refine GH.tk 2 (v := (.int .i64 0)) rfl (by kernel_rfl) (fun _ _ _ h => h) (Ex.move rfl) (ulS (ulC (ulC (ulC ulN)))) (by decide) ?_
 refine GH.tk 3 (v := (.int .i64 0)) rfl (by kernel_rfl) (fun _ _ _ h => h) (Ex.rem rfl rfl (Z := 0) (by decide) (by decide)) (ulS (ulC (ulC (ulC ulN)))) (by decide) ?_
 refine GH.tk 4 (v := (.int .u32 1065353216)) rfl (by kernel_rfl) (fun _ _ _ h => h) (Ex.move rfl) (ulS (ulC (ulC (ulC ulN)))) (by decide) ?_
 refine GH.tk 6 (v := (.pointer (some ⟨bq8, 0, none⟩))) rfl (by kernel_rfl) (fun _ _ _ h => h) (Ex.cast (Ex.indexArr (m := 3) rfl rfl Try.underlying93 T.sz92 (by decide) (by decide)) rfl) (ulS (ulC (ulC (ulC ulN)))) (by decide) ?_
 refine GH.one 5 rfl (by kernel_rfl) (Stp.callR (vs := [(.int .u32 1065353216)]) rfl rfl T.own48 (by decide) (fun wc hw => q48_2  wc )) (fun _ => (ulS (ulC (ulC (ulC ulN))))) (fun xq10 hq11 => ?_)
 refine GH.tk 7 (v := (.pointer (some ⟨bq8, 0, none⟩))) rfl (by kernel_rfl) (fun _ _ _ h => h) (Ex.cast (Ex.indexArr (m := 3) rfl rfl Try.underlying92 T.sz44 (by decide) (by decide)) rfl) (ulS (ulC (ulC (ulC ulN)))) (by decide) ?_
 refine GH.one 8 rfl (by kernel_rfl) (Stp.st0 (cs' := [(.float .f64 4607182418800017408), (.float .f64 0), (.float .f64 0), (.float .f64 0), (.float .f64 0), (.float .f64 0), (.float .f64 0), (.float .f64 0), (.float .f64 0)]) rfl rfl rfl T.sz44 rfl rfl rfl) (fun _ => (ulS (ulC (ulC (ulC ulN))))) (fun _ _ => ?_)
 refine GH.done (by kernel_rfl) ?_
 refine GE.blockN (GE.thenN (GC.region ?_))
 refine GL.val (v := (.int .i64 1)) (Ex.add rfl rfl (Z := 1) (by decide)) (by decide) ?_
 refine GL.mv rfl (by decide) ?_
 refine GL.nil (GE.thenN (GE.round (GC.seq (GC.region ?_))))
 refine GL.val (v := (.bool true)) (Ex.cast (Ex.lss rfl rfl) rfl) (by decide) ?_
 refine GL.nil (GE.thenN (GC.seq ?_))
 refine GC.cond rfl (fun _ => ?_) (fun hq12 => by cases hq12)
 refine GC.skip (GE.thenN (GC.seq (GC.block (GC.seq (GC.region ?_)))))
 refine GL.mv rfl (by decide) ?_
 refine GL.val (v := (.int .u32 0)) (Ex.index1 rfl rfl Try.underlying29 T.sz28 T.ag28 (by decide) (by decide) rfl) (by decide) ?_
 refine GL.sg rfl (by decide) ?_
 refine GL.sg rfl (by decide) ?_
 refine GL.nil (GE.thenN ?_)
 refine GC.draw [⟨bq3, [(.int .i64 0), (.slice none 0 0)], 25, true⟩, ⟨bq2, [(.int .u32 1065353216), (.int .u32 0), (.int .u32 0), (.int .u32 0), (.int .u32 1065353216), (.int .u32 0), (.int .u32 0), (.int .u32 0), (.int .u32 1065353216)], 29, true⟩, ⟨bq1, [(.int .i64 sp), (.slice (some ⟨b, o, none⟩) n cap)], 25, true⟩] T.mixed (fuel := 9) rfl rfl ?_
 refine GH.tk 0 (v := (.int .i64 1)) rfl (by kernel_rfl) (fun _ _ _ h => h) (Ex.move rfl) (ulS (ulC (ulC (ulC ulN)))) (by decide) ?_
 refine GH.tk 1 (v := (.int .i64 0)) rfl (by kernel_rfl) (fun _ _ _ h => h) (Ex.quo rfl rfl (Z := 0) (by decide) (by decide)) (ulS (ulC (ulC (ulC ulN)))) (by decide) ?_
 refine GH.tk 2 (v := (.int .i64 1)) rfl (by kernel_rfl) (fun _ _ _ h => h) (Ex.move rfl) (ulS (ulC (ulC (ulC ulN)))) (by decide) ?_
 refine GH.tk 3 (v := (.int .i64 1)) rfl (by kernel_rfl) (fun _ _ _ h => h) (Ex.rem rfl rfl (Z := 1) (by decide) (by decide)) (ulS (ulC (ulC (ulC ulN)))) (by decide) ?_
 refine GH.tk 4 (v := (.int .u32 0)) rfl (by kernel_rfl) (fun _ _ _ h => h) (Ex.move rfl) (ulS (ulC (ulC (ulC ulN)))) (by decide) ?_
 refine GH.tk 6 (v := (.pointer (some ⟨bq8, 0, none⟩))) rfl (by kernel_rfl) (fun _ _ _ h => h) (Ex.cast (Ex.indexArr (m := 3) rfl rfl Try.underlying93 T.sz92 (by decide) (by decide)) rfl) (ulS (ulC (ulC (ulC ulN)))) (by decide) ?_
 refine GH.one 5 rfl (by kernel_rfl) (Stp.callR (vs := [(.int .u32 0)]) rfl rfl T.own48 (by decide) (fun wc hw => q48_1  wc )) (fun _ => (ulS (ulC (ulC (ulC ulN))))) (fun xq13 hq14 => ?_)
 refine GH.tk 7 (v := (.pointer (some ⟨bq8, 1, none⟩))) rfl (by kernel_rfl) (fun _ _ _ h => h) (Ex.cast (Ex.indexArr (m := 3) rfl rfl Try.underlying92 T.sz44 (by decide) (by decide)) rfl) (ulS (ulC (ulC (ulC ulN)))) (by decide) ?_
 refine GH.one 8 rfl (by kernel_rfl) (Stp.st0 (cs' := [(.float .f64 4607182418800017408), (.float .f64 0), (.float .f64 0), (.float .f64 0), (.float .f64 0), (.float .f64 0), (.float .f64 0), (.float .f64 0), (.float .f64 0)]) rfl rfl rfl T.sz44 rfl rfl rfl) (fun _ => (ulS (ulC (ulC (ulC ulN))))) (fun _ _ => ?_)
 refine GH.done (by kernel_rfl) ?_
 refine GE.blockN (GE.thenN (GC.region ?_))
 refine GL.val (v := (.int .i64 2)) (Ex.add rfl rfl (Z := 2) (by decide)) (by decide) ?_
 refine GL.mv rfl (by decide) ?_
 refine GL.nil (GE.thenN (GE.round (GC.seq (GC.region ?_))))
 refine GL.val (v := (.bool true)) (Ex.cast (Ex.lss rfl rfl) rfl) (by decide) ?_
 refine GL.nil (GE.thenN (GC.seq ?_))
 refine GC.cond rfl (fun _ => ?_) (fun hq15 => by cases hq15)
 refine GC.skip (GE.thenN (GC.seq (GC.block (GC.seq (GC.region ?_)))))
 refine GL.mv rfl (by decide) ?_
 refine GL.val (v := (.int .u32 0)) (Ex.index1 rfl rfl Try.underlying29 T.sz28 T.ag28 (by decide) (by decide) rfl) (by decide) ?_
 refine GL.sg rfl (by decide) ?_
 refine GL.sg rfl (by decide) ?_
 refine GL.nil (GE.thenN ?_)
 refine GC.draw [⟨bq3, [(.int .i64 0), (.slice none 0 0)], 25, true⟩, ⟨bq2, [(.int .u32 1065353216), (.int .u32 0), (.int .u32 0), (.int .u32 0), (.int .u32 1065353216), (.int .u32 0), (.int .u32 0), (.int .u32 0), (.int .u32 1065353216)], 29, true⟩, ⟨bq1, [(.int .i64 sp), (.slice (some ⟨b, o, none⟩) n cap)], 25, true⟩] T.mixed (fuel := 9) rfl rfl ?_
 refine GH.tk 0 (v := (.int .i64 2)) rfl (by kernel_rfl) (fun _ _ _ h => h) (Ex.move rfl) (ulS (ulC (ulC (ulC ulN)))) (by decide) ?_
 refine GH.tk 1 (v := (.int .i64 0)) rfl (by kernel_rfl) (fun _ _ _ h => h) (Ex.quo rfl rfl (Z := 0) (by decide) (by decide)) (ulS (ulC (ulC (ulC ulN)))) (by decide) ?_
 refine GH.tk 2 (v := (.int .i64 2)) rfl (by kernel_rfl) (fun _ _ _ h => h) (Ex.move rfl) (ulS (ulC (ulC (ulC ulN)))) (by decide) ?_
 refine GH.tk 3 (v := (.int .i64 2)) rfl (by kernel_rfl) (fun _ _ _ h => h) (Ex.rem rfl rfl (Z := 2) (by decide) (by decide)) (ulS (ulC (ulC (ulC ulN)))) (by decide) ?_
 refine GH.tk 4 (v := (.int .u32 0)) rfl (by kernel_rfl) (fun _ _ _ h => h) (Ex.move rfl) (ulS (ulC (ulC (ulC ulN)))) (by decide) ?_
 refine GH.tk 6 (v := (.pointer (some ⟨bq8, 0, none⟩))) rfl (by kernel_rfl) (fun _ _ _ h => h) (Ex.cast (Ex.indexArr (m := 3) rfl rfl Try.underlying93 T.sz92 (by decide) (by decide)) rfl) (ulS (ulC (ulC (ulC ulN)))) (by decide) ?_
 refine GH.one 5 rfl (by kernel_rfl) (Stp.callR (vs := [(.int .u32 0)]) rfl rfl T.own48 (by decide) (fun wc hw => q48_1  wc )) (fun _ => (ulS (ulC (ulC (ulC ulN))))) (fun xq16 hq17 => ?_)
 refine GH.tk 7 (v := (.pointer (some ⟨bq8, 2, none⟩))) rfl (by kernel_rfl) (fun _ _ _ h => h) (Ex.cast (Ex.indexArr (m := 3) rfl rfl Try.underlying92 T.sz44 (by decide) (by decide)) rfl) (ulS (ulC (ulC (ulC ulN)))) (by decide) ?_
 refine GH.one 8 rfl (by kernel_rfl) (Stp.st0 (cs' := [(.float .f64 4607182418800017408), (.float .f64 0), (.float .f64 0), (.float .f64 0), (.float .f64 0), (.float .f64 0), (.float .f64 0), (.float .f64 0), (.float .f64 0)]) rfl rfl rfl T.sz44 rfl rfl rfl) (fun _ => (ulS (ulC (ulC (ulC ulN))))) (fun _ _ => ?_)
 refine GH.done (by kernel_rfl) ?_
 refine GE.blockN (GE.thenN (GC.region ?_))
 refine GL.val (v := (.int .i64 3)) (Ex.add rfl rfl (Z := 3) (by decide)) (by decide) ?_
 refine GL.mv rfl (by decide) ?_
 refine GL.nil (GE.thenN (GE.round (GC.seq (GC.region ?_))))
 refine GL.val (v := (.bool true)) (Ex.cast (Ex.lss rfl rfl) rfl) (by decide) ?_
 refine GL.nil (GE.thenN (GC.seq ?_))
 refine GC.cond rfl (fun _ => ?_) (fun hq18 => by cases hq18)
 refine GC.skip (GE.thenN (GC.seq (GC.block (GC.seq (GC.region ?_)))))
 refine GL.mv rfl (by decide) ?_
 refine GL.val (v := (.int .u32 0)) (Ex.index1 rfl rfl Try.underlying29 T.sz28 T.ag28 (by decide) (by decide) rfl) (by decide) ?_
 refine GL.sg rfl (by decide) ?_
 refine GL.sg rfl (by decide) ?_
 refine GL.nil (GE.thenN ?_)
 refine GC.draw [⟨bq3, [(.int .i64 0), (.slice none 0 0)], 25, true⟩, ⟨bq2, [(.int .u32 1065353216), (.int .u32 0), (.int .u32 0), (.int .u32 0), (.int .u32 1065353216), (.int .u32 0), (.int .u32 0), (.int .u32 0), (.int .u32 1065353216)], 29, true⟩, ⟨bq1, [(.int .i64 sp), (.slice (some ⟨b, o, none⟩) n cap)], 25, true⟩] T.mixed (fuel := 9) rfl rfl ?_
 refine GH.tk 0 (v := (.int .i64 3)) rfl (by kernel_rfl) (fun _ _ _ h => h) (Ex.move rfl) (ulS (ulC (ulC (ulC ulN)))) (by decide) ?_
 refine GH.tk 1 (v := (.int .i64 1)) rfl (by kernel_rfl) (fun _ _ _ h => h) (Ex.quo rfl rfl (Z := 1) (by decide) (by decide)) (ulS (ulC (ulC (ulC ulN)))) (by decide) ?_
 refine GH.tk 2 (v := (.int .i64 3)) rfl (by kernel_rfl) (fun _ _ _ h => h) (Ex.move rfl) (ulS (ulC (ulC (ulC ulN)))) (by decide) ?_
 refine GH.tk 3 (v := (.int .i64 0)) rfl (by kernel_rfl) (fun _ _ _ h => h) (Ex.rem rfl rfl (Z := 0) (by decide) (by decide)) (ulS (ulC (ulC (ulC ulN)))) (by decide) ?_
 refine GH.tk 4 (v := (.int .u32 0)) rfl (by kernel_rfl) (fun _ _ _ h => h) (Ex.move rfl) (ulS (ulC (ulC (ulC ulN)))) (by decide) ?_
 refine GH.tk 6 (v := (.pointer (some ⟨bq8, 3, none⟩))) rfl (by kernel_rfl) (fun _ _ _ h => h) (Ex.cast (Ex.indexArr (m := 3) rfl rfl Try.underlying93 T.sz92 (by decide) (by decide)) rfl) (ulS (ulC (ulC (ulC ulN)))) (by decide) ?_
 refine GH.one 5 rfl (by kernel_rfl) (Stp.callR (vs := [(.int .u32 0)]) rfl rfl T.own48 (by decide) (fun wc hw => q48_1  wc )) (fun _ => (ulS (ulC (ulC (ulC ulN))))) (fun xq19 hq20 => ?_)
 refine GH.tk 7 (v := (.pointer (some ⟨bq8, 3, none⟩))) rfl (by kernel_rfl) (fun _ _ _ h => h) (Ex.cast (Ex.indexArr (m := 3) rfl rfl Try.underlying92 T.sz44 (by decide) (by decide)) rfl) (ulS (ulC (ulC (ulC ulN)))) (by decide) ?_
 refine GH.one 8 rfl (by kernel_rfl) (Stp.st0 (cs' := [(.float .f64 4607182418800017408), (.float .f64 0), (.float .f64 0), (.float .f64 0), (.float .f64 0), (.float .f64 0), (.float .f64 0), (.float .f64 0), (.float .f64 0)]) rfl rfl rfl T.sz44 rfl rfl rfl) (fun _ => (ulS (ulC (ulC (ulC ulN))))) (fun _ _ => ?_)
 refine GH.done (by kernel_rfl) ?_
 refine GE.blockN (GE.thenN (GC.region ?_))
 refine GL.val (v := (.int .i64 4)) (Ex.add rfl rfl (Z := 4) (by decide)) (by decide) ?_
 refine GL.mv rfl (by decide) ?_
 refine GL.nil (GE.thenN (GE.round (GC.seq (GC.region ?_))))
 refine GL.val (v := (.bool true)) (Ex.cast (Ex.lss rfl rfl) rfl) (by decide) ?_
 refine GL.nil (GE.thenN (GC.seq ?_))
 refine GC.cond rfl (fun _ => ?_) (fun hq21 => by cases hq21)
 refine GC.skip (GE.thenN (GC.seq (GC.block (GC.seq (GC.region ?_)))))
 refine GL.mv rfl (by decide) ?_
 refine GL.val (v := (.int .u32 1065353216)) (Ex.index1 rfl rfl Try.underlying29 T.sz28 T.ag28 (by decide) (by decide) rfl) (by decide) ?_
 refine GL.sg rfl (by decide) ?_
 refine GL.sg rfl (by decide) ?_
 refine GL.nil (GE.thenN ?_)
 refine GC.draw [⟨bq3, [(.int .i64 0), (.slice none 0 0)], 25, true⟩, ⟨bq2, [(.int .u32 1065353216), (.int .u32 0), (.int .u32 0), (.int .u32 0), (.int .u32 1065353216), (.int .u32 0), (.int .u32 0), (.int .u32 0), (.int .u32 1065353216)], 29, true⟩, ⟨bq1, [(.int .i64 sp), (.slice (some ⟨b, o, none⟩) n cap)], 25, true⟩] T.mixed (fuel := 9) rfl rfl ?_
 refine GH.tk 0 (v := (.int .i64 4)) rfl (by kernel_rfl) (fun _ _ _ h => h) (Ex.move rfl) (ulS (ulC (ulC (ulC ulN)))) (by decide) ?_
 refine GH.tk 1 (v := (.int .i64 1)) rfl (by kernel_rfl) (fun _ _ _ h => h) (Ex.quo rfl rfl (Z := 1) (by decide) (by decide)) (ulS (ulC (ulC (ulC ulN)))) (by decide) ?_
 refine GH.tk 2 (v := (.int .i64 4)) rfl (by kernel_rfl) (fun _ _ _ h => h) (Ex.move rfl) (ulS (ulC (ulC (ulC ulN)))) (by decide) ?_
 refine GH.tk 3 (v := (.int .i64 1)) rfl (by kernel_rfl) (fun _ _ _ h => h) (Ex.rem rfl rfl (Z := 1) (by decide) (by decide)) (ulS (ulC (ulC (ulC ulN)))) (by decide) ?_
 refine GH.tk 4 (v := (.int .u32 1065353216)) rfl (by kernel_rfl) (fun _ _ _ h => h) (Ex.move rfl) (ulS (ulC (ulC (ulC ulN)))) (by decide) ?_
 refine GH.tk 6 (v := (.pointer (some ⟨bq8, 3, none⟩))) rfl (by kernel_rfl) (fun _ _ _ h => h) (Ex.cast (Ex.indexArr (m := 3) rfl rfl Try.underlying93 T.sz92 (by decide) (by decide)) rfl) (ulS (ulC (ulC (ulC ulN)))) (by decide) ?_
 refine GH.one 5 rfl (by kernel_rfl) (Stp.callR (vs := [(.int .u32 1065353216)]) rfl rfl T.own48 (by decide) (fun wc hw => q48_2  wc )) (fun _ => (ulS (ulC (ulC (ulC ulN))))) (fun xq22 hq23 => ?_)
 refine GH.tk 7 (v := (.pointer (some ⟨bq8, 4, none⟩))) rfl (by kernel_rfl) (fun _ _ _ h => h) (Ex.cast (Ex.indexArr (m := 3) rfl rfl Try.underlying92 T.sz44 (by decide) (by decide)) rfl) (ulS (ulC (ulC (ulC ulN)))) (by decide) ?_
 refine GH.one 8 rfl (by kernel_rfl) (Stp.st0 (cs' := [(.float .f64 4607182418800017408), (.float .f64 0), (.float .f64 0), (.float .f64 0), (.float .f64 4607182418800017408), (.float .f64 0), (.float .f64 0), (.float .f64 0), (.float .f64 0)]) rfl rfl rfl T.sz44 rfl rfl rfl) (fun _ => (ulS (ulC (ulC (ulC ulN))))) (fun _ _ => ?_)
 refine GH.done (by kernel_rfl) ?_
 refine GE.blockN (GE.thenN (GC.region ?_))
 refine GL.val (v := (.int .i64 5)) (Ex.add rfl rfl (Z := 5) (by decide)) (by decide) ?_
 refine GL.mv rfl (by decide) ?_
 refine GL.nil (GE.thenN (GE.round (GC.seq (GC.region ?_))))
 refine GL.val (v := (.bool true)) (Ex.cast (Ex.lss rfl rfl) rfl) (by decide) ?_
 refine GL.nil (GE.thenN (GC.seq ?_))
 refine GC.cond rfl (fun _ => ?_) (fun hq24 => by cases hq24)
 refine GC.skip (GE.thenN (GC.seq (GC.block (GC.seq (GC.region ?_)))))
 refine GL.mv rfl (by decide) ?_
 refine GL.val (v := (.int .u32 0)) (Ex.index1 rfl rfl Try.underlying29 T.sz28 T.ag28 (by decide) (by decide) rfl) (by decide) ?_
 refine GL.sg rfl (by decide) ?_
 refine GL.sg rfl (by decide) ?_
 refine GL.nil (GE.thenN ?_)
 refine GC.draw [⟨bq3, [(.int .i64 0), (.slice none 0 0)], 25, true⟩, ⟨bq2, [(.int .u32 1065353216), (.int .u32 0), (.int .u32 0), (.int .u32 0), (.int .u32 1065353216), (.int .u32 0), (.int .u32 0), (.int .u32 0), (.int .u32 1065353216)], 29, true⟩, ⟨bq1, [(.int .i64 sp), (.slice (some ⟨b, o, none⟩) n cap)], 25, true⟩] T.mixed (fuel := 9) rfl rfl ?_
 refine GH.tk 0 (v := (.int .i64 5)) rfl (by kernel_rfl) (fun _ _ _ h => h) (Ex.move rfl) (ulS (ulC (ulC (ulC ulN)))) (by decide) ?_
 refine GH.tk 1 (v := (.int .i64 1)) rfl (by kernel_rfl) (fun _ _ _ h => h) (Ex.quo rfl rfl (Z := 1) (by decide) (by decide)) (ulS (ulC (ulC (ulC ulN)))) (by decide) ?_
 refine GH.tk 2 (v := (.int .i64 5)) rfl (by kernel_rfl) (fun _ _ _ h => h) (Ex.move rfl) (ulS (ulC (ulC (ulC ulN)))) (by decide) ?_
 refine GH.tk 3 (v := (.int .i64 2)) rfl (by kernel_rfl) (fun _ _ _ h => h) (Ex.rem rfl rfl (Z := 2) (by decide) (by decide)) (ulS (ulC (ulC (ulC ulN)))) (by decide) ?_
 refine GH.tk 4 (v := (.int .u32 0)) rfl (by kernel_rfl) (fun _ _ _ h => h) (Ex.move rfl) (ulS (ulC (ulC (ulC ulN)))) (by decide) ?_
 refine GH.tk 6 (v := (.pointer (some ⟨bq8, 3, none⟩))) rfl (by kernel_rfl) (fun _ _ _ h => h) (Ex.cast (Ex.indexArr (m := 3) rfl rfl Try.underlying93 T.sz92 (by decide) (by decide)) rfl) (ulS (ulC (ulC (ulC ulN)))) (by decide) ?_
 refine GH.one 5 rfl (by kernel_rfl) (Stp.callR (vs := [(.int .u32 0)]) rfl rfl T.own48 (by decide) (fun wc hw => q48_1  wc )) (fun _ => (ulS (ulC (ulC (ulC ulN))))) (fun xq25 hq26 => ?_)
 refine GH.tk 7 (v := (.pointer (some ⟨bq8, 5, none⟩))) rfl (by kernel_rfl) (fun _ _ _ h => h) (Ex.cast (Ex.indexArr (m := 3) rfl rfl Try.underlying92 T.sz44 (by decide) (by decide)) rfl) (ulS (ulC (ulC (ulC ulN)))) (by decide) ?_
 refine GH.one 8 rfl (by kernel_rfl) (Stp.st0 (cs' := [(.float .f64 4607182418800017408), (.float .f64 0), (.float .f64 0), (.float .f64 0), (.float .f64 4607182418800017408), (.float .f64 0), (.float .f64 0), (.float .f64 0), (.float .f64 0)]) rfl rfl rfl T.sz44 rfl rfl rfl) (fun _ => (ulS (ulC (ulC (ulC ulN))))) (fun _ _ => ?_)
 refine GH.done (by kernel_rfl) ?_
 refine GE.blockN (GE.thenN (GC.region ?_))
 refine GL.val (v := (.int .i64 6)) (Ex.add rfl rfl (Z := 6) (by decide)) (by decide) ?_
 refine GL.mv rfl (by decide) ?_
 refine GL.nil (GE.thenN (GE.round (GC.seq (GC.region ?_))))
 refine GL.val (v := (.bool true)) (Ex.cast (Ex.lss rfl rfl) rfl) (by decide) ?_
 refine GL.nil (GE.thenN (GC.seq ?_))
 refine GC.cond rfl (fun _ => ?_) (fun hq27 => by cases hq27)
 refine GC.skip (GE.thenN (GC.seq (GC.block (GC.seq (GC.region ?_)))))
 refine GL.mv rfl (by decide) ?_
 refine GL.val (v := (.int .u32 0)) (Ex.index1 rfl rfl Try.underlying29 T.sz28 T.ag28 (by decide) (by decide) rfl) (by decide) ?_
 refine GL.sg rfl (by decide) ?_
 refine GL.sg rfl (by decide) ?_
 refine GL.nil (GE.thenN ?_)
 refine GC.draw [⟨bq3, [(.int .i64 0), (.slice none 0 0)], 25, true⟩, ⟨bq2, [(.int .u32 1065353216), (.int .u32 0), (.int .u32 0), (.int .u32 0), (.int .u32 1065353216), (.int .u32 0), (.int .u32 0), (.int .u32 0), (.int .u32 1065353216)], 29, true⟩, ⟨bq1, [(.int .i64 sp), (.slice (some ⟨b, o, none⟩) n cap)], 25, true⟩] T.mixed (fuel := 9) rfl rfl ?_
 refine GH.tk 0 (v := (.int .i64 6)) rfl (by kernel_rfl) (fun _ _ _ h => h) (Ex.move rfl) (ulS (ulC (ulC (ulC ulN)))) (by decide) ?_
 refine GH.tk 1 (v := (.int .i64 2)) rfl (by kernel_rfl) (fun _ _ _ h => h) (Ex.quo rfl rfl (Z := 2) (by decide) (by decide)) (ulS (ulC (ulC (ulC ulN)))) (by decide) ?_
 refine GH.tk 2 (v := (.int .i64 6)) rfl (by kernel_rfl) (fun _ _ _ h => h) (Ex.move rfl) (ulS (ulC (ulC (ulC ulN)))) (by decide) ?_
 refine GH.tk 3 (v := (.int .i64 0)) rfl (by kernel_rfl) (fun _ _ _ h => h) (Ex.rem rfl rfl (Z := 0) (by decide) (by decide)) (ulS (ulC (ulC (ulC ulN)))) (by decide) ?_
 refine GH.tk 4 (v := (.int .u32 0)) rfl (by kernel_rfl) (fun _ _ _ h => h) (Ex.move rfl) (ulS (ulC (ulC (ulC ulN)))) (by decide) ?_
 refine GH.tk 6 (v := (.pointer (some ⟨bq8, 6, none⟩))) rfl (by kernel_rfl) (fun _ _ _ h => h) (Ex.cast (Ex.indexArr (m := 3) rfl rfl Try.underlying93 T.sz92 (by decide) (by decide)) rfl) (ulS (ulC (ulC (ulC ulN)))) (by decide) ?_
 refine GH.one 5 rfl (by kernel_rfl) (Stp.callR (vs := [(.int .u32 0)]) rfl rfl T.own48 (by decide) (fun wc hw => q48_1  wc )) (fun _ => (ulS (ulC (ulC (ulC ulN))))) (fun xq28 hq29 => ?_)
 refine GH.tk 7 (v := (.pointer (some ⟨bq8, 6, none⟩))) rfl (by kernel_rfl) (fun _ _ _ h => h) (Ex.cast (Ex.indexArr (m := 3) rfl rfl Try.underlying92 T.sz44 (by decide) (by decide)) rfl) (ulS (ulC (ulC (ulC ulN)))) (by decide) ?_
 refine GH.one 8 rfl (by kernel_rfl) (Stp.st0 (cs' := [(.float .f64 4607182418800017408), (.float .f64 0), (.float .f64 0), (.float .f64 0), (.float .f64 4607182418800017408), (.float .f64 0), (.float .f64 0), (.float .f64 0), (.float .f64 0)]) rfl rfl rfl T.sz44 rfl rfl rfl) (fun _ => (ulS (ulC (ulC (ulC ulN))))) (fun _ _ => ?_)
 refine GH.done (by kernel_rfl) ?_
 refine GE.blockN (GE.thenN (GC.region ?_))
 refine GL.val (v := (.int .i64 7)) (Ex.add rfl rfl (Z := 7) (by decide)) (by decide) ?_
 refine GL.mv rfl (by decide) ?_
 refine GL.nil (GE.thenN (GE.round (GC.seq (GC.region ?_))))
 refine GL.val (v := (.bool true)) (Ex.cast (Ex.lss rfl rfl) rfl) (by decide) ?_
 refine GL.nil (GE.thenN (GC.seq ?_))
 refine GC.cond rfl (fun _ => ?_) (fun hq30 => by cases hq30)
 refine GC.skip (GE.thenN (GC.seq (GC.block (GC.seq (GC.region ?_)))))
 refine GL.mv rfl (by decide) ?_
 refine GL.val (v := (.int .u32 0)) (Ex.index1 rfl rfl Try.underlying29 T.sz28 T.ag28 (by decide) (by decide) rfl) (by decide) ?_
 refine GL.sg rfl (by decide) ?_
 refine GL.sg rfl (by decide) ?_
 refine GL.nil (GE.thenN ?_)
 refine GC.draw [⟨bq3, [(.int .i64 0), (.slice none 0 0)], 25, true⟩, ⟨bq2, [(.int .u32 1065353216), (.int .u32 0), (.int .u32 0), (.int .u32 0), (.int .u32 1065353216), (.int .u32 0), (.int .u32 0), (.int .u32 0), (.int .u32 1065353216)], 29, true⟩, ⟨bq1, [(.int .i64 sp), (.slice (some ⟨b, o, none⟩) n cap)], 25, true⟩] T.mixed (fuel := 9) rfl rfl ?_
 refine GH.tk 0 (v := (.int .i64 7)) rfl (by kernel_rfl) (fun _ _ _ h => h) (Ex.move rfl) (ulS (ulC (ulC (ulC ulN)))) (by decide) ?_
 refine GH.tk 1 (v := (.int .i64 2)) rfl (by kernel_rfl) (fun _ _ _ h => h) (Ex.quo rfl rfl (Z := 2) (by decide) (by decide)) (ulS (ulC (ulC (ulC ulN)))) (by decide) ?_
 refine GH.tk 2 (v := (.int .i64 7)) rfl (by kernel_rfl) (fun _ _ _ h => h) (Ex.move rfl) (ulS (ulC (ulC (ulC ulN)))) (by decide) ?_
 refine GH.tk 3 (v := (.int .i64 1)) rfl (by kernel_rfl) (fun _ _ _ h => h) (Ex.rem rfl rfl (Z := 1) (by decide) (by decide)) (ulS (ulC (ulC (ulC ulN)))) (by decide) ?_
 refine GH.tk 4 (v := (.int .u32 0)) rfl (by kernel_rfl) (fun _ _ _ h => h) (Ex.move rfl) (ulS (ulC (ulC (ulC ulN)))) (by decide) ?_
 refine GH.tk 6 (v := (.pointer (some ⟨bq8, 6, none⟩))) rfl (by kernel_rfl) (fun _ _ _ h => h) (Ex.cast (Ex.indexArr (m := 3) rfl rfl Try.underlying93 T.sz92 (by decide) (by decide)) rfl) (ulS (ulC (ulC (ulC ulN)))) (by decide) ?_
 refine GH.one 5 rfl (by kernel_rfl) (Stp.callR (vs := [(.int .u32 0)]) rfl rfl T.own48 (by decide) (fun wc hw => q48_1  wc )) (fun _ => (ulS (ulC (ulC (ulC ulN))))) (fun xq31 hq32 => ?_)
 refine GH.tk 7 (v := (.pointer (some ⟨bq8, 7, none⟩))) rfl (by kernel_rfl) (fun _ _ _ h => h) (Ex.cast (Ex.indexArr (m := 3) rfl rfl Try.underlying92 T.sz44 (by decide) (by decide)) rfl) (ulS (ulC (ulC (ulC ulN)))) (by decide) ?_
 refine GH.one 8 rfl (by kernel_rfl) (Stp.st0 (cs' := [(.float .f64 4607182418800017408), (.float .f64 0), (.float .f64 0), (.float .f64 0), (.float .f64 4607182418800017408), (.float .f64 0), (.float .f64 0), (.float .f64 0), (.float .f64 0)]) rfl rfl rfl T.sz44 rfl rfl rfl) (fun _ => (ulS (ulC (ulC (ulC ulN))))) (fun _ _ => ?_)
 refine GH.done (by kernel_rfl) ?_
 refine GE.blockN (GE.thenN (GC.region ?_))
 refine GL.val (v := (.int .i64 8)) (Ex.add rfl rfl (Z := 8) (by decide)) (by decide) ?_
 refine GL.mv rfl (by decide) ?_
 refine GL.nil (GE.thenN (GE.round (GC.seq (GC.region ?_))))
 refine GL.val (v := (.bool true)) (Ex.cast (Ex.lss rfl rfl) rfl) (by decide) ?_
 refine GL.nil (GE.thenN (GC.seq ?_))
 refine GC.cond rfl (fun _ => ?_) (fun hq33 => by cases hq33)
 refine GC.skip (GE.thenN (GC.seq (GC.block (GC.seq (GC.region ?_)))))
 refine GL.mv rfl (by decide) ?_
 refine GL.val (v := (.int .u32 1065353216)) (Ex.index1 rfl rfl Try.underlying29 T.sz28 T.ag28 (by decide) (by decide) rfl) (by decide) ?_
 refine GL.sg rfl (by decide) ?_
 refine GL.sg rfl (by decide) ?_
 refine GL.nil (GE.thenN ?_)
 refine GC.draw [⟨bq3, [(.int .i64 0), (.slice none 0 0)], 25, true⟩, ⟨bq2, [(.int .u32 1065353216), (.int .u32 0), (.int .u32 0), (.int .u32 0), (.int .u32 1065353216), (.int .u32 0), (.int .u32 0), (.int .u32 0), (.int .u32 1065353216)], 29, true⟩, ⟨bq1, [(.int .i64 sp), (.slice (some ⟨b, o, none⟩) n cap)], 25, true⟩] T.mixed (fuel := 9) rfl rfl ?_
 refine GH.tk 0 (v := (.int .i64 8)) rfl (by kernel_rfl) (fun _ _ _ h => h) (Ex.move rfl) (ulS (ulC (ulC (ulC ulN)))) (by decide) ?_
 refine GH.tk 1 (v := (.int .i64 2)) rfl (by kernel_rfl) (fun _ _ _ h => h) (Ex.quo rfl rfl (Z := 2) (by decide) (by decide)) (ulS (ulC (ulC (ulC ulN)))) (by decide) ?_
 refine GH.tk 2 (v := (.int .i64 8)) rfl (by kernel_rfl) (fun _ _ _ h => h) (Ex.move rfl) (ulS (ulC (ulC (ulC ulN)))) (by decide) ?_
 refine GH.tk 3 (v := (.int .i64 2)) rfl (by kernel_rfl) (fun _ _ _ h => h) (Ex.rem rfl rfl (Z := 2) (by decide) (by decide)) (ulS (ulC (ulC (ulC ulN)))) (by decide) ?_
 refine GH.tk 4 (v := (.int .u32 1065353216)) rfl (by kernel_rfl) (fun _ _ _ h => h) (Ex.move rfl) (ulS (ulC (ulC (ulC ulN)))) (by decide) ?_
 refine GH.tk 6 (v := (.pointer (some ⟨bq8, 6, none⟩))) rfl (by kernel_rfl) (fun _ _ _ h => h) (Ex.cast (Ex.indexArr (m := 3) rfl rfl Try.underlying93 T.sz92 (by decide) (by decide)) rfl) (ulS (ulC (ulC (ulC ulN)))) (by decide) ?_
 refine GH.one 5 rfl (by kernel_rfl) (Stp.callR (vs := [(.int .u32 1065353216)]) rfl rfl T.own48 (by decide) (fun wc hw => q48_2  wc )) (fun _ => (ulS (ulC (ulC (ulC ulN))))) (fun xq34 hq35 => ?_)
 refine GH.tk 7 (v := (.pointer (some ⟨bq8, 8, none⟩))) rfl (by kernel_rfl) (fun _ _ _ h => h) (Ex.cast (Ex.indexArr (m := 3) rfl rfl Try.underlying92 T.sz44 (by decide) (by decide)) rfl) (ulS (ulC (ulC (ulC ulN)))) (by decide) ?_
 refine GH.one 8 rfl (by kernel_rfl) (Stp.st0 (cs' := [(.float .f64 4607182418800017408), (.float .f64 0), (.float .f64 0), (.float .f64 0), (.float .f64 4607182418800017408), (.float .f64 0), (.float .f64 0), (.float .f64 0), (.float .f64 4607182418800017408)]) rfl rfl rfl T.sz44 rfl rfl rfl) (fun _ => (ulS (ulC (ulC (ulC ulN))))) (fun _ _ => ?_)
 refine GH.done (by kernel_rfl) ?_
 refine GE.blockN (GE.thenN (GC.region ?_))
 refine GL.val (v := (.int .i64 9)) (Ex.add rfl rfl (Z := 9) (by decide)) (by decide) ?_
 refine GL.mv rfl (by decide) ?_
 refine GL.nil (GE.thenN (GE.round (GC.seq (GC.region ?_))))
 refine GL.val (v := (.bool false)) (Ex.cast (Ex.lss rfl rfl) rfl) (by decide) ?_
 refine GL.nil (GE.thenN (GC.seq ?_))
 refine GC.cond rfl (fun hq36 => by cases hq36) (fun _ => ?_)
 refine GC.exit (GE.thenE (GE.thenE (GE.blockE (GE.thenN (GC.seq (GC.region ?_))))))
 refine GL.val (v := (.agg #[(.int .i64 sp), (.slice (some ⟨b, o, none⟩) n cap)])) (Ex.loadA rfl T.ag25 T.sz25 (i := 3) rfl (vs := [(.int .i64 sp), (.slice (some ⟨b, o, none⟩) n cap)]) rfl rfl) (by decide) ?_
 refine GL.val (v := (.func (.func 49) #[] #[(.pointer (some ⟨bq8, 0, none⟩))])) (Ex.func (cs := [(.pointer (some ⟨bq8, 0, none⟩))]) rfl (fun _ hF => hF.evals _ _ rfl)) (by decide) ?_
 refine GL.step (Stp.call (vs := [(.agg #[(.int .i64 sp), (.slice (some ⟨b, o, none⟩) n cap)]), (.func (.func 49) #[] #[(.pointer (some ⟨bq8, 0, none⟩))])]) rfl rfl T.own42 (by decide) (fun wc hw => (Ret.frm (L' := fun x => (⟨bq8, [(.float .f64 4607182418800017408), (.float .f64 0), (.float .f64 0), (.float .f64 0), (.float .f64 4607182418800017408), (.float .f64 0), (.float .f64 0), (.float .f64 0), (.float .f64 4607182418800017408)], 93, true⟩ :: ⟨bq3, [(.int .i64 0), (.slice none 0 0)], 25, true⟩ :: ⟨bq2, [(.int .u32 1065353216), (.int .u32 0), (.int .u32 0), (.int .u32 0), (.int .u32 1065353216), (.int .u32 0), (.int .u32 0), (.int .u32 0), (.int .u32 1065353216)], 29, true⟩ :: ⟨bq1, [(.int .i64 sp), (.slice (some ⟨b, o, none⟩) n cap)], 25, true⟩ :: (x.blks 43 28 ++ []))) hw (triples_ok sp b o n cap ps W H A 49 #[.pointer (some ⟨bq8, 0, none⟩)] f wc (hps.later hw.1) hn hok hA hn3 ⟨T.own49, fun x hx y hy z hz w' hk' => hm bq8 w' ((Has.cons (hw.hasOf (i := 0) rfl) (Has.nil _) : Has wc [⟨bq8, [(.float .f64 4607182418800017408), (.float .f64 0), (.float .f64 0), (.float .f64 0), (.float .f64 4607182418800017408), (.float .f64 0), (.float .f64 0), (.float .f64 0), (.float .f64 4607182418800017408)], 93, false⟩]).later hk') x hx y hy z hz⟩) (fun x w' _ h => by exact Hp.segsD (A := [x.blks 43 28, [⟨bq8, [(.float .f64 4607182418800017408), (.float .f64 0), (.float .f64 0), (.float .f64 0), (.float .f64 4607182418800017408), (.float .f64 0), (.float .f64 0), (.float .f64 0), (.float .f64 4607182418800017408)], 93, true⟩, ⟨bq3, [(.int .i64 0), (.slice none 0 0)], 25, true⟩, ⟨bq2, [(.int .u32 1065353216), (.int .u32 0), (.int .u32 0), (.int .u32 0), (.int .u32 1065353216), (.int .u32 0), (.int .u32 0), (.int .u32 0), (.int .u32 1065353216)], 29, true⟩, ⟨bq1, [(.int .i64 sp), (.slice (some ⟨b, o, none⟩) n cap)], 25, true⟩]]) (idx := [1, 0]) 2 [] h rfl (by decide) rfl)))) (fun xq37 hq38 => ?_)
 refine GL.val (Ex.extract rfl rfl) (by decide) ?_
 refine GL.val (Ex.extract rfl rfl) (by decide) ?_
 refine GL.step (Stp.st1 (cs' := [(.int .i64 sp), (.slice xq37.ad xq37.n xq37.cp)]) rfl rfl rfl T.sz25 rfl rfl rfl) (fun _ _ => ?_)
 refine GL.sg rfl (by decide) ?_
 refine GL.nil (GE.thenN (GC.ret ?_))
 refine GC.ret2 rfl (Rv.cellA rfl T.ag25 T.sz25 (L := _) (i := 1) rfl (vs := [(.int .i64 sp), (.slice xq37.ad xq37.n xq37.cp)]) rfl rfl) (Rv.tmp rfl) (fun wN HN => ?_)
 exact HN.ret xq37 hq38 rfl (by rw [List.append_nil]; exact ((ulS (ulS (ulS (ulS ulR)))))) (Ac.blks_own _ _ _)

theorem matrix_few (sp : Int) (b o n cap : Nat) (ps : List Pn) (W H : Nat) (w : World) (hps : Pns w b o ps) (hn : n = ps.length) (hok : OkPic sp ps W H) (hn3 : n < 3) :
  Calls Try.prog 14 #[(.agg #[(.int .i64 sp), (.slice (some ⟨b, o, none⟩) n cap)]), (.agg #[(.int .u32 1065353216), (.int .u32 0), (.int .u32 0), (.int .u32 0), (.int .u32 1065353216), (.int .u32 0), (.int .u32 0), (.int .u32 0), (.int .u32 1065353216)])] w (Ret w (fun _ : Unit => True) (fun _ => .tuple #[(.agg #[(.int .i64 0), (.slice none 0 0)]), .int .i64 80]) (fun _ => [])) := by
 refine enter (M := None) (L := []) (n := 40) (l := [(0, (.agg #[(.int .i64 sp), (.slice (some ⟨b, o, none⟩) n cap)])), (1, (.agg #[(.int .u32 1065353216), (.int .u32 0), (.int .u32 0), (.int .u32 0), (.int .u32 1065353216), (.int .u32 0), (.int .u32 0), (.int .u32 0), (.int .u32 1065353216)]))]) Try.func14 rfl rfl (Args.cons rfl (Args.cons rfl (Args.nil _))) (Hp.start _ _) ?_
 refine GC.seq (GC.region ?_)
 refine GL.step (Stp.box (cs := [(.int .i64 sp), (.slice (some ⟨b, o, none⟩) n cap)]) rfl rfl (by decide)) (fun bq1 _ => ?_)
 refine GL.step (Stp.box (cs := [(.int .u32 1065353216), (.int .u32 0), (.int .u32 0), (.int .u32 0), (.int .u32 1065353216), (.int .u32 0), (.int .u32 0), (.int .u32 0), (.int .u32 1065353216)]) rfl rfl (by decide)) (fun bq2 _ => ?_)
 refine GL.step (Stp.alloc T.zr25 (by decide)) (fun bq3 _ => ?_)
 refine GL.sg rfl (by decide) ?_
 refine GL.nil (GE.thenN (GC.seq (GC.seq (GC.region ?_))))
 refine GL.val (v := (.agg #[(.int .i64 sp), (.slice (some ⟨b, o, none⟩) n cap)])) (Ex.loadA rfl T.ag25 T.sz25 (i := 2) rfl (vs := [(.int .i64 sp), (.slice (some ⟨b, o, none⟩) n cap)]) rfl rfl) (by decide) ?_
 refine GL.step (Stp.callR (σ := Unit) (p := fun rz => True) (v := fun rz => (.int .i64 0)) (N := fun rz => []) (vs := [(.agg #[(.int .i64 sp), (.slice (some ⟨b, o, none⟩) n cap)])]) rfl rfl T.own9 (by decide) (fun wc hw => (by have h := chk_p sp b o n cap ps wc (hps.later hw.1) hn (by have := hok.n4; omega); rw [hok.chk] at h; exact h))) (fun xq4 hq5 => ?_)
 refine GL.sg rfl (by decide) ?_
 refine GL.nil (GE.thenN (GC.seq (GC.region ?_)))
 refine GL.mv rfl (by decide) ?_
 refine GL.val (v := (.bool false)) (Ex.cast (Ex.neq rfl rfl) rfl) (by decide) ?_
 refine GL.nil (GE.thenN ?_)
 refine GC.cond rfl (fun hq6 => by cases hq6) (fun _ => ?_)
 refine GC.skip (GE.thenN (GC.seq (GC.seq (GC.region ?_))))
 refine GL.val (v := (.pointer (some ⟨bq1, 1, none⟩))) (Ex.cast (Ex.fieldAddr rfl Try.underlying25 rfl T.sz23 (by decide)) rfl) (by decide) ?_
 refine GL.val (Ex.load rfl T.ag23 (i := 2) rfl rfl) (by decide) ?_
 refine GL.val (v := (.int .i64 ((n : Int)))) (Ex.len rfl Try.underlying23) (by decide) ?_
 refine GL.val (v := (.bool true)) (Ex.cast (Ex.lss rfl rfl) (congrArg Value.bool (decide_eq_true (by omega)))) (by decide) ?_
 refine GL.nil (GE.thenN ?_)
 refine GC.cond rfl (fun _ => ?_) (fun hq7 => by cases hq7)
 refine GC.seq (GC.region ?_)
 refine GL.val (v := (.agg #[(.int .i64 0), (.slice none 0 0)])) (Ex.build (vs := []) rfl (by first | rfl | kernel_rfl)) (by decide) ?_
 refine GL.step (Stp.st0 (cs' := [(.int .i64 0), (.slice none 0 0)]) rfl rfl rfl T.sz25 rfl rfl rfl) (fun _ _ => ?_)
 refine GL.sg rfl (by decide) ?_
 refine GL.nil (GE.thenN (GC.ret (GE.thenR ?_)))
 refine GC.ret2 rfl (Rv.cellA rfl T.ag25 T.sz25 (L := _) (i := 0) rfl (vs := [(.int .i64 0), (.slice none 0 0)]) rfl rfl) (Rv.tmp rfl) (fun wN HN => ?_)
 exact HN.ret () trivial rfl (List.nil_sublist _) rfl

theorem matrix_u (sp : Int) (b o n cap : Nat) (ps : List Pn) (W H : Nat) (A : Nat) (w : World) (hps : Pns w b o ps) (hn : n = ps.length) (hok : OkPic sp ps W H) (hA : A = W * H) : Calls Try.prog 14 #[(.agg #[(.int .i64 sp), (.slice (some ⟨b, o, none⟩) n cap)]), (.agg #[(.int .u32 1065353216), (.int .u32 0), (.int .u32 0), (.int .u32 0), (.int .u32 1065353216), (.int .u32 0), (.int .u32 0), (.int .u32 0), (.int .u32 1065353216)])] w (Ret w (fun r : Ac => r.Ok ∧ (∀ q ∈ r.qs, q.Ok) ∧ r.ds = Kp.mxD ps n A) (fun r => .tuple #[(.agg #[(.int .i64 ((picS (Kp.mxE n) sp))), (.slice r.ad r.n r.cp)]), .int .i64 (Kp.mxE n)]) (fun r => r.blks 43 28)) := by
 have hI := Kp.In.of hps.ok hn hok
 rw [← hA] at hI
 by_cases h3 : n < 3
 ·have e1 : Kp.mxE n = 80 := if_pos h3
  have e2 : Kp.mxD ps n A = [] := if_pos h3
  exact (matrix_few sp b o n cap ps W H w hps hn hok h3).mono fun e w' hr => Ret.to (fun _ => Ac.no) hr (fun _ _ => ⟨Or.inl rfl, fun q hq => (by cases hq), by rw [e2]; rfl⟩) (fun _ _ => by rw [e1]; rfl) (fun _ _ => rfl)
 ·have e1 : Kp.mxE n = 0 := if_neg h3
  refine (matrix_id sp b o n cap ps W H A Kp.mxF w hps hn hok hA (by omega) (fun bR w' hh x hx y hy z hz => mat1_id x y z bR w' hh ((hI.as 0 (by omega)).2.2.2 x hx) ((hI.as 1 (by omega)).2.2.2 y hy) ((hI.as 2 (by omega)).2.2.2 z hz))).mono fun e w' hr => ?_
  exact Ret.to id hr (fun r h => ⟨h.2.2.1, h.2.2.2, by rw [Kp.mxD_ok (by omega)]; exact h.2.1⟩) (fun r h => by rw [e1]; rfl) (fun _ _ => rfl)

theorem both_g (sp sq : Int) (b o n cap b2 o2 m c2 : Nat) (ps qs : List Pn) (W H W2 H2 : Nat) (w : World) (hps : Pns w b o ps) (hn : n = ps.length) (hok : OkPic sp ps W H) (hqs : Pns w b2 o2 qs) (hm : m = qs.length) (hok2 : OkPic sq qs W2 H2) :
  Calls Try.prog 51 #[(.agg #[(.int .i64 sp), (.slice (some ⟨b, o, none⟩) n cap)]), (.agg #[(.int .i64 sq), (.slice (some ⟨b2, o2, none⟩) m c2)])] w (Ret w (fun _ : Unit => True) (fun _ => (.int .i64 0)) (fun _ => [])) := by
 refine enter (M := None) (L := []) (n := 13) (l := [(0, (.agg #[(.int .i64 sp), (.slice (some ⟨b, o, none⟩) n cap)])), (1, (.agg #[(.int .i64 sq), (.slice (some ⟨b2, o2, none⟩) m c2)]))]) Try.func51 rfl rfl (Args.cons rfl (Args.cons rfl (Args.nil _))) (Hp.start _ _) ?_
 refine GC.seq (GC.region ?_)
 refine GL.step (Stp.box (cs := [(.int .i64 sp), (.slice (some ⟨b, o, none⟩) n cap)]) rfl rfl (by decide)) (fun bq1 _ => ?_)
 refine GL.step (Stp.box (cs := [(.int .i64 sq), (.slice (some ⟨b2, o2, none⟩) m c2)]) rfl rfl (by decide)) (fun bq2 _ => ?_)
 refine GL.sg rfl (by decide) ?_
 refine GL.nil (GE.thenN (GC.seq (GC.seq (GC.region ?_))))
 refine GL.val (v := (.agg #[(.int .i64 sp), (.slice (some ⟨b, o, none⟩) n cap)])) (Ex.loadA rfl T.ag25 T.sz25 (i := 1) rfl (vs := [(.int .i64 sp), (.slice (some ⟨b, o, none⟩) n cap)]) rfl rfl) (by decide) ?_
 refine GL.step (Stp.callR (σ := Unit) (p := fun rz => True) (v := fun rz => (.int .i64 0)) (N := fun rz => []) (vs := [(.agg #[(.int .i64 sp), (.slice (some ⟨b, o, none⟩) n cap)])]) rfl rfl T.own9 (by decide) (fun wc hw => (by have h := chk_p sp b o n cap ps wc (hps.later hw.1) hn (by have := hok.n4; omega); rw [hok.chk] at h; exact h))) (fun xq3 hq4 => ?_)
 refine GL.sg rfl (by decide) ?_
 refine GL.nil (GE.thenN (GC.seq (GC.region ?_)))
 refine GL.mv rfl (by decide) ?_
 refine GL.val (v := (.bool false)) (Ex.cast (Ex.neq rfl rfl) rfl) (by decide) ?_
 refine GL.nil (GE.thenN ?_)
 refine GC.cond rfl (fun hq5 => by cases hq5) (fun _ => ?_)
 refine GC.skip (GE.thenN (GC.seq (GC.region ?_)))
 refine GL.val (v := (.agg #[(.int .i64 sq), (.slice (some ⟨b2, o2, none⟩) m c2)])) (Ex.loadA rfl T.ag25 T.sz25 (i := 0) rfl (vs := [(.int .i64 sq), (.slice (some ⟨b2, o2, none⟩) m c2)]) rfl rfl) (by decide) ?_
 refine GL.step (Stp.callR (σ := Unit) (p := fun rz => True) (v := fun rz => (.int .i64 0)) (N := fun rz => []) (vs := [(.agg #[(.int .i64 sq), (.slice (some ⟨b2, o2, none⟩) m c2)])]) rfl rfl T.own9 (by decide) (fun wc hw => (by have h := chk_p sq b2 o2 m c2 qs wc (hqs.later hw.1) hm (by have := hok2.n4; omega); rw [hok2.chk] at h; exact h))) (fun xq6 hq7 => ?_)
 refine GL.sg rfl (by decide) ?_
 refine GL.nil (GE.thenN (GC.ret ?_))
 refine GC.ret1 rfl (Rv.tmp rfl) (fun wN HN => ?_)
 exact HN.ret () trivial rfl (List.nil_sublist _) rfl

theorem two_n (sp sq : Int) (b o n cap b2 o2 m c2 : Nat) (ps qs : List Pn) (W H W2 H2 : Nat) (w : World) (hps : Pns w b o ps) (hn : n = ps.length) (hok : OkPic sp ps W H) (hqs : Pns w b2 o2 qs) (hm : m = qs.length) (hok2 : OkPic sq qs W2 H2) (hbad : n ≠ m) :
  Calls Try.prog 15 #[(.int .i64 4), (.agg #[(.int .i64 sp), (.slice (some ⟨b, o, none⟩) n cap)]), (.agg #[(.int .i64 sq), (.slice (some ⟨b2, o2, none⟩) m c2)])] w (Ret w (fun _ : Unit => True) (fun _ => .tuple #[(.agg #[(.int .i64 0), (.slice none 0 0)]), .int .i64 80]) (fun _ => [])) := by
 have hn0 := hok.n0
 have hm0 := hok2.n0
 have hq0 := hok.at hok.n0
 have hq1 := hok2.at hok2.n0
 refine enter (M := None) (L := []) (n := 70) (l := [(0, (.int .i64 4)), (1, (.agg #[(.int .i64 sp), (.slice (some ⟨b, o, none⟩) n cap)])), (2, (.agg #[(.int .i64 sq), (.slice (some ⟨b2, o2, none⟩) m c2)]))]) Try.func15 rfl rfl (Args.cons rfl (Args.cons rfl (Args.cons rfl (Args.nil _)))) (Hp.start _ _) ?_
 refine GC.seq (GC.region ?_)
 refine GL.step (Stp.box (cs := [(.int .i64 sp), (.slice (some ⟨b, o, none⟩) n cap)]) rfl rfl (by decide)) (fun bq1 _ => ?_)
 refine GL.step (Stp.box (cs := [(.int .i64 sq), (.slice (some ⟨b2, o2, none⟩) m c2)]) rfl rfl (by decide)) (fun bq2 _ => ?_)
 refine GL.step (Stp.alloc T.zr25 (by decide)) (fun bq3 _ => ?_)
 refine GL.sg rfl (by decide) ?_
 refine GL.nil (GE.thenN (GC.seq (GC.seq (GC.region ?_))))
 refine GL.val (v := (.agg #[(.int .i64 sp), (.slice (some ⟨b, o, none⟩) n cap)])) (Ex.loadA rfl T.ag25 T.sz25 (i := 2) rfl (vs := [(.int .i64 sp), (.slice (some ⟨b, o, none⟩) n cap)]) rfl rfl) (by decide) ?_
 refine GL.val (v := (.agg #[(.int .i64 sq), (.slice (some ⟨b2, o2, none⟩) m c2)])) (Ex.loadA rfl T.ag25 T.sz25 (i := 1) rfl (vs := [(.int .i64 sq), (.slice (some ⟨b2, o2, none⟩) m c2)]) rfl rfl) (by decide) ?_
 refine GL.step (Stp.callR (vs := [(.agg #[(.int .i64 sp), (.slice (some ⟨b, o, none⟩) n cap)]), (.agg #[(.int .i64 sq), (.slice (some ⟨b2, o2, none⟩) m c2)])]) rfl rfl T.own51 (by decide) (fun wc hw => both_g sp sq b o n cap b2 o2 m c2 ps qs W H W2 H2 wc (hps.later hw.1) hn hok (hqs.later hw.1) hm hok2)) (fun xq4 hq5 => ?_)
 refine GL.sg rfl (by decide) ?_
 refine GL.nil (GE.thenN (GC.seq (GC.region ?_)))
 refine GL.mv rfl (by decide) ?_
 refine GL.val (v := (.bool false)) (Ex.cast (Ex.neq rfl rfl) rfl) (by decide) ?_
 refine GL.nil (GE.thenN ?_)
 refine GC.cond rfl (fun hq6 => by cases hq6) (fun _ => ?_)
 refine GC.skip (GE.thenN (GC.seq (GC.region ?_)))
 refine GL.mv rfl (by decide) ?_
 refine GL.step (Stp.callR (vs := [(.int .i64 4)]) rfl rfl T.own52 (by decide) (fun wc hw => two_f4 wc)) (fun xq7 hq8 => ?_)
 refine GL.step (Stp.alloc T.zr97 (by decide)) (fun bq9 _ => ?_)
 refine GL.step (Stp.st0 (cs' := [(.func (.func 87) #[] #[])]) rfl rfl rfl T.sz97 rfl rfl rfl) (fun _ _ => ?_)
 refine GL.nil (GE.thenN (GC.seq (GC.block (GC.seq (GC.region ?_)))))
 refine GL.val (Ex.load rfl T.ag97 (i := 0) rfl rfl) (by decide) ?_
 refine GL.val (v := (.bool false)) (Ex.eqNilF rfl rfl Try.underlying97) (by decide) ?_
 refine GL.sg rfl (by decide) ?_
 refine GL.nil (GE.thenN ?_)
 refine GC.cond rfl (fun hq10 => by cases hq10) (fun _ => ?_)
 refine GC.seq ?_
 refine GC.draw [⟨bq9, [(.func (.func 87) #[] #[])], 97, true⟩, ⟨bq3, [(.int .i64 0), (.slice none 0 0)], 25, true⟩, ⟨bq2, [(.int .i64 sq), (.slice (some ⟨b2, o2, none⟩) m c2)], 25, true⟩, ⟨bq1, [(.int .i64 sp), (.slice (some ⟨b, o, none⟩) n cap)], 25, true⟩] T.mixed (fuel := 34) rfl rfl ?_
 refine GH.tk 0 (v := (.pointer (some ⟨bq1, 1, none⟩))) rfl (by kernel_rfl) (fun _ _ _ h => h) (Ex.cast (Ex.fieldAddr rfl Try.underlying25 rfl T.sz23 (by decide)) rfl) (ulC (ulC (ulC (ulC ulN)))) (by decide) ?_
 refine GH.tk 1 (v := (.slice (some ⟨b, o, none⟩) n cap)) rfl (by kernel_rfl) (fun _ _ _ h => h) (Ex.load rfl T.ag23 (i := 3) rfl rfl) (ulC (ulC (ulC (ulC ulN)))) (by decide) ?_
 refine GH.tk 2 (v := (.int .i64 ((n : Int)))) rfl (by kernel_rfl) (fun _ _ _ h => h) (Ex.len rfl Try.underlying23) (ulC (ulC (ulC (ulC ulN)))) (by decide) ?_
 refine GH.tk 3 (v := (.pointer (some ⟨bq2, 1, none⟩))) rfl (by kernel_rfl) (fun _ _ _ h => h) (Ex.cast (Ex.fieldAddr rfl Try.underlying25 rfl T.sz23 (by decide)) rfl) (ulC (ulC (ulC (ulC ulN)))) (by decide) ?_
 refine GH.tk 4 (v := (.slice (some ⟨b2, o2, none⟩) m c2)) rfl (by kernel_rfl) (fun _ _ _ h => h) (Ex.load rfl T.ag23 (i := 2) rfl rfl) (ulC (ulC (ulC (ulC ulN)))) (by decide) ?_
 refine GH.tk 5 (v := (.int .i64 ((m : Int)))) rfl (by kernel_rfl) (fun _ _ _ h => h) (Ex.len rfl Try.underlying23) (ulC (ulC (ulC (ulC ulN)))) (by decide) ?_
 refine GH.tk 6 (v := (.bool true)) rfl (by kernel_rfl) (fun _ _ _ h => h) (Ex.cast (Ex.neq rfl rfl) (congrArg Value.bool (decide_eq_true (by omega)))) (ulC (ulC (ulC (ulC ulN)))) (by decide) ?_
 refine GH.tk 7 (v := (.bool true)) rfl (by kernel_rfl) (fun _ _ _ h => h) (Ex.move rfl) (ulC (ulC (ulC (ulC ulN)))) (by decide) ?_
 refine GH.skipG 8 (tj := 31) rfl rfl rfl rfl (by kernel_rfl) (by kernel_rfl) (by kernel_rfl) (fun _ _ _ h => h) (ulC (ulC (ulC (ulC ulN)))) (by decide) ?_
 refine GH.skipG 9 (tj := 31) rfl rfl rfl rfl (by kernel_rfl) (by kernel_rfl) (by kernel_rfl) (fun _ _ _ h => h) (ulC (ulC (ulC (ulC ulN)))) (by decide) ?_
 refine GH.skipG 10 (tj := 31) rfl rfl rfl rfl (by kernel_rfl) (by kernel_rfl) (by kernel_rfl) (fun _ _ _ h => h) (ulC (ulC (ulC (ulC ulN)))) (by decide) ?_
 refine GH.skipG 11 (tj := 31) rfl rfl rfl rfl (by kernel_rfl) (by kernel_rfl) (by kernel_rfl) (fun _ _ _ h => h) (ulC (ulC (ulC (ulC ulN)))) (by decide) ?_
 refine GH.skipG 12 (tj := 31) rfl rfl rfl rfl (by kernel_rfl) (by kernel_rfl) (by kernel_rfl) (fun _ _ _ h => h) (ulC (ulC (ulC (ulC ulN)))) (by decide) ?_
 refine GH.skipG 13 (tj := 31) rfl rfl rfl rfl (by kernel_rfl) (by kernel_rfl) (by kernel_rfl) (fun _ _ _ h => h) (ulC (ulC (ulC (ulC ulN)))) (by decide) ?_
 refine GH.skipG 14 (tj := 31) rfl rfl rfl rfl (by kernel_rfl) (by kernel_rfl) (by kernel_rfl) (fun _ _ _ h => h) (ulC (ulC (ulC (ulC ulN)))) (by decide) ?_
 refine GH.skipG 15 (tj := 31) rfl rfl rfl rfl (by kernel_rfl) (by kernel_rfl) (by kernel_rfl) (fun _ _ _ h => h) (ulC (ulC (ulC (ulC ulN)))) (by decide) ?_
 refine GH.skipG 16 (tj := 31) rfl rfl rfl rfl (by kernel_rfl) (by kernel_rfl) (by kernel_rfl) (fun _ _ _ h => h) (ulC (ulC (ulC (ulC ulN)))) (by decide) ?_
 refine GH.skipG 17 (tj := 31) rfl rfl rfl rfl (by kernel_rfl) (by kernel_rfl) (by kernel_rfl) (fun _ _ _ h => h) (ulC (ulC (ulC (ulC ulN)))) (by decide) ?_
 refine GH.skipG 18 (tj := 31) rfl rfl rfl rfl (by kernel_rfl) (by kernel_rfl) (by kernel_rfl) (fun _ _ _ h => h) (ulC (ulC (ulC (ulC ulN)))) (by decide) ?_
 refine GH.tk 19 (v := (.bool true)) rfl (by kernel_rfl) (fun _ _ _ h => h) (Ex.pickT rfl rfl) (ulC (ulC (ulC (ulC ulN)))) (by decide) ?_
 refine GH.tk 20 (v := (.bool true)) rfl (by kernel_rfl) (fun _ _ _ h => h) (Ex.move rfl) (ulC (ulC (ulC (ulC ulN)))) (by decide) ?_
 refine GH.skipG 21 (tj := 44) rfl rfl rfl rfl (by kernel_rfl) (by kernel_rfl) (by kernel_rfl) (fun _ _ _ h => h) (ulC (ulC (ulC (ulC ulN)))) (by decide) ?_
 refine GH.skipG 22 (tj := 44) rfl rfl rfl rfl (by kernel_rfl) (by kernel_rfl) (by kernel_rfl) (fun _ _ _ h => h) (ulC (ulC (ulC (ulC ulN)))) (by decide) ?_
 refine GH.skipG 23 (tj := 44) rfl rfl rfl rfl (by kernel_rfl) (by kernel_rfl) (by kernel_rfl) (fun _ _ _ h => h) (ulC (ulC (ulC (ulC ulN)))) (by decide) ?_
 refine GH.skipG 24 (tj := 44) rfl rfl rfl rfl (by kernel_rfl) (by kernel_rfl) (by kernel_rfl) (fun _ _ _ h => h) (ulC (ulC (ulC (ulC ulN)))) (by decide) ?_
 refine GH.skipG 25 (tj := 44) rfl rfl rfl rfl (by kernel_rfl) (by kernel_rfl) (by kernel_rfl) (fun _ _ _ h => h) (ulC (ulC (ulC (ulC ulN)))) (by decide) ?_
 refine GH.skipG 26 (tj := 44) rfl rfl rfl rfl (by kernel_rfl) (by kernel_rfl) (by kernel_rfl) (fun _ _ _ h => h) (ulC (ulC (ulC (ulC ulN)))) (by decide) ?_
 refine GH.skipG 27 (tj := 44) rfl rfl rfl rfl (by kernel_rfl) (by kernel_rfl) (by kernel_rfl) (fun _ _ _ h => h) (ulC (ulC (ulC (ulC ulN)))) (by decide) ?_
 refine GH.skipG 28 (tj := 44) rfl rfl rfl rfl (by kernel_rfl) (by kernel_rfl) (by kernel_rfl) (fun _ _ _ h => h) (ulC (ulC (ulC (ulC ulN)))) (by decide) ?_
 refine GH.skipG 29 (tj := 44) rfl rfl rfl rfl (by kernel_rfl) (by kernel_rfl) (by kernel_rfl) (fun _ _ _ h => h) (ulC (ulC (ulC (ulC ulN)))) (by decide) ?_
 refine GH.skipG 30 (tj := 44) rfl rfl rfl rfl (by kernel_rfl) (by kernel_rfl) (by kernel_rfl) (fun _ _ _ h => h) (ulC (ulC (ulC (ulC ulN)))) (by decide) ?_
 refine GH.skipG 31 (tj := 44) rfl rfl rfl rfl (by kernel_rfl) (by kernel_rfl) (by kernel_rfl) (fun _ _ _ h => h) (ulC (ulC (ulC (ulC ulN)))) (by decide) ?_
 refine GH.tk 32 (v := (.bool true)) rfl (by kernel_rfl) (fun _ _ _ h => h) (Ex.pickT rfl rfl) (ulC (ulC (ulC (ulC ulN)))) (by decide) ?_
 refine GH.tk 33 (v := (.bool true)) rfl (by kernel_rfl) (fun _ _ _ h => h) (Ex.assign rfl) (ulC (ulC (ulC (ulC ulN)))) (by decide) ?_
 refine GH.done (by kernel_rfl) ?_
 refine GE.thenN ?_
 refine GC.cond rfl (fun _ => ?_) (fun hq11 => by cases hq11)
 refine GC.seq (GC.region ?_)
 refine GL.val (v := (.agg #[(.int .i64 0), (.slice none 0 0)])) (Ex.build (vs := []) rfl (by first | rfl | kernel_rfl)) (by decide) ?_
 refine GL.step (Stp.st1 (cs' := [(.int .i64 0), (.slice none 0 0)]) rfl rfl rfl T.sz25 rfl rfl rfl) (fun _ _ => ?_)
 refine GL.sg rfl (by decide) ?_
 refine GL.nil (GE.thenN (GC.ret (GE.blockR (GE.thenR ?_))))
 refine GC.ret2 rfl (Rv.cellA rfl T.ag25 T.sz25 (L := _) (i := 1) rfl (vs := [(.int .i64 0), (.slice none 0 0)]) rfl rfl) (Rv.tmp rfl) (fun wN HN => ?_)
 exact HN.ret () trivial rfl (List.nil_sublist _) rfl

theorem two_w (sp sq : Int) (b o n cap b2 o2 m c2 : Nat) (ps qs : List Pn) (W H W2 H2 : Nat) (w : World) (hps : Pns w b o ps) (hn : n = ps.length) (hok : OkPic sp ps W H) (hqs : Pns w b2 o2 qs) (hm : m = qs.length) (hok2 : OkPic sq qs W2 H2) (hnm : n = m) (hbad : W ≠ W2) :
  Calls Try.prog 15 #[(.int .i64 4), (.agg #[(.int .i64 sp), (.slice (some ⟨b, o, none⟩) n cap)]), (.agg #[(.int .i64 sq), (.slice (some ⟨b2, o2, none⟩) m c2)])] w (Ret w (fun _ : Unit => True) (fun _ => .tuple #[(.agg #[(.int .i64 0), (.slice none 0 0)]), .int .i64 80]) (fun _ => [])) := by
 have hn0 := hok.n0
 have hm0 := hok2.n0
 have hq0 := hok.at hok.n0
 have hq1 := hok2.at hok2.n0
 refine enter (M := None) (L := []) (n := 70) (l := [(0, (.int .i64 4)), (1, (.agg #[(.int .i64 sp), (.slice (some ⟨b, o, none⟩) n cap)])), (2, (.agg #[(.int .i64 sq), (.slice (some ⟨b2, o2, none⟩) m c2)]))]) Try.func15 rfl rfl (Args.cons rfl (Args.cons rfl (Args.cons rfl (Args.nil _)))) (Hp.start _ _) ?_
 refine GC.seq (GC.region ?_)
 refine GL.step (Stp.box (cs := [(.int .i64 sp), (.slice (some ⟨b, o, none⟩) n cap)]) rfl rfl (by decide)) (fun bq1 _ => ?_)
 refine GL.step (Stp.box (cs := [(.int .i64 sq), (.slice (some ⟨b2, o2, none⟩) m c2)]) rfl rfl (by decide)) (fun bq2 _ => ?_)
 refine GL.step (Stp.alloc T.zr25 (by decide)) (fun bq3 _ => ?_)
 refine GL.sg rfl (by decide) ?_
 refine GL.nil (GE.thenN (GC.seq (GC.seq (GC.region ?_))))
 refine GL.val (v := (.agg #[(.int .i64 sp), (.slice (some ⟨b, o, none⟩) n cap)])) (Ex.loadA rfl T.ag25 T.sz25 (i := 2) rfl (vs := [(.int .i64 sp), (.slice (some ⟨b, o, none⟩) n cap)]) rfl rfl) (by decide) ?_
 refine GL.val (v := (.agg #[(.int .i64 sq), (.slice (some ⟨b2, o2, none⟩) m c2)])) (Ex.loadA rfl T.ag25 T.sz25 (i := 1) rfl (vs := [(.int .i64 sq), (.slice (some ⟨b2, o2, none⟩) m c2)]) rfl rfl) (by decide) ?_
 refine GL.step (Stp.callR (vs := [(.agg #[(.int .i64 sp), (.slice (some ⟨b, o, none⟩) n cap)]), (.agg #[(.int .i64 sq), (.slice (some ⟨b2, o2, none⟩) m c2)])]) rfl rfl T.own51 (by decide) (fun wc hw => both_g sp sq b o n cap b2 o2 m c2 ps qs W H W2 H2 wc (hps.later hw.1) hn hok (hqs.later hw.1) hm hok2)) (fun xq4 hq5 => ?_)
 refine GL.sg rfl (by decide) ?_
 refine GL.nil (GE.thenN (GC.seq (GC.region ?_)))
 refine GL.mv rfl (by decide) ?_
 refine GL.val (v := (.bool false)) (Ex.cast (Ex.neq rfl rfl) rfl) (by decide) ?_
 refine GL.nil (GE.thenN ?_)
 refine GC.cond rfl (fun hq6 => by cases hq6) (fun _ => ?_)
 refine GC.skip (GE.thenN (GC.seq (GC.region ?_)))
 refine GL.mv rfl (by decide) ?_
 refine GL.step (Stp.callR (vs := [(.int .i64 4)]) rfl rfl T.own52 (by decide) (fun wc hw => two_f4 wc)) (fun xq7 hq8 => ?_)
 refine GL.step (Stp.alloc T.zr97 (by decide)) (fun bq9 _ => ?_)
 refine GL.step (Stp.st0 (cs' := [(.func (.func 87) #[] #[])]) rfl rfl rfl T.sz97 rfl rfl rfl) (fun _ _ => ?_)
 refine GL.nil (GE.thenN (GC.seq (GC.block (GC.seq (GC.region ?_)))))
 refine GL.val (Ex.load rfl T.ag97 (i := 0) rfl rfl) (by decide) ?_
 refine GL.val (v := (.bool false)) (Ex.eqNilF rfl rfl Try.underlying97) (by decide) ?_
 refine GL.sg rfl (by decide) ?_
 refine GL.nil (GE.thenN ?_)
 refine GC.cond rfl (fun hq10 => by cases hq10) (fun _ => ?_)
 refine GC.seq ?_
 refine GC.draw [⟨bq9, [(.func (.func 87) #[] #[])], 97, true⟩, ⟨bq3, [(.int .i64 0), (.slice none 0 0)], 25, true⟩, ⟨bq2, [(.int .i64 sq), (.slice (some ⟨b2, o2, none⟩) m c2)], 25, true⟩, ⟨bq1, [(.int .i64 sp), (.slice (some ⟨b, o, none⟩) n cap)], 25, true⟩] T.mixed (fuel := 34) rfl rfl ?_
 refine GH.tk 0 (v := (.pointer (some ⟨bq1, 1, none⟩))) rfl (by kernel_rfl) (fun _ _ _ h => h) (Ex.cast (Ex.fieldAddr rfl Try.underlying25 rfl T.sz23 (by decide)) rfl) (ulC (ulC (ulC (ulC ulN)))) (by decide) ?_
 refine GH.tk 1 (v := (.slice (some ⟨b, o, none⟩) n cap)) rfl (by kernel_rfl) (fun _ _ _ h => h) (Ex.load rfl T.ag23 (i := 3) rfl rfl) (ulC (ulC (ulC (ulC ulN)))) (by decide) ?_
 refine GH.tk 2 (v := (.int .i64 ((n : Int)))) rfl (by kernel_rfl) (fun _ _ _ h => h) (Ex.len rfl Try.underlying23) (ulC (ulC (ulC (ulC ulN)))) (by decide) ?_
 refine GH.tk 3 (v := (.pointer (some ⟨bq2, 1, none⟩))) rfl (by kernel_rfl) (fun _ _ _ h => h) (Ex.cast (Ex.fieldAddr rfl Try.underlying25 rfl T.sz23 (by decide)) rfl) (ulC (ulC (ulC (ulC ulN)))) (by decide) ?_
 refine GH.tk 4 (v := (.slice (some ⟨b2, o2, none⟩) m c2)) rfl (by kernel_rfl) (fun _ _ _ h => h) (Ex.load rfl T.ag23 (i := 2) rfl rfl) (ulC (ulC (ulC (ulC ulN)))) (by decide) ?_
 refine GH.tk 5 (v := (.int .i64 ((m : Int)))) rfl (by kernel_rfl) (fun _ _ _ h => h) (Ex.len rfl Try.underlying23) (ulC (ulC (ulC (ulC ulN)))) (by decide) ?_
 refine GH.tk 6 (v := (.bool false)) rfl (by kernel_rfl) (fun _ _ _ h => h) (Ex.cast (Ex.neq rfl rfl) (congrArg Value.bool (decide_eq_false (by omega)))) (ulC (ulC (ulC (ulC ulN)))) (by decide) ?_
 refine GH.tk 7 (v := (.bool false)) rfl (by kernel_rfl) (fun _ _ _ h => h) (Ex.move rfl) (ulC (ulC (ulC (ulC ulN)))) (by decide) ?_
 refine GH.takeG 8 (tj := 31) (v := (.pointer (some ⟨bq1, 1, none⟩))) rfl rfl rfl (by kernel_rfl) (by kernel_rfl) (by kernel_rfl) (fun _ _ _ h => h) (Ex.cast (Ex.fieldAddr rfl Try.underlying25 rfl T.sz23 (by decide)) rfl) (ulC (ulC (ulC (ulC ulN)))) (by decide) ?_
 refine GH.takeG 9 (tj := 31) (v := (.slice (some ⟨b, o, none⟩) n cap)) rfl rfl rfl (by kernel_rfl) (by kernel_rfl) (by kernel_rfl) (fun _ _ _ h => h) (Ex.load rfl T.ag23 (i := 3) rfl rfl) (ulC (ulC (ulC (ulC ulN)))) (by decide) ?_
 refine GH.takeG 10 (tj := 31) (v := (.pointer (some ⟨b, o, none⟩))) rfl rfl rfl (by kernel_rfl) (by kernel_rfl) (by kernel_rfl) (fun _ _ _ h => h) (Ex.cast (Ex.indexAddr rfl rfl Try.underlying23 T.sz43 (by omega) (by omega)) rfl) (ulC (ulC (ulC (ulC ulN)))) (by decide) ?_
 refine GH.takeG 11 (tj := 31) (v := (.pointer (some ⟨b, o, none⟩))) rfl rfl rfl (by kernel_rfl) (by kernel_rfl) (by kernel_rfl) (fun _ _ _ h => h) (Ex.cast (Ex.fieldAddr rfl Try.underlying43 rfl T.sz3 (by decide)) rfl) (ulC (ulC (ulC (ulC ulN)))) (by decide) ?_
 refine GH.takeG 12 (tj := 31) (v := (.int .i64 ((pAt ps 0).W))) rfl rfl rfl (by kernel_rfl) (by kernel_rfl) (by kernel_rfl) (fun _ _ _ h => h) (Ex.loadO rfl T.ag3 (Pns.cell (i := 0) (j := 0) hps (by omega) (by decide) rfl) (fun x => x)) (ulC (ulC (ulC (ulC ulN)))) (by decide) ?_
 refine GH.takeG 13 (tj := 31) (v := (.pointer (some ⟨bq2, 1, none⟩))) rfl rfl rfl (by kernel_rfl) (by kernel_rfl) (by kernel_rfl) (fun _ _ _ h => h) (Ex.cast (Ex.fieldAddr rfl Try.underlying25 rfl T.sz23 (by decide)) rfl) (ulC (ulC (ulC (ulC ulN)))) (by decide) ?_
 refine GH.takeG 14 (tj := 31) (v := (.slice (some ⟨b2, o2, none⟩) m c2)) rfl rfl rfl (by kernel_rfl) (by kernel_rfl) (by kernel_rfl) (fun _ _ _ h => h) (Ex.load rfl T.ag23 (i := 2) rfl rfl) (ulC (ulC (ulC (ulC ulN)))) (by decide) ?_
 refine GH.takeG 15 (tj := 31) (v := (.pointer (some ⟨b2, o2, none⟩))) rfl rfl rfl (by kernel_rfl) (by kernel_rfl) (by kernel_rfl) (fun _ _ _ h => h) (Ex.cast (Ex.indexAddr rfl rfl Try.underlying23 T.sz43 (by omega) (by omega)) rfl) (ulC (ulC (ulC (ulC ulN)))) (by decide) ?_
 refine GH.takeG 16 (tj := 31) (v := (.pointer (some ⟨b2, o2, none⟩))) rfl rfl rfl (by kernel_rfl) (by kernel_rfl) (by kernel_rfl) (fun _ _ _ h => h) (Ex.cast (Ex.fieldAddr rfl Try.underlying43 rfl T.sz3 (by decide)) rfl) (ulC (ulC (ulC (ulC ulN)))) (by decide) ?_
 refine GH.takeG 17 (tj := 31) (v := (.int .i64 ((pAt qs 0).W))) rfl rfl rfl (by kernel_rfl) (by kernel_rfl) (by kernel_rfl) (fun _ _ _ h => h) (Ex.loadO rfl T.ag3 (Pns.cell (i := 0) (j := 0) hqs (by omega) (by decide) rfl) (fun x => x)) (ulC (ulC (ulC (ulC ulN)))) (by decide) ?_
 refine GH.takeG 18 (tj := 31) (v := (.bool true)) rfl rfl rfl (by kernel_rfl) (by kernel_rfl) (by kernel_rfl) (fun _ _ _ h => h) (Ex.cast (Ex.neq rfl rfl) (congrArg Value.bool (decide_eq_true (by omega)))) (ulC (ulC (ulC (ulC ulN)))) (by decide) ?_
 refine GH.tk 19 (v := (.bool true)) rfl (by kernel_rfl) (fun _ _ _ h => h) (Ex.pickF rfl rfl) (ulC (ulC (ulC (ulC ulN)))) (by decide) ?_
 refine GH.tk 20 (v := (.bool true)) rfl (by kernel_rfl) (fun _ _ _ h => h) (Ex.move rfl) (ulC (ulC (ulC (ulC ulN)))) (by decide) ?_
 refine GH.skipG 21 (tj := 44) rfl rfl rfl rfl (by kernel_rfl) (by kernel_rfl) (by kernel_rfl) (fun _ _ _ h => h) (ulC (ulC (ulC (ulC ulN)))) (by decide) ?_
 refine GH.skipG 22 (tj := 44) rfl rfl rfl rfl (by kernel_rfl) (by kernel_rfl) (by kernel_rfl) (fun _ _ _ h => h) (ulC (ulC (ulC (ulC ulN)))) (by decide) ?_
 refine GH.skipG 23 (tj := 44) rfl rfl rfl rfl (by kernel_rfl) (by kernel_rfl) (by kernel_rfl) (fun _ _ _ h => h) (ulC (ulC (ulC (ulC ulN)))) (by decide) ?_
 refine GH.skipG 24 (tj := 44) rfl rfl rfl rfl (by kernel_rfl) (by kernel_rfl) (by kernel_rfl) (fun _ _ _ h => h) (ulC (ulC (ulC (ulC ulN)))) (by decide) ?_
 refine GH.skipG 25 (tj := 44) rfl rfl rfl rfl (by kernel_rfl) (by kernel_rfl) (by kernel_rfl) (fun _ _ _ h => h) (ulC (ulC (ulC (ulC ulN)))) (by decide) ?_
 refine GH.skipG 26 (tj := 44) rfl rfl rfl rfl (by kernel_rfl) (by kernel_rfl) (by kernel_rfl) (fun _ _ _ h => h) (ulC (ulC (ulC (ulC ulN)))) (by decide) ?_
 refine GH.skipG 27 (tj := 44) rfl rfl rfl rfl (by kernel_rfl) (by kernel_rfl) (by kernel_rfl) (fun _ _ _ h => h) (ulC (ulC (ulC (ulC ulN)))) (by decide) ?_
 refine GH.skipG 28 (tj := 44) rfl rfl rfl rfl (by kernel_rfl) (by kernel_rfl) (by kernel_rfl) (fun _ _ _ h => h) (ulC (ulC (ulC (ulC ulN)))) (by decide) ?_
 refine GH.skipG 29 (tj := 44) rfl rfl rfl rfl (by kernel_rfl) (by kernel_rfl) (by kernel_rfl) (fun _ _ _ h => h) (ulC (ulC (ulC (ulC ulN)))) (by decide) ?_
 refine GH.skipG 30 (tj := 44) rfl rfl rfl rfl (by kernel_rfl) (by kernel_rfl) (by kernel_rfl) (fun _ _ _ h => h) (ulC (ulC (ulC (ulC ulN)))) (by decide) ?_
 refine GH.skipG 31 (tj := 44) rfl rfl rfl rfl (by kernel_rfl) (by kernel_rfl) (by kernel_rfl) (fun _ _ _ h => h) (ulC (ulC (ulC (ulC ulN)))) (by decide) ?_
 refine GH.tk 32 (v := (.bool true)) rfl (by kernel_rfl) (fun _ _ _ h => h) (Ex.pickT rfl rfl) (ulC (ulC (ulC (ulC ulN)))) (by decide) ?_
 refine GH.tk 33 (v := (.bool true)) rfl (by kernel_rfl) (fun _ _ _ h => h) (Ex.assign rfl) (ulC (ulC (ulC (ulC ulN)))) (by decide) ?_
 refine GH.done (by kernel_rfl) ?_
 refine GE.thenN ?_
 refine GC.cond rfl (fun _ => ?_) (fun hq11 => by cases hq11)
 refine GC.seq (GC.region ?_)
 refine GL.val (v := (.agg #[(.int .i64 0), (.slice none 0 0)])) (Ex.build (vs := []) rfl (by first | rfl | kernel_rfl)) (by decide) ?_
 refine GL.step (Stp.st1 (cs' := [(.int .i64 0), (.slice none 0 0)]) rfl rfl rfl T.sz25 rfl rfl rfl) (fun _ _ => ?_)
 refine GL.sg rfl (by decide) ?_
 refine GL.nil (GE.thenN (GC.ret (GE.blockR (GE.thenR ?_))))
 refine GC.ret2 rfl (Rv.cellA rfl T.ag25 T.sz25 (L := _) (i := 1) rfl (vs := [(.int .i64 0), (.slice none 0 0)]) rfl rfl) (Rv.tmp rfl) (fun wN HN => ?_)
 exact HN.ret () trivial rfl (List.nil_sublist _) rfl

theorem two_h (sp sq : Int) (b o n cap b2 o2 m c2 : Nat) (ps qs : List Pn) (W H W2 H2 : Nat) (w : World) (hps : Pns w b o ps) (hn : n = ps.length) (hok : OkPic sp ps W H) (hqs : Pns w b2 o2 qs) (hm : m = qs.length) (hok2 : OkPic sq qs W2 H2) (hnm : n = m) (hww : W = W2) (hbad : H ≠ H2) :
  Calls Try.prog 15 #[(.int .i64 4), (.agg #[(.int .i64 sp), (.slice (some ⟨b, o, none⟩) n cap)]), (.agg #[(.int .i64 sq), (.slice (some ⟨b2, o2, none⟩) m c2)])] w (Ret w (fun _ : Unit => True) (fun _ => .tuple #[(.agg #[(.int .i64 0), (.slice none 0 0)]), .int .i64 80]) (fun _ => [])) := by
 have hn0 := hok.n0
 have hm0 := hok2.n0
 have hq0 := hok.at hok.n0
 have hq1 := hok2.at hok2.n0
 refine enter (M := None) (L := []) (n := 70) (l := [(0, (.int .i64 4)), (1, (.agg #[(.int .i64 sp), (.slice (some ⟨b, o, none⟩) n cap)])), (2, (.agg #[(.int .i64 sq), (.slice (some ⟨b2, o2, none⟩) m c2)]))]) Try.func15 rfl rfl (Args.cons rfl (Args.cons rfl (Args.cons rfl (Args.nil _)))) (Hp.start _ _) ?_
 refine GC.seq (GC.region ?_)
 refine GL.step (Stp.box (cs := [(.int .i64 sp), (.slice (some ⟨b, o, none⟩) n cap)]) rfl rfl (by decide)) (fun bq1 _ => ?_)
 refine GL.step (Stp.box (cs := [(.int .i64 sq), (.slice (some ⟨b2, o2, none⟩) m c2)]) rfl rfl (by decide)) (fun bq2 _ => ?_)
 refine GL.step (Stp.alloc T.zr25 (by decide)) (fun bq3 _ => ?_)
 refine GL.sg rfl (by decide) ?_
 refine GL.nil (GE.thenN (GC.seq (GC.seq (GC.region ?_))))
 refine GL.val (v := (.agg #[(.int .i64 sp), (.slice (some ⟨b, o, none⟩) n cap)])) (Ex.loadA rfl T.ag25 T.sz25 (i := 2) rfl (vs := [(.int .i64 sp), (.slice (some ⟨b, o, none⟩) n cap)]) rfl rfl) (by decide) ?_
 refine GL.val (v := (.agg #[(.int .i64 sq), (.slice (some ⟨b2, o2, none⟩) m c2)])) (Ex.loadA rfl T.ag25 T.sz25 (i := 1) rfl (vs := [(.int .i64 sq), (.slice (some ⟨b2, o2, none⟩) m c2)]) rfl rfl) (by decide) ?_
 refine GL.step (Stp.callR (vs := [(.agg #[(.int .i64 sp), (.slice (some ⟨b, o, none⟩) n cap)]), (.agg #[(.int .i64 sq), (.slice (some ⟨b2, o2, none⟩) m c2)])]) rfl rfl T.own51 (by decide) (fun wc hw => both_g sp sq b o n cap b2 o2 m c2 ps qs W H W2 H2 wc (hps.later hw.1) hn hok (hqs.later hw.1) hm hok2)) (fun xq4 hq5 => ?_)
 refine GL.sg rfl (by decide) ?_
 refine GL.nil (GE.thenN (GC.seq (GC.region ?_)))
 refine GL.mv rfl (by decide) ?_
 refine GL.val (v := (.bool false)) (Ex.cast (Ex.neq rfl rfl) rfl) (by decide) ?_
 refine GL.nil (GE.thenN ?_)
 refine GC.cond rfl (fun hq6 => by cases hq6) (fun _ => ?_)
 refine GC.skip (GE.thenN (GC.seq (GC.region ?_)))
 refine GL.mv rfl (by decide) ?_
 refine GL.step (Stp.callR (vs := [(.int .i64 4)]) rfl rfl T.own52 (by decide) (fun wc hw => two_f4 wc)) (fun xq7 hq8 => ?_)
 refine GL.step (Stp.alloc T.zr97 (by decide)) (fun bq9 _ => ?_)
 refine GL.step (Stp.st0 (cs' := [(.func (.func 87) #[] #[])]) rfl rfl rfl T.sz97 rfl rfl rfl) (fun _ _ => ?_)
 refine GL.nil (GE.thenN (GC.seq (GC.block (GC.seq (GC.region ?_)))))
 refine GL.val (Ex.load rfl T.ag97 (i := 0) rfl rfl) (by decide) ?_
 refine GL.val (v := (.bool false)) (Ex.eqNilF rfl rfl Try.underlying97) (by decide) ?_
 refine GL.sg rfl (by decide) ?_
 refine GL.nil (GE.thenN ?_)
 refine GC.cond rfl (fun hq10 => by cases hq10) (fun _ => ?_)
 refine GC.seq ?_
 refine GC.draw [⟨bq9, [(.func (.func 87) #[] #[])], 97, true⟩, ⟨bq3, [(.int .i64 0), (.slice none 0 0)], 25, true⟩, ⟨bq2, [(.int .i64 sq), (.slice (some ⟨b2, o2, none⟩) m c2)], 25, true⟩, ⟨bq1, [(.int .i64 sp), (.slice (some ⟨b, o, none⟩) n cap)], 25, true⟩] T.mixed (fuel := 34) rfl rfl ?_
 refine GH.tk 0 (v := (.pointer (some ⟨bq1, 1, none⟩))) rfl (by kernel_rfl) (fun _ _ _ h => h) (Ex.cast (Ex.fieldAddr rfl Try.underlying25 rfl T.sz23 (by decide)) rfl) (ulC (ulC (ulC (ulC ulN)))) (by decide) ?_
 refine GH.tk 1 (v := (.slice (some ⟨b, o, none⟩) n cap)) rfl (by kernel_rfl) (fun _ _ _ h => h) (Ex.load rfl T.ag23 (i := 3) rfl rfl) (ulC (ulC (ulC (ulC ulN)))) (by decide) ?_
 refine GH.tk 2 (v := (.int .i64 ((n : Int)))) rfl (by kernel_rfl) (fun _ _ _ h => h) (Ex.len rfl Try.underlying23) (ulC (ulC (ulC (ulC ulN)))) (by decide) ?_
 refine GH.tk 3 (v := (.pointer (some ⟨bq2, 1, none⟩))) rfl (by kernel_rfl) (fun _ _ _ h => h) (Ex.cast (Ex.fieldAddr rfl Try.underlying25 rfl T.sz23 (by decide)) rfl) (ulC (ulC (ulC (ulC ulN)))) (by decide) ?_
 refine GH.tk 4 (v := (.slice (some ⟨b2, o2, none⟩) m c2)) rfl (by kernel_rfl) (fun _ _ _ h => h) (Ex.load rfl T.ag23 (i := 2) rfl rfl) (ulC (ulC (ulC (ulC ulN)))) (by decide) ?_
 refine GH.tk 5 (v := (.int .i64 ((m : Int)))) rfl (by kernel_rfl) (fun _ _ _ h => h) (Ex.len rfl Try.underlying23) (ulC (ulC (ulC (ulC ulN)))) (by decide) ?_
 refine GH.tk 6 (v := (.bool false)) rfl (by kernel_rfl) (fun _ _ _ h => h) (Ex.cast (Ex.neq rfl rfl) (congrArg Value.bool (decide_eq_false (by omega)))) (ulC (ulC (ulC (ulC ulN)))) (by decide) ?_
 refine GH.tk 7 (v := (.bool false)) rfl (by kernel_rfl) (fun _ _ _ h => h) (Ex.move rfl) (ulC (ulC (ulC (ulC ulN)))) (by decide) ?_
 refine GH.takeG 8 (tj := 31) (v := (.pointer (some ⟨bq1, 1, none⟩))) rfl rfl rfl (by kernel_rfl) (by kernel_rfl) (by kernel_rfl) (fun _ _ _ h => h) (Ex.cast (Ex.fieldAddr rfl Try.underlying25 rfl T.sz23 (by decide)) rfl) (ulC (ulC (ulC (ulC ulN)))) (by decide) ?_
 refine GH.takeG 9 (tj := 31) (v := (.slice (some ⟨b, o, none⟩) n cap)) rfl rfl rfl (by kernel_rfl) (by kernel_rfl) (by kernel_rfl) (fun _ _ _ h => h) (Ex.load rfl T.ag23 (i := 3) rfl rfl) (ulC (ulC (ulC (ulC ulN)))) (by decide) ?_
 refine GH.takeG 10 (tj := 31) (v := (.pointer (some ⟨b, o, none⟩))) rfl rfl rfl (by kernel_rfl) (by kernel_rfl) (by kernel_rfl) (fun _ _ _ h => h) (Ex.cast (Ex.indexAddr rfl rfl Try.underlying23 T.sz43 (by omega) (by omega)) rfl) (ulC (ulC (ulC (ulC ulN)))) (by decide) ?_
 refine GH.takeG 11 (tj := 31) (v := (.pointer (some ⟨b, o, none⟩))) rfl rfl rfl (by kernel_rfl) (by kernel_rfl) (by kernel_rfl) (fun _ _ _ h => h) (Ex.cast (Ex.fieldAddr rfl Try.underlying43 rfl T.sz3 (by decide)) rfl) (ulC (ulC (ulC (ulC ulN)))) (by decide) ?_
 refine GH.takeG 12 (tj := 31) (v := (.int .i64 ((pAt ps 0).W))) rfl rfl rfl (by kernel_rfl) (by kernel_rfl) (by kernel_rfl) (fun _ _ _ h => h) (Ex.loadO rfl T.ag3 (Pns.cell (i := 0) (j := 0) hps (by omega) (by decide) rfl) (fun x => x)) (ulC (ulC (ulC (ulC ulN)))) (by decide) ?_
 refine GH.takeG 13 (tj := 31) (v := (.pointer (some ⟨bq2, 1, none⟩))) rfl rfl rfl (by kernel_rfl) (by kernel_rfl) (by kernel_rfl) (fun _ _ _ h => h) (Ex.cast (Ex.fieldAddr rfl Try.underlying25 rfl T.sz23 (by decide)) rfl) (ulC (ulC (ulC (ulC ulN)))) (by decide) ?_
 refine GH.takeG 14 (tj := 31) (v := (.slice (some ⟨b2, o2, none⟩) m c2)) rfl rfl rfl (by kernel_rfl) (by kernel_rfl) (by kernel_rfl) (fun _ _ _ h => h) (Ex.load rfl T.ag23 (i := 2) rfl rfl) (ulC (ulC (ulC (ulC ulN)))) (by decide) ?_
 refine GH.takeG 15 (tj := 31) (v := (.pointer (some ⟨b2, o2, none⟩))) rfl rfl rfl (by kernel_rfl) (by kernel_rfl) (by kernel_rfl) (fun _ _ _ h => h) (Ex.cast (Ex.indexAddr rfl rfl Try.underlying23 T.sz43 (by omega) (by omega)) rfl) (ulC (ulC (ulC (ulC ulN)))) (by decide) ?_
 refine GH.takeG 16 (tj := 31) (v := (.pointer (some ⟨b2, o2, none⟩))) rfl rfl rfl (by kernel_rfl) (by kernel_rfl) (by kernel_rfl) (fun _ _ _ h => h) (Ex.cast (Ex.fieldAddr rfl Try.underlying43 rfl T.sz3 (by decide)) rfl) (ulC (ulC (ulC (ulC ulN)))) (by decide) ?_
 refine GH.takeG 17 (tj := 31) (v := (.int .i64 ((pAt qs 0).W))) rfl rfl rfl (by kernel_rfl) (by kernel_rfl) (by kernel_rfl) (fun _ _ _ h => h) (Ex.loadO rfl T.ag3 (Pns.cell (i := 0) (j := 0) hqs (by omega) (by decide) rfl) (fun x => x)) (ulC (ulC (ulC (ulC ulN)))) (by decide) ?_
 refine GH.takeG 18 (tj := 31) (v := (.bool false)) rfl rfl rfl (by kernel_rfl) (by kernel_rfl) (by kernel_rfl) (fun _ _ _ h => h) (Ex.cast (Ex.neq rfl rfl) (congrArg Value.bool (decide_eq_false (by omega)))) (ulC (ulC (ulC (ulC ulN)))) (by decide) ?_
 refine GH.tk 19 (v := (.bool false)) rfl (by kernel_rfl) (fun _ _ _ h => h) (Ex.pickF rfl rfl) (ulC (ulC (ulC (ulC ulN)))) (by decide) ?_
 refine GH.tk 20 (v := (.bool false)) rfl (by kernel_rfl) (fun _ _ _ h => h) (Ex.move rfl) (ulC (ulC (ulC (ulC ulN)))) (by decide) ?_
 refine GH.takeG 21 (tj := 44) (v := (.pointer (some ⟨bq1, 1, none⟩))) rfl rfl rfl (by kernel_rfl) (by kernel_rfl) (by kernel_rfl) (fun _ _ _ h => h) (Ex.cast (Ex.fieldAddr rfl Try.underlying25 rfl T.sz23 (by decide)) rfl) (ulC (ulC (ulC (ulC ulN)))) (by decide) ?_
 refine GH.takeG 22 (tj := 44) (v := (.slice (some ⟨b, o, none⟩) n cap)) rfl rfl rfl (by kernel_rfl) (by kernel_rfl) (by kernel_rfl) (fun _ _ _ h => h) (Ex.load rfl T.ag23 (i := 3) rfl rfl) (ulC (ulC (ulC (ulC ulN)))) (by decide) ?_
 refine GH.takeG 23 (tj := 44) (v := (.pointer (some ⟨b, o, none⟩))) rfl rfl rfl (by kernel_rfl) (by kernel_rfl) (by kernel_rfl) (fun _ _ _ h => h) (Ex.cast (Ex.indexAddr rfl rfl Try.underlying23 T.sz43 (by omega) (by omega)) rfl) (ulC (ulC (ulC (ulC ulN)))) (by decide) ?_
 refine GH.takeG 24 (tj := 44) (v := (.pointer (some ⟨b, o + 1, none⟩))) rfl rfl rfl (by kernel_rfl) (by kernel_rfl) (by kernel_rfl) (fun _ _ _ h => h) (Ex.cast (Ex.fieldAddr rfl Try.underlying43 rfl T.sz3 (by decide)) rfl) (ulC (ulC (ulC (ulC ulN)))) (by decide) ?_
 refine GH.takeG 25 (tj := 44) (v := (.int .i64 ((pAt ps 0).H))) rfl rfl rfl (by kernel_rfl) (by kernel_rfl) (by kernel_rfl) (fun _ _ _ h => h) (Ex.loadO rfl T.ag3 (Pns.cell (i := 0) (j := 1) hps (by omega) (by decide) rfl) (fun x => x)) (ulC (ulC (ulC (ulC ulN)))) (by decide) ?_
 refine GH.takeG 26 (tj := 44) (v := (.pointer (some ⟨bq2, 1, none⟩))) rfl rfl rfl (by kernel_rfl) (by kernel_rfl) (by kernel_rfl) (fun _ _ _ h => h) (Ex.cast (Ex.fieldAddr rfl Try.underlying25 rfl T.sz23 (by decide)) rfl) (ulC (ulC (ulC (ulC ulN)))) (by decide) ?_
 refine GH.takeG 27 (tj := 44) (v := (.slice (some ⟨b2, o2, none⟩) m c2)) rfl rfl rfl (by kernel_rfl) (by kernel_rfl) (by kernel_rfl) (fun _ _ _ h => h) (Ex.load rfl T.ag23 (i := 2) rfl rfl) (ulC (ulC (ulC (ulC ulN)))) (by decide) ?_
 refine GH.takeG 28 (tj := 44) (v := (.pointer (some ⟨b2, o2, none⟩))) rfl rfl rfl (by kernel_rfl) (by kernel_rfl) (by kernel_rfl) (fun _ _ _ h => h) (Ex.cast (Ex.indexAddr rfl rfl Try.underlying23 T.sz43 (by omega) (by omega)) rfl) (ulC (ulC (ulC (ulC ulN)))) (by decide) ?_
 refine GH.takeG 29 (tj := 44) (v := (.pointer (some ⟨b2, o2 + 1, none⟩))) rfl rfl rfl (by kernel_rfl) (by kernel_rfl) (by kernel_rfl) (fun _ _ _ h => h) (Ex.cast (Ex.fieldAddr rfl Try.underlying43 rfl T.sz3 (by decide)) rfl) (ulC (ulC (ulC (ulC ulN)))) (by decide) ?_
 refine GH.takeG 30 (tj := 44) (v := (.int .i64 ((pAt qs 0).H))) rfl rfl rfl (by kernel_rfl) (by kernel_rfl) (by kernel_rfl) (fun _ _ _ h => h) (Ex.loadO rfl T.ag3 (Pns.cell (i := 0) (j := 1) hqs (by omega) (by decide) rfl) (fun x => x)) (ulC (ulC (ulC (ulC ulN)))) (by decide) ?_
 refine GH.takeG 31 (tj := 44) (v := (.bool true)) rfl rfl rfl (by kernel_rfl) (by kernel_rfl) (by kernel_rfl) (fun _ _ _ h => h) (Ex.cast (Ex.neq rfl rfl) (congrArg Value.bool (decide_eq_true (by omega)))) (ulC (ulC (ulC (ulC ulN)))) (by decide) ?_
 refine GH.tk 32 (v := (.bool true)) rfl (by kernel_rfl) (fun _ _ _ h => h) (Ex.pickF rfl rfl) (ulC (ulC (ulC (ulC ulN)))) (by decide) ?_
 refine GH.tk 33 (v := (.bool true)) rfl (by kernel_rfl) (fun _ _ _ h => h) (Ex.assign rfl) (ulC (ulC (ulC (ulC ulN)))) (by decide) ?_
 refine GH.done (by kernel_rfl) ?_
 refine GE.thenN ?_
 refine GC.cond rfl (fun _ => ?_) (fun hq11 => by cases hq11)
 refine GC.seq (GC.region ?_)
 refine GL.val (v := (.agg #[(.int .i64 0), (.slice none 0 0)])) (Ex.build (vs := []) rfl (by first | rfl | kernel_rfl)) (by decide) ?_
 refine GL.step (Stp.st1 (cs' := [(.int .i64 0), (.slice none 0 0)]) rfl rfl rfl T.sz25 rfl rfl rfl) (fun _ _ => ?_)
 refine GL.sg rfl (by decide) ?_
 refine GL.nil (GE.thenN (GC.ret (GE.blockR (GE.thenR ?_))))
 refine GC.ret2 rfl (Rv.cellA rfl T.ag25 T.sz25 (L := _) (i := 1) rfl (vs := [(.int .i64 0), (.slice none 0 0)]) rfl rfl) (Rv.tmp rfl) (fun wN HN => ?_)
 exact HN.ret () trivial rfl (List.nil_sublist _) rfl

theorem two_s (sp sq : Int) (b o n cap b2 o2 m c2 : Nat) (ps qs : List Pn) (W H W2 H2 : Nat) (w : World) (hps : Pns w b o ps) (hn : n = ps.length) (hok : OkPic sp ps W H) (hqs : Pns w b2 o2 qs) (hm : m = qs.length) (hok2 : OkPic sq qs W2 H2) (hnm : n = m) (hww : W = W2) (hhh : H = H2) (hbad : sp ≠ sq) :
  Calls Try.prog 15 #[(.int .i64 4), (.agg #[(.int .i64 sp), (.slice (some ⟨b, o, none⟩) n cap)]), (.agg #[(.int .i64 sq), (.slice (some ⟨b2, o2, none⟩) m c2)])] w (Ret w (fun _ : Unit => True) (fun _ => .tuple #[(.agg #[(.int .i64 0), (.slice none 0 0)]), .int .i64 81]) (fun _ => [])) := by
 have hn0 := hok.n0
 have hm0 := hok2.n0
 have hq0 := hok.at hok.n0
 have hq1 := hok2.at hok2.n0
 refine enter (M := None) (L := []) (n := 70) (l := [(0, (.int .i64 4)), (1, (.agg #[(.int .i64 sp), (.slice (some ⟨b, o, none⟩) n cap)])), (2, (.agg #[(.int .i64 sq), (.slice (some ⟨b2, o2, none⟩) m c2)]))]) Try.func15 rfl rfl (Args.cons rfl (Args.cons rfl (Args.cons rfl (Args.nil _)))) (Hp.start _ _) ?_
 refine GC.seq (GC.region ?_)
 refine GL.step (Stp.box (cs := [(.int .i64 sp), (.slice (some ⟨b, o, none⟩) n cap)]) rfl rfl (by decide)) (fun bq1 _ => ?_)
 refine GL.step (Stp.box (cs := [(.int .i64 sq), (.slice (some ⟨b2, o2, none⟩) m c2)]) rfl rfl (by decide)) (fun bq2 _ => ?_)
 refine GL.step (Stp.alloc T.zr25 (by decide)) (fun bq3 _ => ?_)
 refine GL.sg rfl (by decide) ?_
 refine GL.nil (GE.thenN (GC.seq (GC.seq (GC.region ?_))))
 refine GL.val (v := (.agg #[(.int .i64 sp), (.slice (some ⟨b, o, none⟩) n cap)])) (Ex.loadA rfl T.ag25 T.sz25 (i := 2) rfl (vs := [(.int .i64 sp), (.slice (some ⟨b, o, none⟩) n cap)]) rfl rfl) (by decide) ?_
 refine GL.val (v := (.agg #[(.int .i64 sq), (.slice (some ⟨b2, o2, none⟩) m c2)])) (Ex.loadA rfl T.ag25 T.sz25 (i := 1) rfl (vs := [(.int .i64 sq), (.slice (some ⟨b2, o2, none⟩) m c2)]) rfl rfl) (by decide) ?_
 refine GL.step (Stp.callR (vs := [(.agg #[(.int .i64 sp), (.slice (some ⟨b, o, none⟩) n cap)]), (.agg #[(.int .i64 sq), (.slice (some ⟨b2, o2, none⟩) m c2)])]) rfl rfl T.own51 (by decide) (fun wc hw => both_g sp sq b o n cap b2 o2 m c2 ps qs W H W2 H2 wc (hps.later hw.1) hn hok (hqs.later hw.1) hm hok2)) (fun xq4 hq5 => ?_)
 refine GL.sg rfl (by decide) ?_
 refine GL.nil (GE.thenN (GC.seq (GC.region ?_)))
 refine GL.mv rfl (by decide) ?_
 refine GL.val (v := (.bool false)) (Ex.cast (Ex.neq rfl rfl) rfl) (by decide) ?_
 refine GL.nil (GE.thenN ?_)
 refine GC.cond rfl (fun hq6 => by cases hq6) (fun _ => ?_)
 refine GC.skip (GE.thenN (GC.seq (GC.region ?_)))
 refine GL.mv rfl (by decide) ?_
 refine GL.step (Stp.callR (vs := [(.int .i64 4)]) rfl rfl T.own52 (by decide) (fun wc hw => two_f4 wc)) (fun xq7 hq8 => ?_)
 refine GL.step (Stp.alloc T.zr97 (by decide)) (fun bq9 _ => ?_)
 refine GL.step (Stp.st0 (cs' := [(.func (.func 87) #[] #[])]) rfl rfl rfl T.sz97 rfl rfl rfl) (fun _ _ => ?_)
 refine GL.nil (GE.thenN (GC.seq (GC.block (GC.seq (GC.region ?_)))))
 refine GL.val (Ex.load rfl T.ag97 (i := 0) rfl rfl) (by decide) ?_
 refine GL.val (v := (.bool false)) (Ex.eqNilF rfl rfl Try.underlying97) (by decide) ?_
 refine GL.sg rfl (by decide) ?_
 refine GL.nil (GE.thenN ?_)
 refine GC.cond rfl (fun hq10 => by cases hq10) (fun _ => ?_)
 refine GC.seq ?_
 refine GC.draw [⟨bq9, [(.func (.func 87) #[] #[])], 97, true⟩, ⟨bq3, [(.int .i64 0), (.slice none 0 0)], 25, true⟩, ⟨bq2, [(.int .i64 sq), (.slice (some ⟨b2, o2, none⟩) m c2)], 25, true⟩, ⟨bq1, [(.int .i64 sp), (.slice (some ⟨b, o, none⟩) n cap)], 25, true⟩] T.mixed (fuel := 34) rfl rfl ?_
 refine GH.tk 0 (v := (.pointer (some ⟨bq1, 1, none⟩))) rfl (by kernel_rfl) (fun _ _ _ h => h) (Ex.cast (Ex.fieldAddr rfl Try.underlying25 rfl T.sz23 (by decide)) rfl) (ulC (ulC (ulC (ulC ulN)))) (by decide) ?_
 refine GH.tk 1 (v := (.slice (some ⟨b, o, none⟩) n cap)) rfl (by kernel_rfl) (fun _ _ _ h => h) (Ex.load rfl T.ag23 (i := 3) rfl rfl) (ulC (ulC (ulC (ulC ulN)))) (by decide) ?_
 refine GH.tk 2 (v := (.int .i64 ((n : Int)))) rfl (by kernel_rfl) (fun _ _ _ h => h) (Ex.len rfl Try.underlying23) (ulC (ulC (ulC (ulC ulN)))) (by decide) ?_
 refine GH.tk 3 (v := (.pointer (some ⟨bq2, 1, none⟩))) rfl (by kernel_rfl) (fun _ _ _ h => h) (Ex.cast (Ex.fieldAddr rfl Try.underlying25 rfl T.sz23 (by decide)) rfl) (ulC (ulC (ulC (ulC ulN)))) (by decide) ?_
 refine GH.tk 4 (v := (.slice (some ⟨b2, o2, none⟩) m c2)) rfl (by kernel_rfl) (fun _ _ _ h => h) (Ex.load rfl T.ag23 (i := 2) rfl rfl) (ulC (ulC (ulC (ulC ulN)))) (by decide) ?_
 refine GH.tk 5 (v := (.int .i64 ((m : Int)))) rfl (by kernel_rfl) (fun _ _ _ h => h) (Ex.len rfl Try.underlying23) (ulC (ulC (ulC (ulC ulN)))) (by decide) ?_
 refine GH.tk 6 (v := (.bool false)) rfl (by kernel_rfl) (fun _ _ _ h => h) (Ex.cast (Ex.neq rfl rfl) (congrArg Value.bool (decide_eq_false (by omega)))) (ulC (ulC (ulC (ulC ulN)))) (by decide) ?_
 refine GH.tk 7 (v := (.bool false)) rfl (by kernel_rfl) (fun _ _ _ h => h) (Ex.move rfl) (ulC (ulC (ulC (ulC ulN)))) (by decide) ?_
 refine GH.takeG 8 (tj := 31) (v := (.pointer (some ⟨bq1, 1, none⟩))) rfl rfl rfl (by kernel_rfl) (by kernel_rfl) (by kernel_rfl) (fun _ _ _ h => h) (Ex.cast (Ex.fieldAddr rfl Try.underlying25 rfl T.sz23 (by decide)) rfl) (ulC (ulC (ulC (ulC ulN)))) (by decide) ?_
 refine GH.takeG 9 (tj := 31) (v := (.slice (some ⟨b, o, none⟩) n cap)) rfl rfl rfl (by kernel_rfl) (by kernel_rfl) (by kernel_rfl) (fun _ _ _ h => h) (Ex.load rfl T.ag23 (i := 3) rfl rfl) (ulC (ulC (ulC (ulC ulN)))) (by decide) ?_
 refine GH.takeG 10 (tj := 31) (v := (.pointer (some ⟨b, o, none⟩))) rfl rfl rfl (by kernel_rfl) (by kernel_rfl) (by kernel_rfl) (fun _ _ _ h => h) (Ex.cast (Ex.indexAddr rfl rfl Try.underlying23 T.sz43 (by omega) (by omega)) rfl) (ulC (ulC (ulC (ulC ulN)))) (by decide) ?_
 refine GH.takeG 11 (tj := 31) (v := (.pointer (some ⟨b, o, none⟩))) rfl rfl rfl (by kernel_rfl) (by kernel_rfl) (by kernel_rfl) (fun _ _ _ h => h) (Ex.cast (Ex.fieldAddr rfl Try.underlying43 rfl T.sz3 (by decide)) rfl) (ulC (ulC (ulC (ulC ulN)))) (by decide) ?_
 refine GH.takeG 12 (tj := 31) (v := (.int .i64 ((pAt ps 0).W))) rfl rfl rfl (by kernel_rfl) (by kernel_rfl) (by kernel_rfl) (fun _ _ _ h => h) (Ex.loadO rfl T.ag3 (Pns.cell (i := 0) (j := 0) hps (by omega) (by decide) rfl) (fun x => x)) (ulC (ulC (ulC (ulC ulN)))) (by decide) ?_
 refine GH.takeG 13 (tj := 31) (v := (.pointer (some ⟨bq2, 1, none⟩))) rfl rfl rfl (by kernel_rfl) (by kernel_rfl) (by kernel_rfl) (fun _ _ _ h => h) (Ex.cast (Ex.fieldAddr rfl Try.underlying25 rfl T.sz23 (by decide)) rfl) (ulC (ulC (ulC (ulC ulN)))) (by decide) ?_
 refine GH.takeG 14 (tj := 31) (v := (.slice (some ⟨b2, o2, none⟩) m c2)) rfl rfl rfl (by kernel_rfl) (by kernel_rfl) (by kernel_rfl) (fun _ _ _ h => h) (Ex.load rfl T.ag23 (i := 2) rfl rfl) (ulC (ulC (ulC (ulC ulN)))) (by decide) ?_
 refine GH.takeG 15 (tj := 31) (v := (.pointer (some ⟨b2, o2, none⟩))) rfl rfl rfl (by kernel_rfl) (by kernel_rfl) (by kernel_rfl) (fun _ _ _ h => h) (Ex.cast (Ex.indexAddr rfl rfl Try.underlying23 T.sz43 (by omega) (by omega)) rfl) (ulC (ulC (ulC (ulC ulN)))) (by decide) ?_
 refine GH.takeG 16 (tj := 31) (v := (.pointer (some ⟨b2, o2, none⟩))) rfl rfl rfl (by kernel_rfl) (by kernel_rfl) (by kernel_rfl) (fun _ _ _ h => h) (Ex.cast (Ex.fieldAddr rfl Try.underlying43 rfl T.sz3 (by decide)) rfl) (ulC (ulC (ulC (ulC ulN)))) (by decide) ?_
 refine GH.takeG 17 (tj := 31) (v := (.int .i64 ((pAt qs 0).W))) rfl rfl rfl (by kernel_rfl) (by kernel_rfl) (by kernel_rfl) (fun _ _ _ h => h) (Ex.loadO rfl T.ag3 (Pns.cell (i := 0) (j := 0) hqs (by omega) (by decide) rfl) (fun x => x)) (ulC (ulC (ulC (ulC ulN)))) (by decide) ?_
 refine GH.takeG 18 (tj := 31) (v := (.bool false)) rfl rfl rfl (by kernel_rfl) (by kernel_rfl) (by kernel_rfl) (fun _ _ _ h => h) (Ex.cast (Ex.neq rfl rfl) (congrArg Value.bool (decide_eq_false (by omega)))) (ulC (ulC (ulC (ulC ulN)))) (by decide) ?_
 refine GH.tk 19 (v := (.bool false)) rfl (by kernel_rfl) (fun _ _ _ h => h) (Ex.pickF rfl rfl) (ulC (ulC (ulC (ulC ulN)))) (by decide) ?_
 refine GH.tk 20 (v := (.bool false)) rfl (by kernel_rfl) (fun _ _ _ h => h) (Ex.move rfl) (ulC (ulC (ulC (ulC ulN)))) (by decide) ?_
 refine GH.takeG 21 (tj := 44) (v := (.pointer (some ⟨bq1, 1, none⟩))) rfl rfl rfl (by kernel_rfl) (by kernel_rfl) (by kernel_rfl) (fun _ _ _ h => h) (Ex.cast (Ex.fieldAddr rfl Try.underlying25 rfl T.sz23 (by decide)) rfl) (ulC (ulC (ulC (ulC ulN)))) (by decide) ?_
 refine GH.takeG 22 (tj := 44) (v := (.slice (some ⟨b, o, none⟩) n cap)) rfl rfl rfl (by kernel_rfl) (by kernel_rfl) (by kernel_rfl) (fun _ _ _ h => h) (Ex.load rfl T.ag23 (i := 3) rfl rfl) (ulC (ulC (ulC (ulC ulN)))) (by decide) ?_
 refine GH.takeG 23 (tj := 44) (v := (.pointer (some ⟨b, o, none⟩))) rfl rfl rfl (by kernel_rfl) (by kernel_rfl) (by kernel_rfl) (fun _ _ _ h => h) (Ex.cast (Ex.indexAddr rfl rfl Try.underlying23 T.sz43 (by omega) (by omega)) rfl) (ulC (ulC (ulC (ulC ulN)))) (by decide) ?_
 refine GH.takeG 24 (tj := 44) (v := (.pointer (some ⟨b, o + 1, none⟩))) rfl rfl rfl (by kernel_rfl) (by kernel_rfl) (by kernel_rfl) (fun _ _ _ h => h) (Ex.cast (Ex.fieldAddr rfl Try.underlying43 rfl T.sz3 (by decide)) rfl) (ulC (ulC (ulC (ulC ulN)))) (by decide) ?_
 refine GH.takeG 25 (tj := 44) (v := (.int .i64 ((pAt ps 0).H))) rfl rfl rfl (by kernel_rfl) (by kernel_rfl) (by kernel_rfl) (fun _ _ _ h => h) (Ex.loadO rfl T.ag3 (Pns.cell (i := 0) (j := 1) hps (by omega) (by decide) rfl) (fun x => x)) (ulC (ulC (ulC (ulC ulN)))) (by decide) ?_
 refine GH.takeG 26 (tj := 44) (v := (.pointer (some ⟨bq2, 1, none⟩))) rfl rfl rfl (by kernel_rfl) (by kernel_rfl) (by kernel_rfl) (fun _ _ _ h => h) (Ex.cast (Ex.fieldAddr rfl Try.underlying25 rfl T.sz23 (by decide)) rfl) (ulC (ulC (ulC (ulC ulN)))) (by decide) ?_
 refine GH.takeG 27 (tj := 44) (v := (.slice (some ⟨b2, o2, none⟩) m c2)) rfl rfl rfl (by kernel_rfl) (by kernel_rfl) (by kernel_rfl) (fun _ _ _ h => h) (Ex.load rfl T.ag23 (i := 2) rfl rfl) (ulC (ulC (ulC (ulC ulN)))) (by decide) ?_
 refine GH.takeG 28 (tj := 44) (v := (.pointer (some ⟨b2, o2, none⟩))) rfl rfl rfl (by kernel_rfl) (by kernel_rfl) (by kernel_rfl) (fun _ _ _ h => h) (Ex.cast (Ex.indexAddr rfl rfl Try.underlying23 T.sz43 (by omega) (by omega)) rfl) (ulC (ulC (ulC (ulC ulN)))) (by decide) ?_
 refine GH.takeG 29 (tj := 44) (v := (.pointer (some ⟨b2, o2 + 1, none⟩))) rfl rfl rfl (by kernel_rfl) (by kernel_rfl) (by kernel_rfl) (fun _ _ _ h => h) (Ex.cast (Ex.fieldAddr rfl Try.underlying43 rfl T.sz3 (by decide)) rfl) (ulC (ulC (ulC (ulC ulN)))) (by decide) ?_
 refine GH.takeG 30 (tj := 44) (v := (.int .i64 ((pAt qs 0).H))) rfl rfl rfl (by kernel_rfl) (by kernel_rfl) (by kernel_rfl) (fun _ _ _ h => h) (Ex.loadO rfl T.ag3 (Pns.cell (i := 0) (j := 1) hqs (by omega) (by decide) rfl) (fun x => x)) (ulC (ulC (ulC (ulC ulN)))) (by decide) ?_
 refine GH.takeG 31 (tj := 44) (v := (.bool false)) rfl rfl rfl (by kernel_rfl) (by kernel_rfl) (by kernel_rfl) (fun _ _ _ h => h) (Ex.cast (Ex.neq rfl rfl) (congrArg Value.bool (decide_eq_false (by omega)))) (ulC (ulC (ulC (ulC ulN)))) (by decide) ?_
 refine GH.tk 32 (v := (.bool false)) rfl (by kernel_rfl) (fun _ _ _ h => h) (Ex.pickF rfl rfl) (ulC (ulC (ulC (ulC ulN)))) (by decide) ?_
 refine GH.tk 33 (v := (.bool false)) rfl (by kernel_rfl) (fun _ _ _ h => h) (Ex.assign rfl) (ulC (ulC (ulC (ulC ulN)))) (by decide) ?_
 refine GH.done (by kernel_rfl) ?_
 refine GE.thenN ?_
 refine GC.cond rfl (fun hq11 => by cases hq11) (fun _ => ?_)
 refine GC.seq (GC.region ?_)
 refine GL.val (v := (.pointer (some ⟨bq1, 0, none⟩))) (Ex.cast (Ex.fieldAddr rfl Try.underlying25 rfl T.sz3 (by decide)) rfl) (by decide) ?_
 refine GL.val (Ex.load rfl T.ag3 (i := 3) rfl rfl) (by decide) ?_
 refine GL.val (v := (.pointer (some ⟨bq2, 0, none⟩))) (Ex.cast (Ex.fieldAddr rfl Try.underlying25 rfl T.sz3 (by decide)) rfl) (by decide) ?_
 refine GL.val (Ex.load rfl T.ag3 (i := 2) rfl rfl) (by decide) ?_
 refine GL.val (v := (.bool true)) (Ex.cast (Ex.neq rfl rfl) (congrArg Value.bool (decide_eq_true (by exact hbad)))) (by decide) ?_
 refine GL.sg rfl (by decide) ?_
 refine GL.nil (GE.thenN ?_)
 refine GC.cond rfl (fun _ => ?_) (fun hq12 => by cases hq12)
 refine GC.seq (GC.region ?_)
 refine GL.val (v := (.agg #[(.int .i64 0), (.slice none 0 0)])) (Ex.build (vs := []) rfl (by first | rfl | kernel_rfl)) (by decide) ?_
 refine GL.step (Stp.st1 (cs' := [(.int .i64 0), (.slice none 0 0)]) rfl rfl rfl T.sz25 rfl rfl rfl) (fun _ _ => ?_)
 refine GL.sg rfl (by decide) ?_
 refine GL.nil (GE.thenN (GC.ret (GE.blockR (GE.thenR ?_))))
 refine GC.ret2 rfl (Rv.cellA rfl T.ag25 T.sz25 (L := _) (i := 1) rfl (vs := [(.int .i64 0), (.slice none 0 0)]) rfl rfl) (Rv.tmp rfl) (fun wN HN => ?_)
 exact HN.ret () trivial rfl (List.nil_sublist _) rfl

theorem two_u (sp sq : Int) (b o n cap b2 o2 m c2 : Nat) (ps qs : List Pn) (W H W2 H2 : Nat) (A B : Nat) (w : World) (hps : Pns w b o ps) (hn : n = ps.length) (hok : OkPic sp ps W H) (hqs : Pns w b2 o2 qs) (hm : m = qs.length) (hok2 : OkPic sq qs W2 H2) (hP : Kp.In w sp ps W H A n) (hQ : Kp.In w sq qs W2 H2 B m) : Calls Try.prog 15 #[.int .i64 4, (.agg #[(.int .i64 sp), (.slice (some ⟨b, o, none⟩) n cap)]), (.agg #[(.int .i64 sq), (.slice (some ⟨b2, o2, none⟩) m c2)])] w (Ret w (fun r : Ac => r.Ok ∧ (∀ q ∈ r.qs, q.Ok) ∧ r.ds = Kp.twD Bt.lst sp sq ps qs n m W W2 H H2) (fun r => .tuple #[(.agg #[(.int .i64 ((picS (Kp.twE sp sq n m W W2 H H2) sp))), (.slice r.ad r.n r.cp)]), .int .i64 (Kp.twE sp sq n m W W2 H H2)]) (fun r => r.blks 43 28)) := by
 have no : ∀ (v : Int), Kp.twE sp sq n m W W2 H H2 = v → v ≠ 0 → ∀ {e : Ending} {w' : World}, Ret w (fun _ : Unit => True) (fun _ => .tuple #[.agg #[.int .i64 0, .slice none 0 0], .int .i64 v]) (fun _ => []) e w' → (Ret w (fun r : Ac => r.Ok ∧ (∀ q ∈ r.qs, q.Ok) ∧ r.ds = Kp.twD Bt.lst sp sq ps qs n m W W2 H H2) (fun r => .tuple #[(.agg #[(.int .i64 ((picS (Kp.twE sp sq n m W W2 H H2) sp))), (.slice r.ad r.n r.cp)]), .int .i64 (Kp.twE sp sq n m W W2 H H2)]) (fun r => r.blks 43 28)) e w' := fun v hv h0 e w' hr =>
  Ret.to (fun _ => Ac.no) hr (fun _ _ => ⟨Or.inl rfl, fun q hq => (by cases hq), by unfold Kp.twD; rw [if_neg (by rw [hv]; exact h0)]; rfl⟩) (fun _ _ => by rw [hv]; unfold picS; rw [if_neg h0]; rfl) (fun _ _ => rfl)
 by_cases h1 : n = m
 ·by_cases h2 : W = W2
  ·by_cases h3 : H = H2
   ·by_cases h4 : sp = sq
    ·subst h1 h2 h3 h4
     have hv : Kp.twE sp sp n n W W H H = 0 := by unfold Kp.twE; rw [if_neg (by omega), if_neg (by omega)]
     refine (two_ok 4 sp b o n cap b2 o2 c2 ps qs W H 87 Bt.lst w hps hn hok hqs hm hok2 (fun w' => two_f4 w') (fun i hi => ⟨T.own87, fun x hx y hy w' _ => least_p x y w' ((hP.as i hi).2.2.2 x hx) ((hQ.as i hi).2.2.2 y hy)⟩)).mono fun e w' hr => ?_
     exact Ret.to id hr (fun r h => ⟨h.2.2.1, h.2.2.2, by unfold Kp.twD; rw [if_pos hv]; exact h.2.1⟩) (fun r h => by rw [hv]; rfl) (fun _ _ => rfl)
    ·exact (two_s sp sq b o n cap b2 o2 m c2 ps qs W H W2 H2 w hps hn hok hqs hm hok2 h1 h2 h3 h4).mono fun e w' hr => no 81 (by unfold Kp.twE; rw [if_neg (by omega), if_pos h4]) (by decide) hr
   ·exact (two_h sp sq b o n cap b2 o2 m c2 ps qs W H W2 H2 w hps hn hok hqs hm hok2 h1 h2 h3).mono fun e w' hr => no 80 (by unfold Kp.twE; rw [if_pos (by omega)]) (by decide) hr
  ·exact (two_w sp sq b o n cap b2 o2 m c2 ps qs W H W2 H2 w hps hn hok hqs hm hok2 h1 h2).mono fun e w' hr => no 80 (by unfold Kp.twE; rw [if_pos (by omega)]) (by decide) hr
 ·exact (two_n sp sq b o n cap b2 o2 m c2 ps qs W H W2 H2 w hps hn hok hqs hm hok2 h1).mono fun e w' hr => no 80 (by unfold Kp.twE; rw [if_pos (by omega)]) (by decide) hr

theorem new_k (sp s : Int) (n W H : Nat) (w : World) (hn : 1 ≤ n ∧ n ≤ 4) (hok : okP W H) (hs : spc sp n = 0) : Calls Try.prog 17 #[.int .i64 sp, .int .i64 ((n : Nat) : Int), .int .i64 ((W : Nat) : Int), .int .i64 ((H : Nat) : Int), .int .u32 s] w (Ret w (fun r : Ac => r.qs ≠ [] ∧ r.ds = ((List.range n).map (Kp.one1 W H s)) ∧ r.Ok ∧ ∀ q ∈ r.qs, q.Ok) (fun r => .tuple #[.agg #[.int .i64 sp, .slice r.ad n r.cp], .int .i64 0]) (fun r => r.blks 43 28)) := by
 have hE : newE sp ((n : Nat) : Int) W H = 0 := by rw [newE_mid hn hok]; exact hs
 refine (newp sp s n W H w hn hok).mono fun e w' hr => ?_
 refine Ret.to id hr (fun r h => ?_) (fun r h => ?_) (fun _ _ => rfl)
 ·have hd : r.ds = (List.range n).map (Kp.one1 W H s) := by rw [h.2.2, newD_ok hE]; rfl
  have hl : r.n = n := by rw [← Ac.ds_len, hd]; simp
  exact ⟨Ac.ne (show 0 < r.n by omega), hd, h.1, h.2.1⟩
 ·have hl : r.n = n := by rw [← Ac.ds_len, h.2.2, newD_ok hE]; simp
  rw [hE, hl]; rfl

theorem affine_k (sp : Int) (b o n cap : Nat) (ps : List Pn) (W H A : Nat) (w : World) (hps : Pns w b o ps) (hn : n = ps.length) (hok : OkPic sp ps W H) (hI : Kp.In w sp ps W H A n) : Calls Try.prog 13 #[(.agg #[(.int .i64 sp), (.slice (some ⟨b, o, none⟩) n cap)]), .int .i64 (-1), .int .u32 1065353216, .int .u32 2147483648] w (Ret w (fun r : Ac => r.qs ≠ [] ∧ r.ds = ((List.range n).map (mpG Kp.kmd (-1) ps)) ∧ r.Ok ∧ ∀ q ∈ r.qs, q.Ok) (fun r => .tuple #[.agg #[.int .i64 sp, .slice (some ⟨r.b, 0, none⟩) n r.cap], .int .i64 0]) (fun r => r.blks 43 28)) := by
 refine (affine_a sp (some ⟨b, o, none⟩) n cap ps W H 1065353216 2147483648 Kp.kmd w hps.a hn hok (fun p hp x hx w' _ => fma_one x w' (hI.u p hp x hx))).mono fun e w' hr => ?_
 exact Ret.to id hr (fun _ h => h) (fun r h => by rw [(Ac.sm h.1).1, (Ac.sm h.1).2.1]; rfl) (fun _ _ => rfl)

theorem pic_same (e1 e2 sp sq : Int) (x y : Ac) (w : World) (hs : picS e1 sp = picS e2 sq) (hd : x.pl.map Pn.d = y.pl.map Pn.d) (hn : x.n ≤ 4) (h1 : PnR w x.ad x.pl) (h2 : PnR w y.ad y.pl) : Calls Try.prog 19 #[(.agg #[(.int .i64 ((picS e1 sp))), (.slice x.ad x.n x.cp)]), (.agg #[(.int .i64 ((picS e2 sq))), (.slice y.ad y.n y.cp)])] w (Ret w (fun _ : Unit => True) (fun _ => .bool true) (fun _ => [])) := by
 have e3 : x.n = y.n := by rw [← Ac.pl_len, ← Ac.pl_len]; simpa using congrArg List.length hd
 rw [← hs, ← e3]
 exact pic_eq (picS e1 sp) x.ad y.ad x.n x.cp y.cp x.pl y.pl w (Ac.pl_len _).symm (by omega) hd h1 h2

end Go.Proofs.Ytiikkhbmhojbaaa.C
