/- PictureMaps: what its code does, walked. -/
import Derived.Test.YtiikkhbmhojbaaaGreatKMaps3
namespace Go.Proofs.YtiikkhbmhojbaaaGreat.C
open Go Go.RowKit Sx
set_option linter.unusedVariables false
set_option maxRecDepth 100000
set_option maxHeartbeats 1000000
theorem kn_new80 (w : World) : Calls Tryz.prog 34 #[(.int .i64 0), (.int .i64 5), (.int .i64 1), (.int .i64 1), (.int .u32 0)] w (Ret w (fun r : Ac => r.Ok ∧ (∀ q ∈ r.qs, q.Ok) ∧ r.ds = newD 0 5 1 1 0) (fun r => (.tuple #[(.agg #[(.int .i64 ((picS 80 0))), (.slice r.ad r.n r.cp)]), (.int .i64 80)])) (fun r => r.blks 75 52)) := by
 have h := newp_u 0 5 1 1 0 w
 rw [show newE 0 5 1 1 = 80 from by decide] at h
 exact h

theorem known (w : World) :
  Calls Tryz.prog 6 #[] w (Ret w (fun _ : Unit => True) (fun _ => .bool true) (fun _ => [])) := by
 refine enter (M := None) (L := []) (n := 90) (l := []) Tryz.func6 rfl rfl (Args.nil _) (Hp.start _ _) ?_
 refine GC.seq (GC.region ?_)
 refine GL.sg rfl (by decide) ?_
 refine GL.nil (GE.thenN (GC.seq (GC.region ?_)))
 refine GL.step (Stp.buildSlice (cs := [(.int .u32 1065353216), (.int .u32 1073741824), (.int .u32 1082130432)]) (vs := [(0, (.int .u32 1065353216)), (1, (.int .u32 1073741824)), (2, (.int .u32 1082130432))]) Tryz.underlying53 T.zr52 T.sz52 rfl (by decide) (by decide) (by first | rfl | kernel_rfl) (by decide)) (fun bq1 _ => ?_)
 refine GL.step (Stp.call (vs := [(.int .i64 1), (.slice (some ⟨bq1, 0, none⟩) 3 3)]) rfl rfl T.own33 (by decide) (fun wc hw => (Ret.frm (L' := fun x => (⟨bq1, [(.int .u32 1065353216), (.int .u32 1073741824), (.int .u32 1082130432)], 52, true⟩ :: (x.blks 75 52 ++ ([] : List Blk)))) hw (place 1 bq1 0 3 3 [1065353216, 1073741824, 1082130432] wc rfl (by decide) (by decide) (hw.rdOf (i := 0) rfl 0)) (fun x w' _ h => by exact Hp.segsT (T := ([] : List Blk)) (A := [x.blks 75 52, [⟨bq1, [(.int .u32 1065353216), (.int .u32 1073741824), (.int .u32 1082130432)], 52, true⟩]]) (idx := [1, 0]) 2 [] h rfl (by decide) rfl)))) (fun xq2 hq3 => ?_)
 refine GL.step (Stp.alloc T.zr24 (by decide)) (fun bq4 _ => ?_)
 refine GL.step (Stp.st0 (cs' := [(.int .i64 1), (.slice xq2.ad 3 xq2.cp)]) rfl rfl rfl T.sz24 rfl rfl rfl) (fun _ _ => ?_)
 refine GL.nil (GE.thenN (GC.seq (GC.region ?_)))
 refine GL.val (v := (.agg #[(.int .i64 1), (.slice xq2.ad 3 xq2.cp)])) (Ex.loadA rfl T.ag24 T.sz24 (i := 0) rfl (vs := [(.int .i64 1), (.slice xq2.ad 3 xq2.cp)]) rfl rfl) (by decide) ?_
 refine GL.step (Stp.call (vs := [(.agg #[(.int .i64 1), (.slice xq2.ad 3 xq2.cp)]), (.int .i64 (-1)), (.int .u32 1073741824), (.int .u32 1065353216)]) rfl rfl T.own23 (by decide) (fun wc hw => (Ret.frm (L' := fun x => (⟨bq4, [(.int .i64 1), (.slice xq2.ad 3 xq2.cp)], 24, true⟩ :: ⟨bq1, [(.int .u32 1065353216), (.int .u32 1073741824), (.int .u32 1082130432)], 52, true⟩ :: (x.blks 75 52 ++ (xq2.blks 75 52 ++ ([] : List Blk))))) hw (affine_a 1 xq2.ad 3 xq2.cp xq2.pl 1 1 1073741824 1065353216 (fun x : Int => if x = 1065353216 then (1077936128 : Int) else if x = 1073741824 then 1084227584 else 1091567616) wc (ones_pa hq3.2.1 (by decide) (Hp.seg (T := ([] : List Blk)) (A := [[_, _], xq2.blks 75 52]) hw 1 rfl)) (by rw [Ac.pl_len]; exact (ones_len hq3.2.1).symm) (ones_ok hq3.2.1 (by decide) (by decide) (by decide)) (fun p hp x hx w' _ => kn_fma x (ones_mem hq3.2.1 p hp x hx) w')) (fun x w' _ h => by exact Hp.segsT (T := ([] : List Blk)) (A := [x.blks 75 52, [⟨bq4, [(.int .i64 1), (.slice xq2.ad 3 xq2.cp)], 24, true⟩, ⟨bq1, [(.int .u32 1065353216), (.int .u32 1073741824), (.int .u32 1082130432)], 52, true⟩], xq2.blks 75 52]) (idx := [1, 0, 2]) 3 [] h rfl (by decide) rfl)))) (fun xq5 hq6 => ?_)
 refine GL.mv rfl (by decide) ?_
 refine GL.val (Ex.extract rfl rfl) (by decide) ?_
 refine GL.val (Ex.extract rfl rfl) (by decide) ?_
 refine GL.step (Stp.alloc T.zr24 (by decide)) (fun bq7 _ => ?_)
 refine GL.step (Stp.st0 (cs' := [(.int .i64 1), (.slice xq5.ad 3 xq5.cp)]) rfl rfl rfl T.sz24 rfl rfl rfl) (fun _ _ => ?_)
 refine GL.sg rfl (by decide) ?_
 refine GL.nil (GE.thenN (GC.seq (GC.region ?_)))
 refine GL.val (v := (.agg #[(.int .i64 1), (.slice xq2.ad 3 xq2.cp)])) (Ex.loadA rfl T.ag24 T.sz24 (i := 1) rfl (vs := [(.int .i64 1), (.slice xq2.ad 3 xq2.cp)]) rfl rfl) (by decide) ?_
 refine GL.val (v := (.agg #[(.int .u32 0), (.int .u32 0), (.int .u32 1065353216), (.int .u32 0), (.int .u32 1065353216), (.int .u32 0), (.int .u32 1065353216), (.int .u32 0), (.int .u32 0)])) (Ex.build (vs := [(0, (.int .u32 0)), (1, (.int .u32 0)), (2, (.int .u32 1065353216)), (3, (.int .u32 0)), (4, (.int .u32 1065353216)), (5, (.int .u32 0)), (6, (.int .u32 1065353216)), (7, (.int .u32 0)), (8, (.int .u32 0))]) rfl (by first | rfl | kernel_rfl)) (by decide) ?_
 refine GL.step (Stp.call (vs := [(.agg #[(.int .i64 1), (.slice xq2.ad 3 xq2.cp)]), (.agg #[(.int .u32 0), (.int .u32 0), (.int .u32 1065353216), (.int .u32 0), (.int .u32 1065353216), (.int .u32 0), (.int .u32 1065353216), (.int .u32 0), (.int .u32 0)])]) rfl rfl T.own27 (by decide) (fun wc hw => (Ret.frm (L' := fun x => (⟨bq7, [(.int .i64 1), (.slice xq5.ad 3 xq5.cp)], 24, true⟩ :: ⟨bq4, [(.int .i64 1), (.slice xq2.ad 3 xq2.cp)], 24, true⟩ :: ⟨bq1, [(.int .u32 1065353216), (.int .u32 1073741824), (.int .u32 1082130432)], 52, true⟩ :: (x.blks 75 52 ++ (xq5.blks 75 52 ++ (xq2.blks 75 52 ++ ([] : List Blk)))))) hw (matrix_sw_a 1 xq2.ad 3 xq2.cp xq2.pl 1 1 1 (fun x y z : Int => (z, y, x)) wc (ones_pa hq3.2.1 (by decide) (Hp.seg (T := ([] : List Blk)) (A := [[_, _, _], xq5.blks 75 52, xq2.blks 75 52]) hw 2 rfl)) (by rw [Ac.pl_len]; exact (ones_len hq3.2.1).symm) (ones_ok hq3.2.1 (by decide) (by decide) (by decide)) rfl (by decide) (fun bR w' hh x hx y hy z hz => by
  have ex : x = 1065353216 := (by rw [(ones_at hq3.2.1 (show 0 < _ by decide)).2.2] at hx; exact List.mem_singleton.1 hx)
  have ey : y = 1073741824 := (by rw [(ones_at hq3.2.1 (show 1 < _ by decide)).2.2] at hy; exact List.mem_singleton.1 hy)
  have ez : z = 1082130432 := (by rw [(ones_at hq3.2.1 (show 2 < _ by decide)).2.2] at hz; exact List.mem_singleton.1 hz)
  subst ex ey ez
  exact q64_45 bR w' hh)) (fun x w' _ h => by exact Hp.segsT (T := ([] : List Blk)) (A := [x.blks 75 52, [⟨bq7, [(.int .i64 1), (.slice xq5.ad 3 xq5.cp)], 24, true⟩, ⟨bq4, [(.int .i64 1), (.slice xq2.ad 3 xq2.cp)], 24, true⟩, ⟨bq1, [(.int .u32 1065353216), (.int .u32 1073741824), (.int .u32 1082130432)], 52, true⟩], xq5.blks 75 52, xq2.blks 75 52]) (idx := [1, 0, 2, 3]) 4 [] h rfl (by decide) rfl)))) (fun xq8 hq9 => ?_)
 refine GL.mv rfl (by decide) ?_
 refine GL.val (Ex.extract rfl rfl) (by decide) ?_
 refine GL.val (Ex.extract rfl rfl) (by decide) ?_
 refine GL.step (Stp.alloc T.zr24 (by decide)) (fun bq10 _ => ?_)
 refine GL.step (Stp.st0 (cs' := [(.int .i64 1), (.slice xq8.ad 3 xq8.cp)]) rfl rfl rfl T.sz24 rfl rfl rfl) (fun _ _ => ?_)
 refine GL.sg rfl (by decide) ?_
 refine GL.nil (GE.thenN (GC.seq (GC.region ?_)))
 refine GL.val (v := (.agg #[(.int .i64 1), (.slice xq2.ad 3 xq2.cp)])) (Ex.loadA rfl T.ag24 T.sz24 (i := 2) rfl (vs := [(.int .i64 1), (.slice xq2.ad 3 xq2.cp)]) rfl rfl) (by decide) ?_
 refine GL.val (v := (.agg #[(.int .i64 1), (.slice xq2.ad 3 xq2.cp)])) (Ex.loadA rfl T.ag24 T.sz24 (i := 2) rfl (vs := [(.int .i64 1), (.slice xq2.ad 3 xq2.cp)]) rfl rfl) (by decide) ?_
 refine GL.step (Stp.call (vs := [(.int .i64 2), (.agg #[(.int .i64 1), (.slice xq2.ad 3 xq2.cp)]), (.agg #[(.int .i64 1), (.slice xq2.ad 3 xq2.cp)])]) rfl rfl T.own29 (by decide) (fun wc hw => (Ret.frm (L' := fun x => (⟨bq10, [(.int .i64 1), (.slice xq8.ad 3 xq8.cp)], 24, true⟩ :: ⟨bq7, [(.int .i64 1), (.slice xq5.ad 3 xq5.cp)], 24, true⟩ :: ⟨bq4, [(.int .i64 1), (.slice xq2.ad 3 xq2.cp)], 24, true⟩ :: ⟨bq1, [(.int .u32 1065353216), (.int .u32 1073741824), (.int .u32 1082130432)], 52, true⟩ :: (x.blks 75 52 ++ (xq8.blks 75 52 ++ (xq5.blks 75 52 ++ (xq2.blks 75 52 ++ ([] : List Blk))))))) hw (two_a 2 1 xq2.ad 3 xq2.cp xq2.pl 1 1 xq2.ad xq2.cp xq2.pl 108 (fun _ _ => 0) wc (ones_pa hq3.2.1 (by decide) (Hp.seg (T := ([] : List Blk)) (A := [[_, _, _, _], xq8.blks 75 52, xq5.blks 75 52, xq2.blks 75 52]) hw 3 rfl)) (by rw [Ac.pl_len]; exact (ones_len hq3.2.1).symm) (ones_ok hq3.2.1 (by decide) (by decide) (by decide)) (ones_pa hq3.2.1 (by decide) (Hp.seg (T := ([] : List Blk)) (A := [[_, _, _, _], xq8.blks 75 52, xq5.blks 75 52, xq2.blks 75 52]) hw 3 rfl)) (by rw [Ac.pl_len]; exact (ones_len hq3.2.1).symm) (ones_ok hq3.2.1 (by decide) (by decide) (by decide)) (fun w' => two_f2 w') (fun i hi => ⟨T.own108, fun x hx y hy w' _ => by
  have e := (ones_at hq3.2.1 (show i < _ from hi)).2.2
  have hm := ones_mem hq3.2.1 _ (pAt_mem (by rw [Ac.pl_len, ones_len hq3.2.1]; exact hi)) _ hx
  rw [e] at hx hy
  have ex := List.mem_singleton.1 hx
  have ey := List.mem_singleton.1 hy
  rw [ey, ← ex]
  exact kn_sub x hm w'⟩)) (fun x w' _ h => by exact Hp.segsT (T := ([] : List Blk)) (A := [x.blks 75 52, [⟨bq10, [(.int .i64 1), (.slice xq8.ad 3 xq8.cp)], 24, true⟩, ⟨bq7, [(.int .i64 1), (.slice xq5.ad 3 xq5.cp)], 24, true⟩, ⟨bq4, [(.int .i64 1), (.slice xq2.ad 3 xq2.cp)], 24, true⟩, ⟨bq1, [(.int .u32 1065353216), (.int .u32 1073741824), (.int .u32 1082130432)], 52, true⟩], xq8.blks 75 52, xq5.blks 75 52, xq2.blks 75 52]) (idx := [1, 0, 2, 3, 4]) 5 [] h rfl (by decide) rfl)))) (fun xq11 hq12 => ?_)
 refine GL.mv rfl (by decide) ?_
 refine GL.val (Ex.extract rfl rfl) (by decide) ?_
 refine GL.val (Ex.extract rfl rfl) (by decide) ?_
 refine GL.step (Stp.alloc T.zr24 (by decide)) (fun bq13 _ => ?_)
 refine GL.step (Stp.st0 (cs' := [(.int .i64 1), (.slice xq11.ad 3 xq11.cp)]) rfl rfl rfl T.sz24 rfl rfl rfl) (fun _ _ => ?_)
 refine GL.sg rfl (by decide) ?_
 refine GL.nil (GE.thenN (GC.seq (GC.region ?_)))
 refine GL.val (v := (.agg #[(.int .i64 1), (.slice xq2.ad 3 xq2.cp)])) (Ex.loadA rfl T.ag24 T.sz24 (i := 3) rfl (vs := [(.int .i64 1), (.slice xq2.ad 3 xq2.cp)]) rfl rfl) (by decide) ?_
 refine GL.step (Stp.call (vs := [(.agg #[(.int .i64 1), (.slice xq2.ad 3 xq2.cp)]), (.int .i64 (-1)), (.int .u32 1069547520), (.int .u32 1077936128)]) rfl rfl T.own25 (by decide) (fun wc hw => (Ret.frm (L' := fun x => (⟨bq13, [(.int .i64 1), (.slice xq11.ad 3 xq11.cp)], 24, true⟩ :: ⟨bq10, [(.int .i64 1), (.slice xq8.ad 3 xq8.cp)], 24, true⟩ :: ⟨bq7, [(.int .i64 1), (.slice xq5.ad 3 xq5.cp)], 24, true⟩ :: ⟨bq4, [(.int .i64 1), (.slice xq2.ad 3 xq2.cp)], 24, true⟩ :: ⟨bq1, [(.int .u32 1065353216), (.int .u32 1073741824), (.int .u32 1082130432)], 52, true⟩ :: (x.blks 75 52 ++ (xq11.blks 75 52 ++ (xq8.blks 75 52 ++ (xq5.blks 75 52 ++ (xq2.blks 75 52 ++ ([] : List Blk)))))))) hw (between_a 1 xq2.ad 3 xq2.cp xq2.pl 1 1 1069547520 1077936128 (fun x : Int => if x = 1065353216 then (1069547520 : Int) else if x = 1073741824 then 1073741824 else 1077936128) wc (ones_pa hq3.2.1 (by decide) (Hp.seg (T := ([] : List Blk)) (A := [[_, _, _, _, _], xq11.blks 75 52, xq8.blks 75 52, xq5.blks 75 52, xq2.blks 75 52]) hw 4 rfl)) (by rw [Ac.pl_len]; exact (ones_len hq3.2.1).symm) (ones_ok hq3.2.1 (by decide) (by decide) (by decide)) (fun p hp x hx w' _ => kn_between x (ones_mem hq3.2.1 p hp x hx) w')) (fun x w' _ h => by exact Hp.segsT (T := ([] : List Blk)) (A := [x.blks 75 52, [⟨bq13, [(.int .i64 1), (.slice xq11.ad 3 xq11.cp)], 24, true⟩, ⟨bq10, [(.int .i64 1), (.slice xq8.ad 3 xq8.cp)], 24, true⟩, ⟨bq7, [(.int .i64 1), (.slice xq5.ad 3 xq5.cp)], 24, true⟩, ⟨bq4, [(.int .i64 1), (.slice xq2.ad 3 xq2.cp)], 24, true⟩, ⟨bq1, [(.int .u32 1065353216), (.int .u32 1073741824), (.int .u32 1082130432)], 52, true⟩], xq11.blks 75 52, xq8.blks 75 52, xq5.blks 75 52, xq2.blks 75 52]) (idx := [1, 0, 2, 3, 4, 5]) 6 [] h rfl (by decide) rfl)))) (fun xq14 hq15 => ?_)
 refine GL.mv rfl (by decide) ?_
 refine GL.val (Ex.extract rfl rfl) (by decide) ?_
 refine GL.val (Ex.extract rfl rfl) (by decide) ?_
 refine GL.step (Stp.alloc T.zr24 (by decide)) (fun bq16 _ => ?_)
 refine GL.step (Stp.st0 (cs' := [(.int .i64 1), (.slice xq14.ad 3 xq14.cp)]) rfl rfl rfl T.sz24 rfl rfl rfl) (fun _ _ => ?_)
 refine GL.sg rfl (by decide) ?_
 refine GL.nil (GE.thenN (GC.seq (GC.region ?_)))
 refine GL.step (Stp.call (vs := [(.int .i64 1), (.int .i64 2), (.int .i64 1), (.int .i64 1), (.int .u32 0)]) rfl rfl T.own34 (by decide) (fun wc hw => (Ret.frm (L' := fun x => (⟨bq16, [(.int .i64 1), (.slice xq14.ad 3 xq14.cp)], 24, true⟩ :: ⟨bq13, [(.int .i64 1), (.slice xq11.ad 3 xq11.cp)], 24, true⟩ :: ⟨bq10, [(.int .i64 1), (.slice xq8.ad 3 xq8.cp)], 24, true⟩ :: ⟨bq7, [(.int .i64 1), (.slice xq5.ad 3 xq5.cp)], 24, true⟩ :: ⟨bq4, [(.int .i64 1), (.slice xq2.ad 3 xq2.cp)], 24, true⟩ :: ⟨bq1, [(.int .u32 1065353216), (.int .u32 1073741824), (.int .u32 1082130432)], 52, true⟩ :: (x.blks 75 52 ++ (xq14.blks 75 52 ++ (xq11.blks 75 52 ++ (xq8.blks 75 52 ++ (xq5.blks 75 52 ++ (xq2.blks 75 52 ++ ([] : List Blk))))))))) hw (kn_new81 wc) (fun x w' _ h => by exact Hp.segsT (T := ([] : List Blk)) (A := [x.blks 75 52, [⟨bq16, [(.int .i64 1), (.slice xq14.ad 3 xq14.cp)], 24, true⟩, ⟨bq13, [(.int .i64 1), (.slice xq11.ad 3 xq11.cp)], 24, true⟩, ⟨bq10, [(.int .i64 1), (.slice xq8.ad 3 xq8.cp)], 24, true⟩, ⟨bq7, [(.int .i64 1), (.slice xq5.ad 3 xq5.cp)], 24, true⟩, ⟨bq4, [(.int .i64 1), (.slice xq2.ad 3 xq2.cp)], 24, true⟩, ⟨bq1, [(.int .u32 1065353216), (.int .u32 1073741824), (.int .u32 1082130432)], 52, true⟩], xq14.blks 75 52, xq11.blks 75 52, xq8.blks 75 52, xq5.blks 75 52, xq2.blks 75 52]) (idx := [1, 0, 2, 3, 4, 5, 6]) 7 [] h rfl (by decide) rfl)))) (fun xq17 hq18 => ?_)
 refine GL.mv rfl (by decide) ?_
 refine GL.val (Ex.extract rfl rfl) (by decide) ?_
 refine GL.val (Ex.extract rfl rfl) (by decide) ?_
 refine GL.step (Stp.alloc T.zr24 (by decide)) (fun bq19 _ => ?_)
 refine GL.step (Stp.st0 (cs' := [(.int .i64 ((picS 81 1))), (.slice xq17.ad xq17.n xq17.cp)]) rfl rfl rfl T.sz24 rfl rfl rfl) (fun _ _ => ?_)
 refine GL.sg rfl (by decide) ?_
 refine GL.nil (GE.thenN (GC.seq (GC.region ?_)))
 refine GL.step (Stp.call (vs := [(.int .i64 0), (.int .i64 5), (.int .i64 1), (.int .i64 1), (.int .u32 0)]) rfl rfl T.own34 (by decide) (fun wc hw => (Ret.frm (L' := fun x => (⟨bq19, [(.int .i64 ((picS 81 1))), (.slice xq17.ad xq17.n xq17.cp)], 24, true⟩ :: ⟨bq16, [(.int .i64 1), (.slice xq14.ad 3 xq14.cp)], 24, true⟩ :: ⟨bq13, [(.int .i64 1), (.slice xq11.ad 3 xq11.cp)], 24, true⟩ :: ⟨bq10, [(.int .i64 1), (.slice xq8.ad 3 xq8.cp)], 24, true⟩ :: ⟨bq7, [(.int .i64 1), (.slice xq5.ad 3 xq5.cp)], 24, true⟩ :: ⟨bq4, [(.int .i64 1), (.slice xq2.ad 3 xq2.cp)], 24, true⟩ :: ⟨bq1, [(.int .u32 1065353216), (.int .u32 1073741824), (.int .u32 1082130432)], 52, true⟩ :: (x.blks 75 52 ++ (xq17.blks 75 52 ++ (xq14.blks 75 52 ++ (xq11.blks 75 52 ++ (xq8.blks 75 52 ++ (xq5.blks 75 52 ++ (xq2.blks 75 52 ++ ([] : List Blk)))))))))) hw (kn_new80 wc) (fun x w' _ h => by exact Hp.segsT (T := ([] : List Blk)) (A := [x.blks 75 52, [⟨bq19, [(.int .i64 ((picS 81 1))), (.slice xq17.ad xq17.n xq17.cp)], 24, true⟩, ⟨bq16, [(.int .i64 1), (.slice xq14.ad 3 xq14.cp)], 24, true⟩, ⟨bq13, [(.int .i64 1), (.slice xq11.ad 3 xq11.cp)], 24, true⟩, ⟨bq10, [(.int .i64 1), (.slice xq8.ad 3 xq8.cp)], 24, true⟩, ⟨bq7, [(.int .i64 1), (.slice xq5.ad 3 xq5.cp)], 24, true⟩, ⟨bq4, [(.int .i64 1), (.slice xq2.ad 3 xq2.cp)], 24, true⟩, ⟨bq1, [(.int .u32 1065353216), (.int .u32 1073741824), (.int .u32 1082130432)], 52, true⟩], xq17.blks 75 52, xq14.blks 75 52, xq11.blks 75 52, xq8.blks 75 52, xq5.blks 75 52, xq2.blks 75 52]) (idx := [1, 0, 2, 3, 4, 5, 6, 7]) 8 [] h rfl (by decide) rfl)))) (fun xq20 hq21 => ?_)
 refine GL.mv rfl (by decide) ?_
 refine GL.val (Ex.extract rfl rfl) (by decide) ?_
 refine GL.val (Ex.extract rfl rfl) (by decide) ?_
 refine GL.step (Stp.alloc T.zr24 (by decide)) (fun bq22 _ => ?_)
 refine GL.step (Stp.st0 (cs' := [(.int .i64 ((picS 80 0))), (.slice xq20.ad xq20.n xq20.cp)]) rfl rfl rfl T.sz24 rfl rfl rfl) (fun _ _ => ?_)
 refine GL.sg rfl (by decide) ?_
 refine GL.nil (GE.thenN (GC.seq (GC.seq (GC.region ?_))))
 refine GL.mv rfl (by decide) ?_
 refine GL.step (Stp.callR (vs := [(.int .i64 0)]) rfl rfl T.own20 (by decide) (fun wc hw => num 0 wc (by decide))) (fun xq23 hq24 => ?_)
 refine GL.mv rfl (by decide) ?_
 refine GL.step (Stp.callR (vs := [(.int .i64 0)]) rfl rfl T.own20 (by decide) (fun wc hw => num 0 wc (by decide))) (fun xq25 hq26 => ?_)
 refine GL.val (v := (.int .i64 0)) (Ex.add rfl rfl (Z := 0) (by decide)) (by decide) ?_
 refine GL.mv rfl (by decide) ?_
 refine GL.step (Stp.callR (vs := [(.int .i64 0)]) rfl rfl T.own20 (by decide) (fun wc hw => num 0 wc (by decide))) (fun xq27 hq28 => ?_)
 refine GL.val (v := (.int .i64 0)) (Ex.add rfl rfl (Z := 0) (by decide)) (by decide) ?_
 refine GL.mv rfl (by decide) ?_
 refine GL.step (Stp.callR (vs := [(.int .i64 0)]) rfl rfl T.own20 (by decide) (fun wc hw => num 0 wc (by decide))) (fun xq29 hq30 => ?_)
 refine GL.val (v := (.int .i64 0)) (Ex.add rfl rfl (Z := 0) (by decide)) (by decide) ?_
 refine GL.val (v := (.bool false)) (Ex.cast (Ex.neq rfl rfl) rfl) (by decide) ?_
 refine GL.mv rfl (by decide) ?_
 refine GL.stepG (tj := 58) rfl rfl (Ex.wp (v := (.int .i64 81)) (Ex.move rfl) (by decide)) (fun _ _ => ?_)
 refine GL.stepG (tj := 58) rfl rfl (Stp.callR (vs := [(.int .i64 81)]) rfl rfl T.own20 (by decide) (fun wc hw => num 81 wc (by decide))) (fun xq31 hq32 => ?_)
 refine GL.stepG (tj := 58) rfl rfl (Ex.wp (v := (.bool false)) (Ex.cast (Ex.neq rfl rfl) rfl) (by decide)) (fun _ _ => ?_)
 refine GL.val (v := (.bool false)) (Ex.pickF rfl rfl) (by decide) ?_
 refine GL.mv rfl (by decide) ?_
 refine GL.stepG (tj := 63) rfl rfl (Ex.wp (v := (.int .i64 80)) (Ex.move rfl) (by decide)) (fun _ _ => ?_)
 refine GL.stepG (tj := 63) rfl rfl (Stp.callR (vs := [(.int .i64 80)]) rfl rfl T.own20 (by decide) (fun wc hw => num 80 wc (by decide))) (fun xq33 hq34 => ?_)
 refine GL.stepG (tj := 63) rfl rfl (Ex.wp (v := (.bool false)) (Ex.cast (Ex.neq rfl rfl) rfl) (by decide)) (fun _ _ => ?_)
 refine GL.val (v := (.bool false)) (Ex.pickF rfl rfl) (by decide) ?_
 refine GL.nil (GE.thenN ?_)
 refine GC.cond rfl (fun hq35 => by cases hq35) (fun _ => ?_)
 refine GC.skip (GE.thenN (GC.seq ?_))
 refine GC.drawP [⟨bq22, [(.int .i64 ((picS 80 0))), (.slice xq20.ad xq20.n xq20.cp)], 24, true⟩, ⟨bq19, [(.int .i64 ((picS 81 1))), (.slice xq17.ad xq17.n xq17.cp)], 24, true⟩, ⟨bq16, [(.int .i64 1), (.slice xq14.ad 3 xq14.cp)], 24, true⟩, ⟨bq13, [(.int .i64 1), (.slice xq11.ad 3 xq11.cp)], 24, true⟩, ⟨bq10, [(.int .i64 1), (.slice xq8.ad 3 xq8.cp)], 24, true⟩, ⟨bq7, [(.int .i64 1), (.slice xq5.ad 3 xq5.cp)], 24, true⟩, ⟨bq4, [(.int .i64 1), (.slice xq2.ad 3 xq2.cp)], 24, true⟩, ⟨bq1, [(.int .u32 1065353216), (.int .u32 1073741824), (.int .u32 1082130432)], 52, true⟩] T.mixed (by kernel_rfl) (by kernel_rfl) (fuel := 22) rfl rfl ?_
 refine GH.tk 0 (v := (.agg #[(.int .i64 1), (.slice xq5.ad 3 xq5.cp)])) rfl (by kernel_rfl) (fun _ _ _ h => h) (Ex.loadA rfl T.ag24 T.sz24 (i := 5) rfl (vs := [(.int .i64 1), (.slice xq5.ad 3 xq5.cp)]) rfl rfl) (ulC (ulC (ulC (ulC (ulC (ulC (ulC (ulC ulN)))))))) (by decide) ?_
 refine GH.one 1 rfl (by kernel_rfl) (Stp.buildSlice (cs := [(.int .u32 1077936128), (.int .u32 1084227584), (.int .u32 1091567616)]) (vs := [(0, (.int .u32 1077936128)), (1, (.int .u32 1084227584)), (2, (.int .u32 1091567616))]) Tryz.underlying53 T.zr52 T.sz52 rfl (by decide) (by decide) (by first | rfl | kernel_rfl) (by decide)) (fun _ => (ulS (ulC (ulC (ulC (ulC (ulC (ulC (ulC (ulC ulN)))))))))) (fun bq36 _ => ?_)
 refine GH.one 2 rfl (by kernel_rfl) (Stp.call (vs := [(.int .i64 1), (.slice (some ⟨bq36, 0, none⟩) 3 3)]) rfl rfl T.own33 (by decide) (fun wc hw => (Ret.frm (L' := fun x => (⟨bq36, [(.int .u32 1077936128), (.int .u32 1084227584), (.int .u32 1091567616)], 52, true⟩ :: ⟨bq22, [(.int .i64 ((picS 80 0))), (.slice xq20.ad xq20.n xq20.cp)], 24, true⟩ :: ⟨bq19, [(.int .i64 ((picS 81 1))), (.slice xq17.ad xq17.n xq17.cp)], 24, true⟩ :: ⟨bq16, [(.int .i64 1), (.slice xq14.ad 3 xq14.cp)], 24, true⟩ :: ⟨bq13, [(.int .i64 1), (.slice xq11.ad 3 xq11.cp)], 24, true⟩ :: ⟨bq10, [(.int .i64 1), (.slice xq8.ad 3 xq8.cp)], 24, true⟩ :: ⟨bq7, [(.int .i64 1), (.slice xq5.ad 3 xq5.cp)], 24, true⟩ :: ⟨bq4, [(.int .i64 1), (.slice xq2.ad 3 xq2.cp)], 24, true⟩ :: ⟨bq1, [(.int .u32 1065353216), (.int .u32 1073741824), (.int .u32 1082130432)], 52, true⟩ :: (x.blks 75 52 ++ (xq20.blks 75 52 ++ (xq17.blks 75 52 ++ (xq14.blks 75 52 ++ (xq11.blks 75 52 ++ (xq8.blks 75 52 ++ (xq5.blks 75 52 ++ (xq2.blks 75 52 ++ ([] : List Blk))))))))))) hw (place 1 bq36 0 3 3 [1077936128, 1084227584, 1091567616] wc rfl (by decide) (by decide) (hw.rdOf (i := 0) rfl 0)) (fun x w' _ h => by exact Hp.segsT (T := ([] : List Blk)) (A := [x.blks 75 52, [⟨bq36, [(.int .u32 1077936128), (.int .u32 1084227584), (.int .u32 1091567616)], 52, true⟩, ⟨bq22, [(.int .i64 ((picS 80 0))), (.slice xq20.ad xq20.n xq20.cp)], 24, true⟩, ⟨bq19, [(.int .i64 ((picS 81 1))), (.slice xq17.ad xq17.n xq17.cp)], 24, true⟩, ⟨bq16, [(.int .i64 1), (.slice xq14.ad 3 xq14.cp)], 24, true⟩, ⟨bq13, [(.int .i64 1), (.slice xq11.ad 3 xq11.cp)], 24, true⟩, ⟨bq10, [(.int .i64 1), (.slice xq8.ad 3 xq8.cp)], 24, true⟩, ⟨bq7, [(.int .i64 1), (.slice xq5.ad 3 xq5.cp)], 24, true⟩, ⟨bq4, [(.int .i64 1), (.slice xq2.ad 3 xq2.cp)], 24, true⟩, ⟨bq1, [(.int .u32 1065353216), (.int .u32 1073741824), (.int .u32 1082130432)], 52, true⟩], xq20.blks 75 52, xq17.blks 75 52, xq14.blks 75 52, xq11.blks 75 52, xq8.blks 75 52, xq5.blks 75 52, xq2.blks 75 52]) (idx := [1, 0, 2, 3, 4, 5, 6, 7, 8]) 9 [] h rfl (by decide) rfl)))) (fun _ => (ulS (ulC (ulC (ulC (ulC (ulC (ulC (ulC (ulC ulN)))))))))) (fun xq37 hq38 => ?_)
 refine GH.one 3 rfl (by kernel_rfl) (Stp.callR (σ := Unit) (p := fun rz => True) (v := fun rz => (.bool true)) (N := fun rz => []) (vs := [(.agg #[(.int .i64 1), (.slice xq5.ad 3 xq5.cp)]), (.agg #[(.int .i64 1), (.slice xq37.ad 3 xq37.cp)])]) rfl rfl T.own21 (by decide) (fun wc hw => (by
  have ea : xq5.ds = onesD [1077936128, 1084227584, 1091567616] := hq6.2.1.trans ((ones_map hq3.2.1 (fun x : Int => if x = 1065353216 then (1077936128 : Int) else if x = 1073741824 then 1084227584 else 1091567616)).trans (congrArg onesD (by decide)))
  exact pic_eq 1 xq5.ad xq37.ad 3 xq5.cp xq37.cp xq5.pl xq37.pl wc (by rw [Ac.pl_len]; exact (ones_len ea).symm) (by decide) (ones_eq ea hq38.2.1 rfl) (Ac.r (Hp.seg (T := ([] : List Blk)) (A := [[_, _, _, _, _, _, _, _, _], xq37.blks 75 52, xq20.blks 75 52, xq17.blks 75 52, xq14.blks 75 52, xq11.blks 75 52, xq8.blks 75 52, xq5.blks 75 52, xq2.blks 75 52]) hw 7 rfl) (ones_x ea)) (Ac.r (Hp.seg (T := ([] : List Blk)) (A := [[_, _, _, _, _, _, _, _, _], xq37.blks 75 52, xq20.blks 75 52, xq17.blks 75 52, xq14.blks 75 52, xq11.blks 75 52, xq8.blks 75 52, xq5.blks 75 52, xq2.blks 75 52]) hw 1 rfl) (ones_x hq38.2.1))))) (fun _ => (ulS (ulC (ulC (ulC (ulC (ulC (ulC (ulC (ulC ulN)))))))))) (fun xq39 hq40 => ?_)
 refine GH.tk 4 (v := (.bool true)) rfl (by kernel_rfl) (fun _ _ _ h => h) (Ex.move rfl) (ulS (ulC (ulC (ulC (ulC (ulC (ulC (ulC (ulC ulN))))))))) (by decide) ?_
 refine GH.takeG 5 (tj := 72) (v := (.agg #[(.int .i64 1), (.slice xq8.ad 3 xq8.cp)])) rfl rfl rfl (by kernel_rfl) (by kernel_rfl) (by kernel_rfl) (fun _ _ _ h => h) (Ex.loadA rfl T.ag24 T.sz24 (i := 4) rfl (vs := [(.int .i64 1), (.slice xq8.ad 3 xq8.cp)]) rfl rfl) (ulS (ulC (ulC (ulC (ulC (ulC (ulC (ulC (ulC ulN))))))))) (by decide) ?_
 refine GH.oneG 6 (tj := 72) rfl rfl rfl (by kernel_rfl) (Stp.buildSlice (cs := [(.int .u32 1082130432), (.int .u32 1073741824), (.int .u32 1065353216)]) (vs := [(0, (.int .u32 1082130432)), (1, (.int .u32 1073741824)), (2, (.int .u32 1065353216))]) Tryz.underlying53 T.zr52 T.sz52 rfl (by decide) (by decide) (by first | rfl | kernel_rfl) (by decide)) (fun _ => (ulS (ulS (ulC (ulC (ulC (ulC (ulC (ulC (ulC (ulC ulN))))))))))) (fun bq41 _ => ?_)
 refine GH.oneG 7 (tj := 72) rfl rfl rfl (by kernel_rfl) (Stp.call (vs := [(.int .i64 1), (.slice (some ⟨bq41, 0, none⟩) 3 3)]) rfl rfl T.own33 (by decide) (fun wc hw => (Ret.frm (L' := fun x => (⟨bq41, [(.int .u32 1082130432), (.int .u32 1073741824), (.int .u32 1065353216)], 52, true⟩ :: ⟨bq36, [(.int .u32 1077936128), (.int .u32 1084227584), (.int .u32 1091567616)], 52, true⟩ :: ⟨bq22, [(.int .i64 ((picS 80 0))), (.slice xq20.ad xq20.n xq20.cp)], 24, true⟩ :: ⟨bq19, [(.int .i64 ((picS 81 1))), (.slice xq17.ad xq17.n xq17.cp)], 24, true⟩ :: ⟨bq16, [(.int .i64 1), (.slice xq14.ad 3 xq14.cp)], 24, true⟩ :: ⟨bq13, [(.int .i64 1), (.slice xq11.ad 3 xq11.cp)], 24, true⟩ :: ⟨bq10, [(.int .i64 1), (.slice xq8.ad 3 xq8.cp)], 24, true⟩ :: ⟨bq7, [(.int .i64 1), (.slice xq5.ad 3 xq5.cp)], 24, true⟩ :: ⟨bq4, [(.int .i64 1), (.slice xq2.ad 3 xq2.cp)], 24, true⟩ :: ⟨bq1, [(.int .u32 1065353216), (.int .u32 1073741824), (.int .u32 1082130432)], 52, true⟩ :: (x.blks 75 52 ++ (xq37.blks 75 52 ++ (xq20.blks 75 52 ++ (xq17.blks 75 52 ++ (xq14.blks 75 52 ++ (xq11.blks 75 52 ++ (xq8.blks 75 52 ++ (xq5.blks 75 52 ++ (xq2.blks 75 52 ++ ([] : List Blk)))))))))))) hw (place 1 bq41 0 3 3 [1082130432, 1073741824, 1065353216] wc rfl (by decide) (by decide) (hw.rdOf (i := 0) rfl 0)) (fun x w' _ h => by exact Hp.segsT (T := ([] : List Blk)) (A := [x.blks 75 52, [⟨bq41, [(.int .u32 1082130432), (.int .u32 1073741824), (.int .u32 1065353216)], 52, true⟩, ⟨bq36, [(.int .u32 1077936128), (.int .u32 1084227584), (.int .u32 1091567616)], 52, true⟩, ⟨bq22, [(.int .i64 ((picS 80 0))), (.slice xq20.ad xq20.n xq20.cp)], 24, true⟩, ⟨bq19, [(.int .i64 ((picS 81 1))), (.slice xq17.ad xq17.n xq17.cp)], 24, true⟩, ⟨bq16, [(.int .i64 1), (.slice xq14.ad 3 xq14.cp)], 24, true⟩, ⟨bq13, [(.int .i64 1), (.slice xq11.ad 3 xq11.cp)], 24, true⟩, ⟨bq10, [(.int .i64 1), (.slice xq8.ad 3 xq8.cp)], 24, true⟩, ⟨bq7, [(.int .i64 1), (.slice xq5.ad 3 xq5.cp)], 24, true⟩, ⟨bq4, [(.int .i64 1), (.slice xq2.ad 3 xq2.cp)], 24, true⟩, ⟨bq1, [(.int .u32 1065353216), (.int .u32 1073741824), (.int .u32 1082130432)], 52, true⟩], xq37.blks 75 52, xq20.blks 75 52, xq17.blks 75 52, xq14.blks 75 52, xq11.blks 75 52, xq8.blks 75 52, xq5.blks 75 52, xq2.blks 75 52]) (idx := [1, 0, 2, 3, 4, 5, 6, 7, 8, 9]) 10 [] h rfl (by decide) rfl)))) (fun _ => (ulS (ulS (ulC (ulC (ulC (ulC (ulC (ulC (ulC (ulC ulN))))))))))) (fun xq42 hq43 => ?_)
 refine GH.oneG 8 (tj := 72) rfl rfl rfl (by kernel_rfl) (Stp.callR (σ := Unit) (p := fun rz => True) (v := fun rz => (.bool true)) (N := fun rz => []) (vs := [(.agg #[(.int .i64 1), (.slice xq8.ad 3 xq8.cp)]), (.agg #[(.int .i64 1), (.slice xq42.ad 3 xq42.cp)])]) rfl rfl T.own21 (by decide) (fun wc hw => (by
  have ea : xq8.ds = onesD [1082130432, 1073741824, 1065353216] := hq9.2.1.trans (ones_tri hq3.2.1 (fun x y z : Int => (z, y, x)))
  exact pic_eq 1 xq8.ad xq42.ad 3 xq8.cp xq42.cp xq8.pl xq42.pl wc (by rw [Ac.pl_len]; exact (ones_len ea).symm) (by decide) (ones_eq ea hq43.2.1 rfl) (Ac.r (Hp.seg (T := ([] : List Blk)) (A := [[_, _, _, _, _, _, _, _, _, _], xq42.blks 75 52, xq37.blks 75 52, xq20.blks 75 52, xq17.blks 75 52, xq14.blks 75 52, xq11.blks 75 52, xq8.blks 75 52, xq5.blks 75 52, xq2.blks 75 52]) hw 7 rfl) (ones_x ea)) (Ac.r (Hp.seg (T := ([] : List Blk)) (A := [[_, _, _, _, _, _, _, _, _, _], xq42.blks 75 52, xq37.blks 75 52, xq20.blks 75 52, xq17.blks 75 52, xq14.blks 75 52, xq11.blks 75 52, xq8.blks 75 52, xq5.blks 75 52, xq2.blks 75 52]) hw 1 rfl) (ones_x hq43.2.1))))) (fun _ => (ulS (ulS (ulC (ulC (ulC (ulC (ulC (ulC (ulC (ulC ulN))))))))))) (fun xq44 hq45 => ?_)
 refine GH.tk 9 (v := (.bool true)) rfl (by kernel_rfl) (fun _ _ _ h => h) (Ex.pickT rfl rfl) (ulS (ulS (ulC (ulC (ulC (ulC (ulC (ulC (ulC (ulC ulN)))))))))) (by decide) ?_
 refine GH.tk 10 (v := (.bool true)) rfl (by kernel_rfl) (fun _ _ _ h => h) (Ex.move rfl) (ulS (ulS (ulC (ulC (ulC (ulC (ulC (ulC (ulC (ulC ulN)))))))))) (by decide) ?_
 refine GH.takeG 11 (tj := 78) (v := (.agg #[(.int .i64 1), (.slice xq11.ad 3 xq11.cp)])) rfl rfl rfl (by kernel_rfl) (by kernel_rfl) (by kernel_rfl) (fun _ _ _ h => h) (Ex.loadA rfl T.ag24 T.sz24 (i := 3) rfl (vs := [(.int .i64 1), (.slice xq11.ad 3 xq11.cp)]) rfl rfl) (ulS (ulS (ulC (ulC (ulC (ulC (ulC (ulC (ulC (ulC ulN)))))))))) (by decide) ?_
 refine GH.oneG 12 (tj := 78) rfl rfl rfl (by kernel_rfl) (Stp.buildSlice (cs := [(.int .u32 0), (.int .u32 0), (.int .u32 0)]) (vs := [(0, (.int .u32 0)), (1, (.int .u32 0)), (2, (.int .u32 0))]) Tryz.underlying53 T.zr52 T.sz52 rfl (by decide) (by decide) (by first | rfl | kernel_rfl) (by decide)) (fun _ => (ulS (ulS (ulS (ulC (ulC (ulC (ulC (ulC (ulC (ulC (ulC ulN)))))))))))) (fun bq46 _ => ?_)
 refine GH.oneG 13 (tj := 78) rfl rfl rfl (by kernel_rfl) (Stp.call (vs := [(.int .i64 1), (.slice (some ⟨bq46, 0, none⟩) 3 3)]) rfl rfl T.own33 (by decide) (fun wc hw => (Ret.frm (L' := fun x => (⟨bq46, [(.int .u32 0), (.int .u32 0), (.int .u32 0)], 52, true⟩ :: ⟨bq41, [(.int .u32 1082130432), (.int .u32 1073741824), (.int .u32 1065353216)], 52, true⟩ :: ⟨bq36, [(.int .u32 1077936128), (.int .u32 1084227584), (.int .u32 1091567616)], 52, true⟩ :: ⟨bq22, [(.int .i64 ((picS 80 0))), (.slice xq20.ad xq20.n xq20.cp)], 24, true⟩ :: ⟨bq19, [(.int .i64 ((picS 81 1))), (.slice xq17.ad xq17.n xq17.cp)], 24, true⟩ :: ⟨bq16, [(.int .i64 1), (.slice xq14.ad 3 xq14.cp)], 24, true⟩ :: ⟨bq13, [(.int .i64 1), (.slice xq11.ad 3 xq11.cp)], 24, true⟩ :: ⟨bq10, [(.int .i64 1), (.slice xq8.ad 3 xq8.cp)], 24, true⟩ :: ⟨bq7, [(.int .i64 1), (.slice xq5.ad 3 xq5.cp)], 24, true⟩ :: ⟨bq4, [(.int .i64 1), (.slice xq2.ad 3 xq2.cp)], 24, true⟩ :: ⟨bq1, [(.int .u32 1065353216), (.int .u32 1073741824), (.int .u32 1082130432)], 52, true⟩ :: (x.blks 75 52 ++ (xq42.blks 75 52 ++ (xq37.blks 75 52 ++ (xq20.blks 75 52 ++ (xq17.blks 75 52 ++ (xq14.blks 75 52 ++ (xq11.blks 75 52 ++ (xq8.blks 75 52 ++ (xq5.blks 75 52 ++ (xq2.blks 75 52 ++ ([] : List Blk))))))))))))) hw (place 1 bq46 0 3 3 [0, 0, 0] wc rfl (by decide) (by decide) (hw.rdOf (i := 0) rfl 0)) (fun x w' _ h => by exact Hp.segsT (T := ([] : List Blk)) (A := [x.blks 75 52, [⟨bq46, [(.int .u32 0), (.int .u32 0), (.int .u32 0)], 52, true⟩, ⟨bq41, [(.int .u32 1082130432), (.int .u32 1073741824), (.int .u32 1065353216)], 52, true⟩, ⟨bq36, [(.int .u32 1077936128), (.int .u32 1084227584), (.int .u32 1091567616)], 52, true⟩, ⟨bq22, [(.int .i64 ((picS 80 0))), (.slice xq20.ad xq20.n xq20.cp)], 24, true⟩, ⟨bq19, [(.int .i64 ((picS 81 1))), (.slice xq17.ad xq17.n xq17.cp)], 24, true⟩, ⟨bq16, [(.int .i64 1), (.slice xq14.ad 3 xq14.cp)], 24, true⟩, ⟨bq13, [(.int .i64 1), (.slice xq11.ad 3 xq11.cp)], 24, true⟩, ⟨bq10, [(.int .i64 1), (.slice xq8.ad 3 xq8.cp)], 24, true⟩, ⟨bq7, [(.int .i64 1), (.slice xq5.ad 3 xq5.cp)], 24, true⟩, ⟨bq4, [(.int .i64 1), (.slice xq2.ad 3 xq2.cp)], 24, true⟩, ⟨bq1, [(.int .u32 1065353216), (.int .u32 1073741824), (.int .u32 1082130432)], 52, true⟩], xq42.blks 75 52, xq37.blks 75 52, xq20.blks 75 52, xq17.blks 75 52, xq14.blks 75 52, xq11.blks 75 52, xq8.blks 75 52, xq5.blks 75 52, xq2.blks 75 52]) (idx := [1, 0, 2, 3, 4, 5, 6, 7, 8, 9, 10]) 11 [] h rfl (by decide) rfl)))) (fun _ => (ulS (ulS (ulS (ulC (ulC (ulC (ulC (ulC (ulC (ulC (ulC ulN)))))))))))) (fun xq47 hq48 => ?_)
 refine GH.oneG 14 (tj := 78) rfl rfl rfl (by kernel_rfl) (Stp.callR (σ := Unit) (p := fun rz => True) (v := fun rz => (.bool true)) (N := fun rz => []) (vs := [(.agg #[(.int .i64 1), (.slice xq11.ad 3 xq11.cp)]), (.agg #[(.int .i64 1), (.slice xq47.ad 3 xq47.cp)])]) rfl rfl T.own21 (by decide) (fun wc hw => (by
  have ea : xq11.ds = onesD [0, 0, 0] := hq12.2.1.trans ((ones_two hq3.2.1 (fun _ _ => 0)).trans (congrArg onesD rfl))
  exact pic_eq 1 xq11.ad xq47.ad 3 xq11.cp xq47.cp xq11.pl xq47.pl wc (by rw [Ac.pl_len]; exact (ones_len ea).symm) (by decide) (ones_eq ea hq48.2.1 rfl) (Ac.r (Hp.seg (T := ([] : List Blk)) (A := [[_, _, _, _, _, _, _, _, _, _, _], xq47.blks 75 52, xq42.blks 75 52, xq37.blks 75 52, xq20.blks 75 52, xq17.blks 75 52, xq14.blks 75 52, xq11.blks 75 52, xq8.blks 75 52, xq5.blks 75 52, xq2.blks 75 52]) hw 7 rfl) (ones_x ea)) (Ac.r (Hp.seg (T := ([] : List Blk)) (A := [[_, _, _, _, _, _, _, _, _, _, _], xq47.blks 75 52, xq42.blks 75 52, xq37.blks 75 52, xq20.blks 75 52, xq17.blks 75 52, xq14.blks 75 52, xq11.blks 75 52, xq8.blks 75 52, xq5.blks 75 52, xq2.blks 75 52]) hw 1 rfl) (ones_x hq48.2.1))))) (fun _ => (ulS (ulS (ulS (ulC (ulC (ulC (ulC (ulC (ulC (ulC (ulC ulN)))))))))))) (fun xq49 hq50 => ?_)
 refine GH.tk 15 (v := (.bool true)) rfl (by kernel_rfl) (fun _ _ _ h => h) (Ex.pickT rfl rfl) (ulS (ulS (ulS (ulC (ulC (ulC (ulC (ulC (ulC (ulC (ulC ulN))))))))))) (by decide) ?_
 refine GH.tk 16 (v := (.bool true)) rfl (by kernel_rfl) (fun _ _ _ h => h) (Ex.move rfl) (ulS (ulS (ulS (ulC (ulC (ulC (ulC (ulC (ulC (ulC (ulC ulN))))))))))) (by decide) ?_
 refine GH.takeG 17 (tj := 84) (v := (.agg #[(.int .i64 1), (.slice xq14.ad 3 xq14.cp)])) rfl rfl rfl (by kernel_rfl) (by kernel_rfl) (by kernel_rfl) (fun _ _ _ h => h) (Ex.loadA rfl T.ag24 T.sz24 (i := 2) rfl (vs := [(.int .i64 1), (.slice xq14.ad 3 xq14.cp)]) rfl rfl) (ulS (ulS (ulS (ulC (ulC (ulC (ulC (ulC (ulC (ulC (ulC ulN))))))))))) (by decide) ?_
 refine GH.oneG 18 (tj := 84) rfl rfl rfl (by kernel_rfl) (Stp.buildSlice (cs := [(.int .u32 1069547520), (.int .u32 1073741824), (.int .u32 1077936128)]) (vs := [(0, (.int .u32 1069547520)), (1, (.int .u32 1073741824)), (2, (.int .u32 1077936128))]) Tryz.underlying53 T.zr52 T.sz52 rfl (by decide) (by decide) (by first | rfl | kernel_rfl) (by decide)) (fun _ => (ulS (ulS (ulS (ulS (ulC (ulC (ulC (ulC (ulC (ulC (ulC (ulC ulN))))))))))))) (fun bq51 _ => ?_)
 refine GH.oneG 19 (tj := 84) rfl rfl rfl (by kernel_rfl) (Stp.call (vs := [(.int .i64 1), (.slice (some ⟨bq51, 0, none⟩) 3 3)]) rfl rfl T.own33 (by decide) (fun wc hw => (Ret.frm (L' := fun x => (⟨bq51, [(.int .u32 1069547520), (.int .u32 1073741824), (.int .u32 1077936128)], 52, true⟩ :: ⟨bq46, [(.int .u32 0), (.int .u32 0), (.int .u32 0)], 52, true⟩ :: ⟨bq41, [(.int .u32 1082130432), (.int .u32 1073741824), (.int .u32 1065353216)], 52, true⟩ :: ⟨bq36, [(.int .u32 1077936128), (.int .u32 1084227584), (.int .u32 1091567616)], 52, true⟩ :: ⟨bq22, [(.int .i64 ((picS 80 0))), (.slice xq20.ad xq20.n xq20.cp)], 24, true⟩ :: ⟨bq19, [(.int .i64 ((picS 81 1))), (.slice xq17.ad xq17.n xq17.cp)], 24, true⟩ :: ⟨bq16, [(.int .i64 1), (.slice xq14.ad 3 xq14.cp)], 24, true⟩ :: ⟨bq13, [(.int .i64 1), (.slice xq11.ad 3 xq11.cp)], 24, true⟩ :: ⟨bq10, [(.int .i64 1), (.slice xq8.ad 3 xq8.cp)], 24, true⟩ :: ⟨bq7, [(.int .i64 1), (.slice xq5.ad 3 xq5.cp)], 24, true⟩ :: ⟨bq4, [(.int .i64 1), (.slice xq2.ad 3 xq2.cp)], 24, true⟩ :: ⟨bq1, [(.int .u32 1065353216), (.int .u32 1073741824), (.int .u32 1082130432)], 52, true⟩ :: (x.blks 75 52 ++ (xq47.blks 75 52 ++ (xq42.blks 75 52 ++ (xq37.blks 75 52 ++ (xq20.blks 75 52 ++ (xq17.blks 75 52 ++ (xq14.blks 75 52 ++ (xq11.blks 75 52 ++ (xq8.blks 75 52 ++ (xq5.blks 75 52 ++ (xq2.blks 75 52 ++ ([] : List Blk)))))))))))))) hw (place 1 bq51 0 3 3 [1069547520, 1073741824, 1077936128] wc rfl (by decide) (by decide) (hw.rdOf (i := 0) rfl 0)) (fun x w' _ h => by exact Hp.segsT (T := ([] : List Blk)) (A := [x.blks 75 52, [⟨bq51, [(.int .u32 1069547520), (.int .u32 1073741824), (.int .u32 1077936128)], 52, true⟩, ⟨bq46, [(.int .u32 0), (.int .u32 0), (.int .u32 0)], 52, true⟩, ⟨bq41, [(.int .u32 1082130432), (.int .u32 1073741824), (.int .u32 1065353216)], 52, true⟩, ⟨bq36, [(.int .u32 1077936128), (.int .u32 1084227584), (.int .u32 1091567616)], 52, true⟩, ⟨bq22, [(.int .i64 ((picS 80 0))), (.slice xq20.ad xq20.n xq20.cp)], 24, true⟩, ⟨bq19, [(.int .i64 ((picS 81 1))), (.slice xq17.ad xq17.n xq17.cp)], 24, true⟩, ⟨bq16, [(.int .i64 1), (.slice xq14.ad 3 xq14.cp)], 24, true⟩, ⟨bq13, [(.int .i64 1), (.slice xq11.ad 3 xq11.cp)], 24, true⟩, ⟨bq10, [(.int .i64 1), (.slice xq8.ad 3 xq8.cp)], 24, true⟩, ⟨bq7, [(.int .i64 1), (.slice xq5.ad 3 xq5.cp)], 24, true⟩, ⟨bq4, [(.int .i64 1), (.slice xq2.ad 3 xq2.cp)], 24, true⟩, ⟨bq1, [(.int .u32 1065353216), (.int .u32 1073741824), (.int .u32 1082130432)], 52, true⟩], xq47.blks 75 52, xq42.blks 75 52, xq37.blks 75 52, xq20.blks 75 52, xq17.blks 75 52, xq14.blks 75 52, xq11.blks 75 52, xq8.blks 75 52, xq5.blks 75 52, xq2.blks 75 52]) (idx := [1, 0, 2, 3, 4, 5, 6, 7, 8, 9, 10, 11]) 12 [] h rfl (by decide) rfl)))) (fun _ => (ulS (ulS (ulS (ulS (ulC (ulC (ulC (ulC (ulC (ulC (ulC (ulC ulN))))))))))))) (fun xq52 hq53 => ?_)
 refine GH.oneG 20 (tj := 84) rfl rfl rfl (by kernel_rfl) (Stp.callR (σ := Unit) (p := fun rz => True) (v := fun rz => (.bool true)) (N := fun rz => []) (vs := [(.agg #[(.int .i64 1), (.slice xq14.ad 3 xq14.cp)]), (.agg #[(.int .i64 1), (.slice xq52.ad 3 xq52.cp)])]) rfl rfl T.own21 (by decide) (fun wc hw => (by
  have ea : xq14.ds = onesD [1069547520, 1073741824, 1077936128] := hq15.2.1.trans ((ones_map hq3.2.1 (fun x : Int => if x = 1065353216 then (1069547520 : Int) else if x = 1073741824 then 1073741824 else 1077936128)).trans (congrArg onesD (by decide)))
  exact pic_eq 1 xq14.ad xq52.ad 3 xq14.cp xq52.cp xq14.pl xq52.pl wc (by rw [Ac.pl_len]; exact (ones_len ea).symm) (by decide) (ones_eq ea hq53.2.1 rfl) (Ac.r (Hp.seg (T := ([] : List Blk)) (A := [[_, _, _, _, _, _, _, _, _, _, _, _], xq52.blks 75 52, xq47.blks 75 52, xq42.blks 75 52, xq37.blks 75 52, xq20.blks 75 52, xq17.blks 75 52, xq14.blks 75 52, xq11.blks 75 52, xq8.blks 75 52, xq5.blks 75 52, xq2.blks 75 52]) hw 7 rfl) (ones_x ea)) (Ac.r (Hp.seg (T := ([] : List Blk)) (A := [[_, _, _, _, _, _, _, _, _, _, _, _], xq52.blks 75 52, xq47.blks 75 52, xq42.blks 75 52, xq37.blks 75 52, xq20.blks 75 52, xq17.blks 75 52, xq14.blks 75 52, xq11.blks 75 52, xq8.blks 75 52, xq5.blks 75 52, xq2.blks 75 52]) hw 1 rfl) (ones_x hq53.2.1))))) (fun _ => (ulS (ulS (ulS (ulS (ulC (ulC (ulC (ulC (ulC (ulC (ulC (ulC ulN))))))))))))) (fun xq54 hq55 => ?_)
 refine GH.tk 21 (v := (.bool true)) rfl (by kernel_rfl) (fun _ _ _ h => h) (Ex.pickT rfl rfl) (ulS (ulS (ulS (ulS (ulC (ulC (ulC (ulC (ulC (ulC (ulC (ulC ulN)))))))))))) (by decide) ?_
 refine GH.done (by kernel_rfl) ?_
 refine GE.thenN ?_
 refine GE.tail rfl (Ex.wp (v := (.bool true)) (Ex.assign rfl) (by decide)) (fun _ _ => ?_)
 refine GE.thenN (GC.ret ?_)
 refine GC.ret1 rfl (Rv.tmp rfl) (fun wN HN => ?_)
 exact HN.ret () trivial rfl (List.nil_sublist _) rfl

theorem ask1 (w0 : World) (R : List Blk) (Z : List Blk) (hb pb : Nat) (a : Aw) (s add : Int) (w : World) (ha : a.Ok) (han : a.n ≤ 1000000) (hadd : ∀ w', Hv Z w' → w'.cell? ⟨pb, 0, none⟩ = some (.int .u32 add)) (hp0 : Hp None w0 (⟨hb, [(.slice a.ad a.n a.cp)], 53, true⟩ :: ((a.row 52) ++ (Z ++ R))) w) :
  Calls Tryz.prog 18 #[(.int .u32 s), (.pointer (some ⟨hb, 0, none⟩)), (.pointer (some ⟨pb, 0, none⟩))] w (Frm (σ := Aw) None w0 (fun x => x.Ok ∧ x.xs = a.xs ++ [s]) (fun _ => .int .u32 (adU add s)) (fun x => (x.ask hb 53 52) ++ (Z ++ R))) := by
 refine enterF (w0 := w0) (M := None) (L := (⟨hb, [(.slice a.ad a.n a.cp)], 53, true⟩ :: ((a.row 52) ++ (Z ++ R)))) (n := 12) (l := [(0, (.int .u32 s)), (1, (.pointer (some ⟨hb, 0, none⟩))), (2, (.pointer (some ⟨pb, 0, none⟩)))]) Tryz.func18 rfl rfl (Args.cons rfl (Args.cons rfl (Args.cons rfl (Args.nil _)))) hp0 ?_
 refine GC.seq (GC.region ?_)
 refine GL.sg rfl (by decide) ?_
 refine GL.nil (GE.thenN (GC.seq (GC.region ?_)))
 refine GL.val (Ex.load rfl T.ag53 (i := 0) rfl rfl) (by decide) ?_
 refine GL.mv rfl (by decide) ?_
 refine GL.step (Stp.buildSlice (cs := [(.int .u32 s)]) (vs := [(0, (.int .u32 s))]) Tryz.underlying53 T.zr52 T.sz52 rfl (by decide) (by decide) (by first | rfl | kernel_rfl) (by decide)) (fun bq1 _ => ?_)
 refine GL.step (Stp.appAw (a := a) (q := s) (K := [⟨bq1, [(.int .u32 s)], 52, true⟩, ⟨hb, [(.slice a.ad a.n a.cp)], 53, true⟩]) (R := (Z ++ R)) rfl rfl Tryz.underlying53 T.sz52 T.zr52 rfl T.by52 rfl ha (fun w hw => hw.rdOf (i := 0) rfl 0) (by have := han; omega) (by omega) (by decide)) (fun xq2 hq3 => ?_)
 refine GL.step (Stp.st1 (cs' := [(.slice (Aw.add a s xq2).ad ((Aw.add a s xq2).n) ((Aw.add a s xq2).cp))]) rfl rfl rfl T.sz53 rfl rfl rfl) (fun _ _ => ?_)
 refine GL.nil (GE.thenN (GC.seq (GC.region ?_)))
 refine GL.mv rfl (by decide) ?_
 refine GL.val (v := (.int .u32 add)) (Ex.loadF rfl T.ag52 (fun w hw => hadd w (Hp.seg (T := R) (A := [[_, _], ((Aw.add a s xq2).row 52), Z]) hw 2 rfl))) (by decide) ?_
 refine GL.val (v := (.int .u32 ((s + add) % 4294967296))) (Ex.add rfl rfl (Z := (s + add) % 4294967296) (wu32 _)) (by decide) ?_
 refine GL.sg rfl (by decide) ?_
 refine GL.nil (GE.thenN (GC.ret ?_))
 refine GC.ret1 rfl (Rv.tmp rfl) (fun wN HN => ?_)
 exact HN.frm (Aw.add a s xq2) ⟨hq3, rfl⟩ (by rfl) (ulS (ulC ulR))

theorem chplaneF (w0 : World) (R : List Blk) (Z : List Blk) (hb pb : Nat) (a : Aw) (add : Int) (W H : Int) (b o n cap : Nat) (xs : List Int) (w : World) (hx : xs.length = n) (h0 : 0 < n) (hn6 : n ≤ 65536) (hr : ∀ w', Hv Z w' → Rd w' b o (xs.map u32)) (ha : a.Ok) (han : a.n ≤ 900000) (hadd : ∀ w', Hv Z w' → w'.cell? ⟨pb, 0, none⟩ = some (.int .u32 add)) (hp0 : Hp None w0 (((a.ask hb 53 52) ++ (Z ++ R))) w) :
  Calls Tryz.prog 57 #[(.agg #[(.func (.func 18) #[] #[(.pointer (some ⟨hb, 0, none⟩)), (.pointer (some ⟨pb, 0, none⟩))])]), (.agg #[(.int .i64 W), (.int .i64 H), (.slice (some ⟨b, o, none⟩) n cap)])] w (Frm (σ := Aw × (Nat × Nat × List Value)) None w0 (fun x => x.1.Ok ∧ x.1.xs = a.xs ++ xs ∧ ((xs.map (adU add)).map u32 ++ x.2.2.2).length = x.2.2.1 * 1 ∧ x.2.2.1 ≤ 9223372036854775807) (fun x => .agg #[.int .i64 W, .int .i64 H, .slice (some ⟨x.2.1, 0, none⟩) (xs.map (adU add)).length x.2.2.1]) (fun x => ⟨x.2.1, (xs.map (adU add)).map u32 ++ x.2.2.2, 52, true⟩ :: ((x.1.ask hb 53 52) ++ (Z ++ R)))) := by
 refine enterF (w0 := w0) (M := None) (L := (((a.ask hb 53 52) ++ (Z ++ R)))) (n := 35) (l := [(0, (.agg #[(.func (.func 18) #[] #[(.pointer (some ⟨hb, 0, none⟩)), (.pointer (some ⟨pb, 0, none⟩))])])), (1, (.agg #[(.int .i64 W), (.int .i64 H), (.slice (some ⟨b, o, none⟩) n cap)]))]) Tryz.func57 rfl rfl (Args.cons rfl (Args.cons rfl (Args.nil _))) hp0 ?_
 refine GC.seq (GC.region ?_)
 refine GL.step (Stp.box (cs := [(.func (.func 18) #[] #[(.pointer (some ⟨hb, 0, none⟩)), (.pointer (some ⟨pb, 0, none⟩))])]) rfl rfl (by decide)) (fun bq1 _ => ?_)
 refine GL.step (Stp.box (cs := [(.int .i64 W), (.int .i64 H), (.slice (some ⟨b, o, none⟩) n cap)]) rfl rfl (by decide)) (fun bq2 _ => ?_)
 refine GL.step (Stp.alloc T.zr75 (by decide)) (fun bq3 _ => ?_)
 refine GL.nil (GE.thenN (GC.seq ?_))
 refine GC.join (σ := Nat × Nat) (fun j => True) (fun j => [(0, (.agg #[(.func (.func 18) #[] #[(.pointer (some ⟨hb, 0, none⟩)), (.pointer (some ⟨pb, 0, none⟩))])])), (1, (.agg #[(.int .i64 W), (.int .i64 H), (.slice (some ⟨b, o, none⟩) n cap)])), (2, (.pointer (some ⟨bq1, 0, none⟩))), (3, (.pointer (some ⟨bq2, 0, none⟩))), (4, (.pointer (some ⟨bq3, 0, none⟩))), (5, (.pointer (some ⟨j.1, 0, none⟩)))]) (fun j => (⟨j.1, [(.int .i64 W), (.int .i64 H), (.slice (some ⟨j.2, 0, none⟩) 0 n)], 75, true⟩ :: ⟨j.2, mpC (adU add) xs 0, 52, true⟩ :: ⟨bq3, [(.int .i64 0), (.int .i64 0), (.slice none 0 0)], 75, true⟩ :: ⟨bq2, [(.int .i64 W), (.int .i64 H), (.slice (some ⟨b, o, none⟩) n cap)], 75, true⟩ :: ⟨bq1, [(.func (.func 18) #[] #[(.pointer (some ⟨hb, 0, none⟩)), (.pointer (some ⟨pb, 0, none⟩))])], 101, true⟩ :: ((a.ask hb 53 52) ++ (Z ++ R)))) ?_ (fun j8 hj => ?_)
 ·refine GC.drawP (⟨bq3, [(.int .i64 0), (.int .i64 0), (.slice none 0 0)], 75, true⟩ :: ⟨bq2, [(.int .i64 W), (.int .i64 H), (.slice (some ⟨b, o, none⟩) n cap)], 75, true⟩ :: ⟨bq1, [(.func (.func 18) #[] #[(.pointer (some ⟨hb, 0, none⟩)), (.pointer (some ⟨pb, 0, none⟩))])], 101, true⟩ :: ((a.ask hb 53 52) ++ (Z ++ R))) T.mixed (by kernel_rfl) (by kernel_rfl) (fuel := 10) rfl rfl ?_
  refine GH.tk 0 (v := (.pointer (some ⟨bq2, 0, none⟩))) rfl (by kernel_rfl) (fun _ _ _ h => h) (Ex.cast (Ex.fieldAddr rfl Tryz.underlying75 rfl T.sz3 (by decide)) rfl) (ulC (ulC (ulC ulR))) (by decide) ?_
  refine GH.tk 1 (v := (.int .i64 W)) rfl (by kernel_rfl) (fun _ _ _ h => h) (Ex.load rfl T.ag3 (i := 1) rfl rfl) (ulC (ulC (ulC ulR))) (by decide) ?_
  refine GH.tk 2 (v := (.pointer (some ⟨bq2, 1, none⟩))) rfl (by kernel_rfl) (fun _ _ _ h => h) (Ex.cast (Ex.fieldAddr rfl Tryz.underlying75 rfl T.sz3 (by decide)) rfl) (ulC (ulC (ulC ulR))) (by decide) ?_
  refine GH.tk 3 (v := (.int .i64 H)) rfl (by kernel_rfl) (fun _ _ _ h => h) (Ex.load rfl T.ag3 (i := 1) rfl rfl) (ulC (ulC (ulC ulR))) (by decide) ?_
  refine GH.tk 4 (v := (.pointer (some ⟨bq2, 2, none⟩))) rfl (by kernel_rfl) (fun _ _ _ h => h) (Ex.cast (Ex.fieldAddr rfl Tryz.underlying75 rfl T.sz53 (by decide)) rfl) (ulC (ulC (ulC ulR))) (by decide) ?_
  refine GH.tk 5 (v := (.slice (some ⟨b, o, none⟩) n cap)) rfl (by kernel_rfl) (fun _ _ _ h => h) (Ex.load rfl T.ag53 (i := 1) rfl rfl) (ulC (ulC (ulC ulR))) (by decide) ?_
  refine GH.tk 6 (v := (.int .i64 ((n : Int)))) rfl (by kernel_rfl) (fun _ _ _ h => h) (Ex.len rfl Tryz.underlying53) (ulC (ulC (ulC ulR))) (by decide) ?_
  refine GH.many (rs := [7, 9]) (by kernel_rfl) (by simp) ?_
  refine GHs.cons rfl (Stp.makeSlice (a1 := 0) (c := n) rfl rfl Tryz.underlying53 T.zr52 T.sz52 T.by52 rfl (Nat.zero_le _) (by omega) (by omega) (by decide)) (fun _ => (ulS (ulC (ulC (ulC ulR))))) (fun bq9 _ => ?_) ?_
  ·rw [madeCells_one, ← hx, ← mpC_zero (adU add) xs, hx]
   refine GH.tk 8 (v := (.agg #[(.int .i64 W), (.int .i64 H), (.slice (some ⟨bq9, 0, none⟩) 0 n)])) rfl (by kernel_rfl) (fun _ _ _ h => h) (Ex.build (vs := [(0, (.int .i64 W)), (1, (.int .i64 H)), (2, (.slice (some ⟨bq9, 0, none⟩) 0 n))]) rfl (by first | rfl | kernel_rfl)) (ulS (ulC (ulC (ulC ulR)))) (by decide) ?_
   refine GH.one 9 rfl (by kernel_rfl) (Stp.alloc T.zr75 (by decide)) (fun _ => (ulS (ulS (ulC (ulC (ulC ulR)))))) (fun bq10 _ => ?_)
   refine GH.done (by kernel_rfl) ?_
   refine GE.thenN ?_
   refine GE.tail rfl (Stp.st0 (cs' := [(.int .i64 W), (.int .i64 H), (.slice (some ⟨bq9, 0, none⟩) 0 n)]) rfl rfl rfl T.sz75 rfl rfl rfl) (fun _ _ => ?_)
   refine GE.thenN ?_
   exact St.hp ((bq10, bq9)) trivial ((sub_cons rfl ((sub_cons rfl ((sub_cons rfl ((sub_cons rfl ((sub_cons rfl ((sub_cons rfl ((sub_nil _)))))))))))))) (fun w h => by exact Hp.segsT (T := R) (A := [[⟨bq10, [(.int .i64 W), (.int .i64 H), (.slice (some ⟨bq9, 0, none⟩) 0 n)], 75, true⟩], [⟨bq9, mpC (adU add) xs 0, 52, true⟩], [⟨bq3, [(.int .i64 0), (.int .i64 0), (.slice none 0 0)], 75, true⟩], [⟨bq2, [(.int .i64 W), (.int .i64 H), (.slice (some ⟨b, o, none⟩) n cap)], 75, true⟩], [⟨bq1, [(.func (.func 18) #[] #[(.pointer (some ⟨hb, 0, none⟩)), (.pointer (some ⟨pb, 0, none⟩))])], 101, true⟩], (a.ask hb 53 52), Z]) (idx := [0, 1, 2, 3, 4, 5, 6]) 7 [] h rfl (by decide) rfl)
  refine GHs.cons rfl (Stp.alloc T.zr75 (by decide)) (fun _ => (ulS (ulC (ulC (ulC ulR))))) (fun bq11 _ => ?_) ?_
  ·refine GH.one 7 rfl (by kernel_rfl) (Stp.makeSlice (a1 := 0) (c := n) rfl rfl Tryz.underlying53 T.zr52 T.sz52 T.by52 rfl (Nat.zero_le _) (by omega) (by omega) (by decide)) (fun _ => (ulS (ulS (ulC (ulC (ulC ulR)))))) (fun bq12 _ => ?_)
   rw [madeCells_one, ← hx, ← mpC_zero (adU add) xs, hx]
   refine GH.tk 8 (v := (.agg #[(.int .i64 W), (.int .i64 H), (.slice (some ⟨bq12, 0, none⟩) 0 n)])) rfl (by kernel_rfl) (fun _ _ _ h => h) (Ex.build (vs := [(0, (.int .i64 W)), (1, (.int .i64 H)), (2, (.slice (some ⟨bq12, 0, none⟩) 0 n))]) rfl (by first | rfl | kernel_rfl)) (ulS (ulS (ulC (ulC (ulC ulR))))) (by decide) ?_
   refine GH.done (by kernel_rfl) ?_
   refine GE.thenN ?_
   refine GE.tail rfl (Stp.st1 (cs' := [(.int .i64 W), (.int .i64 H), (.slice (some ⟨bq12, 0, none⟩) 0 n)]) rfl rfl rfl T.sz75 rfl rfl rfl) (fun _ _ => ?_)
   refine GE.thenN ?_
   exact St.hp ((bq11, bq12)) trivial ((sub_cons rfl ((sub_cons rfl ((sub_cons rfl ((sub_cons rfl ((sub_cons rfl ((sub_cons rfl ((sub_nil _)))))))))))))) (fun w h => by exact Hp.segsT (T := R) (A := [[⟨bq12, mpC (adU add) xs 0, 52, true⟩], [⟨bq11, [(.int .i64 W), (.int .i64 H), (.slice (some ⟨bq12, 0, none⟩) 0 n)], 75, true⟩], [⟨bq3, [(.int .i64 0), (.int .i64 0), (.slice none 0 0)], 75, true⟩], [⟨bq2, [(.int .i64 W), (.int .i64 H), (.slice (some ⟨b, o, none⟩) n cap)], 75, true⟩], [⟨bq1, [(.func (.func 18) #[] #[(.pointer (some ⟨hb, 0, none⟩)), (.pointer (some ⟨pb, 0, none⟩))])], 101, true⟩], (a.ask hb 53 52), Z]) (idx := [1, 0, 2, 3, 4, 5, 6]) 7 [] h rfl (by decide) rfl)
  exact GHs.nil
 refine GE.thenN (GC.seq (GC.seq (GC.region ?_)))
 refine GL.val (v := (.pointer (some ⟨bq2, 2, none⟩))) (Ex.cast (Ex.fieldAddr rfl Tryz.underlying75 rfl T.sz53 (by decide)) rfl) (by decide) ?_
 refine GL.val (Ex.load rfl T.ag53 (i := 3) rfl rfl) (by decide) ?_
 refine GL.val (v := (.int .i64 ((n : Int)))) (Ex.len rfl Tryz.underlying53) (by decide) ?_
 refine GL.mv rfl (by decide) ?_
 refine GL.nil (GE.thenN (GC.block ?_))
 refine GC.loop (σ := Nat × Aw) (fun z => z.1 ≤ n ∧ z.2.Ok ∧ z.2.xs = a.xs ++ xs.take z.1) (fun z => [(2, (.pointer (some ⟨bq1, 0, none⟩))), (3, (.pointer (some ⟨bq2, 0, none⟩))), (4, (.pointer (some ⟨bq3, 0, none⟩))), (5, (.pointer (some ⟨j8.1, 0, none⟩))), (18, (.slice (some ⟨b, o, none⟩) n cap)), (19, (.int .i64 ((n : Int)))), (20, (.int .i64 (((z.1 : Nat) : Int))))]) (fun z => (⟨j8.1, [(.int .i64 W), (.int .i64 H), (.slice (some ⟨j8.2, 0, none⟩) z.1 n)], 75, true⟩ :: ⟨j8.2, mpC (adU add) xs z.1, 52, true⟩ :: ⟨bq3, [(.int .i64 0), (.int .i64 0), (.slice none 0 0)], 75, true⟩ :: ⟨bq2, [(.int .i64 W), (.int .i64 H), (.slice (some ⟨b, o, none⟩) n cap)], 75, true⟩ :: ⟨bq1, [(.func (.func 18) #[] #[(.pointer (some ⟨hb, 0, none⟩)), (.pointer (some ⟨pb, 0, none⟩))])], 101, true⟩ :: ((z.2.ask hb 53 52) ++ (Z ++ R)))) (fun z => n - z.1) ((0, a)) ⟨Nat.zero_le _, ha, (List.append_nil _).symm⟩ ((sub_cons rfl ((sub_cons rfl ((sub_cons rfl ((sub_cons rfl ((sub_cons rfl ((sub_cons rfl ((sub_cons rfl ((sub_nil _)))))))))))))))) (ulC (ulC (ulC (ulC (ulC ulR))))) (fun z hp => ?_)
 have hz1 := hp.1
 have hzn : z.2.n ≤ 1000000 := by show z.2.xs.length ≤ _; rw [hp.2.2, List.length_append, List.length_take]; have : a.xs.length ≤ 900000 := han; omega
 refine GC.seq (GC.region ?_)
 refine GL.val (v := (.bool (decide ((((z.1 : Nat) : Int)) < ((n : Int)))))) (Ex.lss rfl rfl) (by decide) ?_
 refine GL.nil (GE.thenN (GC.seq ?_))
 refine GC.cond rfl (fun hq13 => ?_) (fun hq13 => ?_)
 ·replace hq13 := of_decide_eq_true hq13
  refine GC.skip (GE.thenN (GC.seq (GC.block (GC.seq (GC.region ?_)))))
  refine GL.val (v := (.pointer (some ⟨b, o + z.1, none⟩))) (Ex.cast (Ex.indexAddr rfl rfl Tryz.underlying53 T.sz52 (by omega) (by omega)) (by simp)) (by decide) ?_
  refine GL.val (v := (.int .u32 ((xs.getD z.1 0)))) (Ex.loadF rfl T.ag52 (fun w hw => Rd.at (hr w (Hp.seg (T := R) (A := [[_, _, _, _, _], (z.2.ask hb 53 52), Z]) hw 2 rfl)) (by omega))) (by decide) ?_
  refine GL.sg rfl (by decide) ?_
  refine GL.nil (GE.thenN ?_)
  refine GC.drawP [⟨j8.1, [(.int .i64 W), (.int .i64 H), (.slice (some ⟨j8.2, 0, none⟩) z.1 n)], 75, true⟩, ⟨bq3, [(.int .i64 0), (.int .i64 0), (.slice none 0 0)], 75, true⟩, ⟨bq2, [(.int .i64 W), (.int .i64 H), (.slice (some ⟨b, o, none⟩) n cap)], 75, true⟩, ⟨bq1, [(.func (.func 18) #[] #[(.pointer (some ⟨hb, 0, none⟩)), (.pointer (some ⟨pb, 0, none⟩))])], 101, true⟩] T.mixed (by kernel_rfl) (by kernel_rfl) (fuel := 9) rfl rfl ?_
  refine GH.tk 0 (v := (.pointer (some ⟨j8.1, 2, none⟩))) rfl (by kernel_rfl) (fun _ _ _ h => h) (Ex.cast (Ex.fieldAddr rfl Tryz.underlying75 rfl T.sz53 (by decide)) rfl) (ulC (ulS (ulC (ulC (ulC ulN))))) (by decide) ?_
  refine GH.tk 1 (v := (.slice (some ⟨j8.2, 0, none⟩) z.1 n)) rfl (by kernel_rfl) (fun _ _ _ h => h) (Ex.load rfl T.ag53 (i := 0) rfl rfl) (ulC (ulS (ulC (ulC (ulC ulN))))) (by decide) ?_
  refine GH.tk 2 (v := (.pointer (some ⟨bq1, 0, none⟩))) rfl (by kernel_rfl) (fun _ _ _ h => h) (Ex.cast (Ex.fieldAddr rfl Tryz.underlying101 rfl T.sz55 (by decide)) rfl) (ulC (ulS (ulC (ulC (ulC ulN))))) (by decide) ?_
  refine GH.tk 3 (v := (.func (.func 18) #[] #[(.pointer (some ⟨hb, 0, none⟩)), (.pointer (some ⟨pb, 0, none⟩))])) rfl (by kernel_rfl) (fun _ _ _ h => h) (Ex.load rfl T.ag55 (i := 3) rfl rfl) (ulC (ulS (ulC (ulC (ulC ulN))))) (by decide) ?_
  refine GH.tk 4 (v := (.int .u32 ((xs.getD z.1 0)))) rfl (by kernel_rfl) (fun _ _ _ h => h) (Ex.move rfl) (ulC (ulS (ulC (ulC (ulC ulN))))) (by decide) ?_
  refine GH.one 5 rfl (by kernel_rfl) (Stp.call (vs := [(.int .u32 ((xs.getD z.1 0)))]) rfl rfl T.own18 (by decide) (fun wc hw => (ask1 w0 ([⟨j8.1, [(.int .i64 W), (.int .i64 H), (.slice (some ⟨j8.2, 0, none⟩) z.1 n)], 75, true⟩, ⟨j8.2, mpC (adU add) xs z.1, 52, true⟩, ⟨bq3, [(.int .i64 0), (.int .i64 0), (.slice none 0 0)], 75, true⟩, ⟨bq2, [(.int .i64 W), (.int .i64 H), (.slice (some ⟨b, o, none⟩) n cap)], 75, true⟩, ⟨bq1, [(.func (.func 18) #[] #[(.pointer (some ⟨hb, 0, none⟩)), (.pointer (some ⟨pb, 0, none⟩))])], 101, true⟩] ++ R) Z hb pb z.2 (xs.getD z.1 0) add wc hp.2.1 hzn hadd (by exact Hp.segsT (T := R) (A := [[⟨j8.1, [(.int .i64 W), (.int .i64 H), (.slice (some ⟨j8.2, 0, none⟩) z.1 n)], 75, true⟩, ⟨j8.2, mpC (adU add) xs z.1, 52, true⟩, ⟨bq3, [(.int .i64 0), (.int .i64 0), (.slice none 0 0)], 75, true⟩, ⟨bq2, [(.int .i64 W), (.int .i64 H), (.slice (some ⟨b, o, none⟩) n cap)], 75, true⟩, ⟨bq1, [(.func (.func 18) #[] #[(.pointer (some ⟨hb, 0, none⟩)), (.pointer (some ⟨pb, 0, none⟩))])], 101, true⟩], (z.2.ask hb 53 52), Z]) (idx := [1, 2, 0]) 3 [] hw rfl (by decide) rfl)).mono fun e w' ⟨x, he, hp, h⟩ => ⟨x, he, hp, (by exact Hp.segsT (T := R) (A := [(x.ask hb 53 52), Z, [⟨j8.1, [(.int .i64 W), (.int .i64 H), (.slice (some ⟨j8.2, 0, none⟩) z.1 n)], 75, true⟩, ⟨j8.2, mpC (adU add) xs z.1, 52, true⟩, ⟨bq3, [(.int .i64 0), (.int .i64 0), (.slice none 0 0)], 75, true⟩, ⟨bq2, [(.int .i64 W), (.int .i64 H), (.slice (some ⟨b, o, none⟩) n cap)], 75, true⟩, ⟨bq1, [(.func (.func 18) #[] #[(.pointer (some ⟨hb, 0, none⟩)), (.pointer (some ⟨pb, 0, none⟩))])], 101, true⟩]]) (idx := [2, 0, 1]) 3 [] h rfl (by decide) rfl)⟩)) (fun _ => (ulC (ulS (ulC (ulC (ulC ulN)))))) (fun xq17 hq18 => ?_)
  refine GH.one 6 rfl (by kernel_rfl) (Stp.buildSlice (cs := [(.int .u32 ((adU add (xs.getD z.1 0))))]) (vs := [(0, (.int .u32 ((adU add (xs.getD z.1 0)))))]) Tryz.underlying53 T.zr52 T.sz52 rfl (by decide) (by decide) (by first | rfl | kernel_rfl) (by decide)) (fun _ => (ulS (ulC (ulS (ulC (ulC (ulC ulN))))))) (fun bq19 _ => ?_)
  refine GH.one 7 rfl (by kernel_rfl) (Stp.appendFits (i := 2) (vs := [.int .u32 (adU add (xs.getD z.1 0))]) (L1 := (⟨bq19, [(.int .u32 ((adU add (xs.getD z.1 0))))], 52, true⟩ :: ⟨j8.1, [(.int .i64 W), (.int .i64 H), (.slice (some ⟨j8.2, 0, none⟩) z.1 n)], 75, true⟩ :: ⟨j8.2, mpC (adU add) xs (z.1 + 1), 52, true⟩ :: ⟨bq3, [(.int .i64 0), (.int .i64 0), (.slice none 0 0)], 75, true⟩ :: ⟨bq2, [(.int .i64 W), (.int .i64 H), (.slice (some ⟨b, o, none⟩) n cap)], 75, true⟩ :: ⟨bq1, [(.func (.func 18) #[] #[(.pointer (some ⟨hb, 0, none⟩)), (.pointer (some ⟨pb, 0, none⟩))])], 101, true⟩ :: ((xq17.ask hb 53 52) ++ (Z ++ R)))) rfl rfl Tryz.underlying53 T.sz52 rfl (fun w hw => hw.rdOf (i := 0) rfl 0) rfl rfl (len' := z.1 + 1) rfl (by omega) (by rw [mpC_len _ _ _ (by omega)]; simp; omega) (by rw [Nat.mul_one, mpC_step _ _ _ (by omega)]; rfl) (by decide)) (fun _ => (ulS (ulC (ulS (ulC (ulC (ulC ulN))))))) (fun _ _ => ?_)
  refine GH.tk 8 (v := (.pointer (some ⟨j8.1, 2, none⟩))) rfl (by kernel_rfl) (fun _ _ _ h => h) (Ex.cast (Ex.fieldAddr rfl Tryz.underlying75 rfl T.sz53 (by decide)) rfl) (ulS (ulC (ulS (ulC (ulC (ulC ulN)))))) (by decide) ?_
  refine GH.done (by kernel_rfl) ?_
  refine GE.thenN ?_
  refine GE.tail rfl (Stp.st1 (cs' := [(.int .i64 W), (.int .i64 H), (.slice (some ⟨j8.2, 0, none⟩) (z.1 + 1) n)]) rfl rfl rfl T.sz53 rfl rfl rfl) (fun _ _ => ?_)
  refine GE.blockN (GE.thenN (GC.region ?_))
  refine GL.val (v := (.int .i64 (((z.1 + 1 : Nat) : Int)))) (Ex.add rfl rfl (Z := ((z.1 + 1 : Nat) : Int)) (by rw [w64 (by omega)]; rfl)) (by decide) ?_
  refine GL.mv rfl (by decide) ?_
  refine GL.nil (GE.thenN ?_)
  exact Head.mk ((z.1 + 1, xq17)) ⟨(show z.1 + 1 ≤ n by omega), hq18.1, (by show xq17.xs = _; rw [hq18.2, hp.2.2]; exact take_step (by omega) _)⟩ (by show n - (z.1 + 1) < _; omega) ((sub_cons rfl ((sub_cons rfl ((sub_cons rfl ((sub_cons rfl ((sub_cons rfl ((sub_cons rfl ((sub_cons rfl ((sub_nil _)))))))))))))))) (ulS (ulC (ulC (ulC (ulC (ulC ulR))))))
 ·replace hq13 := of_decide_eq_false hq13
  refine GC.exit (GE.thenE (GE.thenE (GE.blockE (GE.thenN (GC.seq ?_)))))
  have hzn1 : z.1 = n := by omega
  rw [hzn1, ← hx, mpC_full, hx]
  refine GC.region ?_
  refine GL.val (v := (.agg #[(.int .i64 W), (.int .i64 H), (.slice (some ⟨j8.2, 0, none⟩) n n)])) (Ex.loadA rfl T.ag75 T.sz75 (i := 0) rfl (vs := [(.int .i64 W), (.int .i64 H), (.slice (some ⟨j8.2, 0, none⟩) n n)]) rfl rfl) (by decide) ?_
  refine GL.step (Stp.st2 (cs' := [(.int .i64 W), (.int .i64 H), (.slice (some ⟨j8.2, 0, none⟩) n n)]) rfl rfl rfl T.sz75 rfl rfl rfl) (fun _ _ => ?_)
  refine GL.nil (GE.thenN (GC.ret ?_))
  refine GC.ret1 rfl (Rv.cellA rfl T.ag75 T.sz75 (L := _) (i := 2) rfl (vs := [(.int .i64 W), (.int .i64 H), (.slice (some ⟨j8.2, 0, none⟩) n n)]) rfl rfl) (fun wN HN => ?_)
  exact HN.frm (z.2, j8.2, n, ([] : List Value)) ⟨hp.2.1, (by show z.2.xs = _; rw [hp.2.2, hzn1, ← hx, List.take_length]), (by simp [hx]), (show n ≤ 9223372036854775807 by omega)⟩ (by simp [hx]) (by rw [List.append_nil]; exact (ulS (ulC (ulS (ulS (ulS ulR))))))

theorem chplaneF_p (w0 : World) (R : List Blk) (Z : List Blk) (hb pb : Nat) (a : Aw) (add : Int) (p : Pn) (W H : Nat) (w : World) (hok : okP W H) (h : p.W = (W : Int) ∧ p.H = (H : Int) ∧ p.n = W * H) (hq : ∀ w', Hv Z w' → p.Ok w') (ha : a.Ok) (han : a.n ≤ 900000) (hadd : ∀ w', Hv Z w' → w'.cell? ⟨pb, 0, none⟩ = some (.int .u32 add)) (hp0 : Hp None w0 ((a.ask hb 53 52) ++ (Z ++ R)) w) :
  Calls Tryz.prog 57 #[(.agg #[(.func (.func 18) #[] #[(.pointer (some ⟨hb, 0, none⟩)), (.pointer (some ⟨pb, 0, none⟩))])]), .agg #[.int .i64 p.W, .int .i64 p.H, .slice p.ad p.n p.cap]] w (Frm (σ := Aw × (Nat × Nat × List Value)) None w0 (fun x => x.1.Ok ∧ x.1.xs = a.xs ++ p.xs ∧ ((p.xs.map (adU add)).map u32 ++ x.2.2.2).length = x.2.2.1 * 1 ∧ x.2.2.1 ≤ 9223372036854775807) (fun x => .agg #[.int .i64 p.W, .int .i64 p.H, .slice (some ⟨x.2.1, 0, none⟩) (p.xs.map (adU add)).length x.2.2.1]) (fun x => ⟨x.2.1, (p.xs.map (adU add)).map u32 ++ x.2.2.2, 52, true⟩ :: ((x.1.ask hb 53 52) ++ (Z ++ R)))) := by
 have hv : Hv Z w := Hp.seg (T := R) (A := [(a.ask hb 53 52), Z]) hp0 1 rfl
 obtain ⟨pw, ph, ad, n, cap, xs⟩ := p
 obtain ⟨h1, h2, h3⟩ := h
 dsimp only at h1 h2 h3 hq
 subst h1 h2 h3
 have hl := hq w hv
 have hq0 := Nat.mul_pos (show 0 < W from hok.1) (show 0 < H from hok.2.1)
 rcases hl.1.2.2.2 with q | ⟨b, o, e0, hr⟩
 ·exact absurd q (by show ¬ W * H = 0; omega)
 ·have e1 : ad = some ⟨b, o, none⟩ := e0
  subst e1
  exact chplaneF w0 R Z hb pb a add W H b o (W * H) cap xs w hl.1.1 hq0 hok.2.2.2.2 (fun w' h' => by
   rcases (hq w' h').1.2.2.2 with q | ⟨b', o', e, hr'⟩
   ·exact absurd q (by show ¬ W * H = 0; omega)
   ·cases e; exact hr') ha han hadd hp0

theorem map1F_all (w0 : World) (R : List Blk) (Z : List Blk) (hb pb : Nat) (a : Aw) (add : Int) (i W H bn bd : Nat) (k : Int) (p : Pn) (w : World) (hcn : ∀ w', Hv Z w' → w'.cell? ⟨bn, 0, none⟩ = some (.int .i64 k)) (hcd : ∀ w', Hv Z w' → w'.cell? ⟨bd, 0, none⟩ = some (.func (.func 57) #[(.agg #[(.func (.func 18) #[] #[(.pointer (some ⟨hb, 0, none⟩)), (.pointer (some ⟨pb, 0, none⟩))])])] #[])) (hok : okP W H) (h : p.W = (W : Int) ∧ p.H = (H : Int) ∧ p.n = W * H) (hq : ∀ w', Hv Z w' → p.Ok w') (ha : a.Ok) (han : a.n ≤ 900000) (hadd : ∀ w', Hv Z w' → w'.cell? ⟨pb, 0, none⟩ = some (.int .u32 add)) (hk : k = -1) (hp0 : Hp None w0 (((a.ask hb 53 52) ++ (Z ++ R))) w) :
  Calls Tryz.prog 58 #[(.int .i64 (((i : Nat) : Int))), (.agg #[(.int .i64 p.W), (.int .i64 p.H), (.slice p.ad p.n p.cap)]), (.pointer (some ⟨bn, 0, none⟩)), (.pointer (some ⟨bd, 0, none⟩))] w (Frm (σ := Aw × (Nat × Nat × List Value)) None w0 (fun x => x.1.Ok ∧ x.1.xs = a.xs ++ p.xs ∧ ((p.xs.map (adU add)).map u32 ++ x.2.2.2).length = x.2.2.1 * 1 ∧ x.2.2.1 ≤ 9223372036854775807) (fun x => .tuple #[.agg #[.int .i64 p.W, .int .i64 p.H, .slice (some ⟨x.2.1, 0, none⟩) (p.xs.map (adU add)).length x.2.2.1], .int .i64 0]) (fun x => ⟨x.2.1, (p.xs.map (adU add)).map u32 ++ x.2.2.2, 52, true⟩ :: ((x.1.ask hb 53 52) ++ (Z ++ R)))) := by
 refine enterF (w0 := w0) (M := None) (L := (((a.ask hb 53 52) ++ (Z ++ R)))) (n := 20) (l := [(0, (.int .i64 (((i : Nat) : Int)))), (1, (.agg #[(.int .i64 p.W), (.int .i64 p.H), (.slice p.ad p.n p.cap)])), (2, (.pointer (some ⟨bn, 0, none⟩))), (3, (.pointer (some ⟨bd, 0, none⟩)))]) Tryz.func58 rfl rfl (Args.cons rfl (Args.cons rfl (Args.cons rfl (Args.cons rfl (Args.nil _))))) hp0 ?_
 refine GC.seq (GC.region ?_)
 refine GL.step (Stp.box (cs := [(.int .i64 p.W), (.int .i64 p.H), (.slice p.ad p.n p.cap)]) rfl rfl (by decide)) (fun bq1 _ => ?_)
 refine GL.step (Stp.alloc T.zr75 (by decide)) (fun bq2 _ => ?_)
 refine GL.sg rfl (by decide) ?_
 refine GL.nil (GE.thenN (GC.seq (GC.seq (GC.region ?_))))
 refine GL.val (v := (.int .i64 k)) (Ex.loadF rfl T.ag3 (fun w hw => hcn w (Hp.seg (T := R) (A := [[_, _], (a.ask hb 53 52), Z]) hw 2 rfl))) (by decide) ?_
 refine GL.val (v := (.bool false)) (Ex.cast (Ex.neq rfl rfl) (congrArg Value.bool (decide_eq_false (by exact fun h => h hk)))) (by decide) ?_
 refine GL.mv rfl (by decide) ?_
 refine GL.skipG (tj := 10) rfl rfl rfl (by decide) ?_
 refine GL.skipG (tj := 10) rfl rfl rfl (by decide) ?_
 refine GL.skipG (tj := 10) rfl rfl rfl (by decide) ?_
 refine GL.val (v := (.bool false)) (Ex.pickF rfl rfl) (by decide) ?_
 refine GL.nil (GE.thenN ?_)
 refine GC.cond rfl (fun hq3 => by cases hq3) (fun _ => ?_)
 refine GC.skip (GE.thenN (GC.seq (GC.region ?_)))
 refine GL.val (v := (.func (.func 57) #[(.agg #[(.func (.func 18) #[] #[(.pointer (some ⟨hb, 0, none⟩)), (.pointer (some ⟨pb, 0, none⟩))])])] #[])) (Ex.loadF rfl T.ag91 (fun w hw => hcd w (Hp.seg (T := R) (A := [[_, _], (a.ask hb 53 52), Z]) hw 2 rfl))) (by decide) ?_
 refine GL.val (v := (.agg #[(.int .i64 p.W), (.int .i64 p.H), (.slice p.ad p.n p.cap)])) (Ex.loadA rfl T.ag75 T.sz75 (i := 1) rfl (vs := [(.int .i64 p.W), (.int .i64 p.H), (.slice p.ad p.n p.cap)]) rfl rfl) (by decide) ?_
 refine GL.step (Stp.callB (vs := [(.agg #[(.int .i64 p.W), (.int .i64 p.H), (.slice p.ad p.n p.cap)])]) rfl rfl T.own57 (by decide) (fun wc hw => (chplaneF_p w0 ([⟨bq2, [(.int .i64 0), (.int .i64 0), (.slice none 0 0)], 75, true⟩] ++ ([⟨bq1, [(.int .i64 p.W), (.int .i64 p.H), (.slice p.ad p.n p.cap)], 75, true⟩] ++ R)) Z hb pb a add p W H wc hok h hq ha han hadd (by exact Hp.segsT (T := R) (A := [[⟨bq2, [(.int .i64 0), (.int .i64 0), (.slice none 0 0)], 75, true⟩], [⟨bq1, [(.int .i64 p.W), (.int .i64 p.H), (.slice p.ad p.n p.cap)], 75, true⟩], (a.ask hb 53 52), Z]) (idx := [2, 3, 0, 1]) 4 [] hw rfl (by decide) rfl)).mono fun e w' ⟨x, he, hp, h⟩ => ⟨x, he, hp, (by exact Hp.segsT (T := R) (A := [[⟨x.2.1, (p.xs.map (adU add)).map u32 ++ x.2.2.2, 52, true⟩], (x.1.ask hb 53 52), Z, [⟨bq2, [(.int .i64 0), (.int .i64 0), (.slice none 0 0)], 75, true⟩], [⟨bq1, [(.int .i64 p.W), (.int .i64 p.H), (.slice p.ad p.n p.cap)], 75, true⟩]]) (idx := [3, 4, 0, 1, 2]) 5 [] h rfl (by decide) rfl)⟩)) (fun xq4 hq5 => ?_)
 refine GL.step (Stp.st0 (cs' := [(.int .i64 p.W), (.int .i64 p.H), (.slice (some ⟨xq4.2.1, 0, none⟩) ((p.xs.map (adU add)).length) xq4.2.2.1)]) rfl rfl rfl T.sz75 rfl rfl rfl) (fun _ _ => ?_)
 refine GL.sg rfl (by decide) ?_
 refine GL.nil (GE.thenN (GC.ret ?_))
 refine GC.ret2 rfl (Rv.cellA rfl T.ag75 T.sz75 (L := _) (i := 0) rfl (vs := [(.int .i64 p.W), (.int .i64 p.H), (.slice (some ⟨xq4.2.1, 0, none⟩) ((p.xs.map (adU add)).length) xq4.2.2.1)]) rfl rfl) (Rv.tmp rfl) (fun wN HN => ?_)
 exact HN.frm xq4 hq5 (by rfl) (ulS (ulS ulR))

theorem map1F_this (w0 : World) (R : List Blk) (Z : List Blk) (hb pb : Nat) (a : Aw) (add : Int) (i W H bn bd : Nat) (k : Int) (p : Pn) (w : World) (hcn : ∀ w', Hv Z w' → w'.cell? ⟨bn, 0, none⟩ = some (.int .i64 k)) (hcd : ∀ w', Hv Z w' → w'.cell? ⟨bd, 0, none⟩ = some (.func (.func 57) #[(.agg #[(.func (.func 18) #[] #[(.pointer (some ⟨hb, 0, none⟩)), (.pointer (some ⟨pb, 0, none⟩))])])] #[])) (hok : okP W H) (h : p.W = (W : Int) ∧ p.H = (H : Int) ∧ p.n = W * H) (hq : ∀ w', Hv Z w' → p.Ok w') (ha : a.Ok) (han : a.n ≤ 900000) (hadd : ∀ w', Hv Z w' → w'.cell? ⟨pb, 0, none⟩ = some (.int .u32 add)) (hk : k ≠ -1 ∧ ((i : Nat) : Int) = k) (hp0 : Hp None w0 (((a.ask hb 53 52) ++ (Z ++ R))) w) :
  Calls Tryz.prog 58 #[(.int .i64 (((i : Nat) : Int))), (.agg #[(.int .i64 p.W), (.int .i64 p.H), (.slice p.ad p.n p.cap)]), (.pointer (some ⟨bn, 0, none⟩)), (.pointer (some ⟨bd, 0, none⟩))] w (Frm (σ := Aw × (Nat × Nat × List Value)) None w0 (fun x => x.1.Ok ∧ x.1.xs = a.xs ++ p.xs ∧ ((p.xs.map (adU add)).map u32 ++ x.2.2.2).length = x.2.2.1 * 1 ∧ x.2.2.1 ≤ 9223372036854775807) (fun x => .tuple #[.agg #[.int .i64 p.W, .int .i64 p.H, .slice (some ⟨x.2.1, 0, none⟩) (p.xs.map (adU add)).length x.2.2.1], .int .i64 0]) (fun x => ⟨x.2.1, (p.xs.map (adU add)).map u32 ++ x.2.2.2, 52, true⟩ :: ((x.1.ask hb 53 52) ++ (Z ++ R)))) := by
 refine enterF (w0 := w0) (M := None) (L := (((a.ask hb 53 52) ++ (Z ++ R)))) (n := 20) (l := [(0, (.int .i64 (((i : Nat) : Int)))), (1, (.agg #[(.int .i64 p.W), (.int .i64 p.H), (.slice p.ad p.n p.cap)])), (2, (.pointer (some ⟨bn, 0, none⟩))), (3, (.pointer (some ⟨bd, 0, none⟩)))]) Tryz.func58 rfl rfl (Args.cons rfl (Args.cons rfl (Args.cons rfl (Args.cons rfl (Args.nil _))))) hp0 ?_
 refine GC.seq (GC.region ?_)
 refine GL.step (Stp.box (cs := [(.int .i64 p.W), (.int .i64 p.H), (.slice p.ad p.n p.cap)]) rfl rfl (by decide)) (fun bq1 _ => ?_)
 refine GL.step (Stp.alloc T.zr75 (by decide)) (fun bq2 _ => ?_)
 refine GL.sg rfl (by decide) ?_
 refine GL.nil (GE.thenN (GC.seq (GC.seq (GC.region ?_))))
 refine GL.val (v := (.int .i64 k)) (Ex.loadF rfl T.ag3 (fun w hw => hcn w (Hp.seg (T := R) (A := [[_, _], (a.ask hb 53 52), Z]) hw 2 rfl))) (by decide) ?_
 refine GL.val (v := (.bool true)) (Ex.cast (Ex.neq rfl rfl) (congrArg Value.bool (decide_eq_true (by exact hk.1)))) (by decide) ?_
 refine GL.mv rfl (by decide) ?_
 refine GL.stepG (tj := 10) rfl rfl (Ex.wp (v := (.int .i64 (((i : Nat) : Int)))) (Ex.move rfl) (by decide)) (fun _ _ => ?_)
 refine GL.stepG (tj := 10) rfl rfl (Ex.wp (v := (.int .i64 k)) (Ex.loadF rfl T.ag3 (fun w hw => hcn w (Hp.seg (T := R) (A := [[_, _], (a.ask hb 53 52), Z]) hw 2 rfl))) (by decide)) (fun _ _ => ?_)
 refine GL.stepG (tj := 10) rfl rfl (Ex.wp (v := (.bool false)) (Ex.cast (Ex.neq rfl rfl) (congrArg Value.bool (decide_eq_false (by exact fun h => h hk.2)))) (by decide)) (fun _ _ => ?_)
 refine GL.val (v := (.bool false)) (Ex.pickT rfl rfl) (by decide) ?_
 refine GL.nil (GE.thenN ?_)
 refine GC.cond rfl (fun hq3 => by cases hq3) (fun _ => ?_)
 refine GC.skip (GE.thenN (GC.seq (GC.region ?_)))
 refine GL.val (v := (.func (.func 57) #[(.agg #[(.func (.func 18) #[] #[(.pointer (some ⟨hb, 0, none⟩)), (.pointer (some ⟨pb, 0, none⟩))])])] #[])) (Ex.loadF rfl T.ag91 (fun w hw => hcd w (Hp.seg (T := R) (A := [[_, _], (a.ask hb 53 52), Z]) hw 2 rfl))) (by decide) ?_
 refine GL.val (v := (.agg #[(.int .i64 p.W), (.int .i64 p.H), (.slice p.ad p.n p.cap)])) (Ex.loadA rfl T.ag75 T.sz75 (i := 1) rfl (vs := [(.int .i64 p.W), (.int .i64 p.H), (.slice p.ad p.n p.cap)]) rfl rfl) (by decide) ?_
 refine GL.step (Stp.callB (vs := [(.agg #[(.int .i64 p.W), (.int .i64 p.H), (.slice p.ad p.n p.cap)])]) rfl rfl T.own57 (by decide) (fun wc hw => (chplaneF_p w0 ([⟨bq2, [(.int .i64 0), (.int .i64 0), (.slice none 0 0)], 75, true⟩] ++ ([⟨bq1, [(.int .i64 p.W), (.int .i64 p.H), (.slice p.ad p.n p.cap)], 75, true⟩] ++ R)) Z hb pb a add p W H wc hok h hq ha han hadd (by exact Hp.segsT (T := R) (A := [[⟨bq2, [(.int .i64 0), (.int .i64 0), (.slice none 0 0)], 75, true⟩], [⟨bq1, [(.int .i64 p.W), (.int .i64 p.H), (.slice p.ad p.n p.cap)], 75, true⟩], (a.ask hb 53 52), Z]) (idx := [2, 3, 0, 1]) 4 [] hw rfl (by decide) rfl)).mono fun e w' ⟨x, he, hp, h⟩ => ⟨x, he, hp, (by exact Hp.segsT (T := R) (A := [[⟨x.2.1, (p.xs.map (adU add)).map u32 ++ x.2.2.2, 52, true⟩], (x.1.ask hb 53 52), Z, [⟨bq2, [(.int .i64 0), (.int .i64 0), (.slice none 0 0)], 75, true⟩], [⟨bq1, [(.int .i64 p.W), (.int .i64 p.H), (.slice p.ad p.n p.cap)], 75, true⟩]]) (idx := [3, 4, 0, 1, 2]) 5 [] h rfl (by decide) rfl)⟩)) (fun xq4 hq5 => ?_)
 refine GL.step (Stp.st0 (cs' := [(.int .i64 p.W), (.int .i64 p.H), (.slice (some ⟨xq4.2.1, 0, none⟩) ((p.xs.map (adU add)).length) xq4.2.2.1)]) rfl rfl rfl T.sz75 rfl rfl rfl) (fun _ _ => ?_)
 refine GL.sg rfl (by decide) ?_
 refine GL.nil (GE.thenN (GC.ret ?_))
 refine GC.ret2 rfl (Rv.cellA rfl T.ag75 T.sz75 (L := _) (i := 0) rfl (vs := [(.int .i64 p.W), (.int .i64 p.H), (.slice (some ⟨xq4.2.1, 0, none⟩) ((p.xs.map (adU add)).length) xq4.2.2.1)]) rfl rfl) (Rv.tmp rfl) (fun wN HN => ?_)
 exact HN.frm xq4 hq5 (by rfl) (ulS (ulS ulR))

theorem map1F_same (w0 : World) (R : List Blk) (Z : List Blk) (hb pb : Nat) (a : Aw) (add : Int) (i W H bn bd : Nat) (k : Int) (p : Pn) (w : World) (hcn : ∀ w', Hv Z w' → w'.cell? ⟨bn, 0, none⟩ = some (.int .i64 k)) (hcd : ∀ w', Hv Z w' → w'.cell? ⟨bd, 0, none⟩ = some (.func (.func 57) #[(.agg #[(.func (.func 18) #[] #[(.pointer (some ⟨hb, 0, none⟩)), (.pointer (some ⟨pb, 0, none⟩))])])] #[])) (hok : okP W H) (h : p.W = (W : Int) ∧ p.H = (H : Int) ∧ p.n = W * H) (hq : ∀ w', Hv Z w' → p.Ok w') (ha : a.Ok) (han : a.n ≤ 900000) (hadd : ∀ w', Hv Z w' → w'.cell? ⟨pb, 0, none⟩ = some (.int .u32 add)) (hk : k ≠ -1 ∧ ((i : Nat) : Int) ≠ k) (hp0 : Hp None w0 (((a.ask hb 53 52) ++ (Z ++ R))) w) :
  Calls Tryz.prog 58 #[(.int .i64 (((i : Nat) : Int))), (.agg #[(.int .i64 p.W), (.int .i64 p.H), (.slice p.ad p.n p.cap)]), (.pointer (some ⟨bn, 0, none⟩)), (.pointer (some ⟨bd, 0, none⟩))] w (Frm (σ := Aw × (Nat × Nat × List Value)) None w0 (fun x => x.1.Ok ∧ x.1.xs = a.xs ++ [] ∧ (p.xs.map u32 ++ x.2.2.2).length = x.2.2.1 * 1 ∧ x.2.2.1 ≤ 9223372036854775807) (fun x => .tuple #[.agg #[.int .i64 p.W, .int .i64 p.H, .slice (some ⟨x.2.1, 0, none⟩) p.xs.length x.2.2.1], .int .i64 0]) (fun x => ⟨x.2.1, p.xs.map u32 ++ x.2.2.2, 52, true⟩ :: ((x.1.ask hb 53 52) ++ (Z ++ R)))) := by
 refine enterF (w0 := w0) (M := None) (L := (((a.ask hb 53 52) ++ (Z ++ R)))) (n := 20) (l := [(0, (.int .i64 (((i : Nat) : Int)))), (1, (.agg #[(.int .i64 p.W), (.int .i64 p.H), (.slice p.ad p.n p.cap)])), (2, (.pointer (some ⟨bn, 0, none⟩))), (3, (.pointer (some ⟨bd, 0, none⟩)))]) Tryz.func58 rfl rfl (Args.cons rfl (Args.cons rfl (Args.cons rfl (Args.cons rfl (Args.nil _))))) hp0 ?_
 refine GC.seq (GC.region ?_)
 refine GL.step (Stp.box (cs := [(.int .i64 p.W), (.int .i64 p.H), (.slice p.ad p.n p.cap)]) rfl rfl (by decide)) (fun bq1 _ => ?_)
 refine GL.step (Stp.alloc T.zr75 (by decide)) (fun bq2 _ => ?_)
 refine GL.sg rfl (by decide) ?_
 refine GL.nil (GE.thenN (GC.seq (GC.seq (GC.region ?_))))
 refine GL.val (v := (.int .i64 k)) (Ex.loadF rfl T.ag3 (fun w hw => hcn w (Hp.seg (T := R) (A := [[_, _], (a.ask hb 53 52), Z]) hw 2 rfl))) (by decide) ?_
 refine GL.val (v := (.bool true)) (Ex.cast (Ex.neq rfl rfl) (congrArg Value.bool (decide_eq_true (by exact hk.1)))) (by decide) ?_
 refine GL.mv rfl (by decide) ?_
 refine GL.stepG (tj := 10) rfl rfl (Ex.wp (v := (.int .i64 (((i : Nat) : Int)))) (Ex.move rfl) (by decide)) (fun _ _ => ?_)
 refine GL.stepG (tj := 10) rfl rfl (Ex.wp (v := (.int .i64 k)) (Ex.loadF rfl T.ag3 (fun w hw => hcn w (Hp.seg (T := R) (A := [[_, _], (a.ask hb 53 52), Z]) hw 2 rfl))) (by decide)) (fun _ _ => ?_)
 refine GL.stepG (tj := 10) rfl rfl (Ex.wp (v := (.bool true)) (Ex.cast (Ex.neq rfl rfl) (congrArg Value.bool (decide_eq_true (by exact hk.2)))) (by decide)) (fun _ _ => ?_)
 refine GL.val (v := (.bool true)) (Ex.pickT rfl rfl) (by decide) ?_
 refine GL.nil (GE.thenN ?_)
 refine GC.cond rfl (fun _ => ?_) (fun hq3 => by cases hq3)
 refine GC.seq (GC.region ?_)
 refine GL.val (v := (.agg #[(.int .i64 p.W), (.int .i64 p.H), (.slice p.ad p.n p.cap)])) (Ex.loadA rfl T.ag75 T.sz75 (i := 1) rfl (vs := [(.int .i64 p.W), (.int .i64 p.H), (.slice p.ad p.n p.cap)]) rfl rfl) (by decide) ?_
 refine GL.step (Stp.callR (σ := Nat × Nat × List Value) (p := fun rz => (p.d.2.2.map u32 ++ rz.2.2).length = rz.2.1 * 1 ∧ rz.2.1 ≤ 9223372036854775807) (v := fun rz => (.agg #[(.int .i64 p.d.1), (.int .i64 p.d.2.1), (.slice (some ⟨rz.1, 0, none⟩) p.d.2.2.length rz.2.1)])) (N := fun rz => [⟨rz.1, p.d.2.2.map u32 ++ rz.2.2, 52, true⟩]) (vs := [(.agg #[(.int .i64 p.W), (.int .i64 p.H), (.slice p.ad p.n p.cap)])]) rfl rfl T.own51 (by decide) (fun wc hw => (by exact copied_p p W H wc hok h (hq wc (Hp.seg (T := R) (A := [[_, _], (a.ask hb 53 52), Z]) hw 2 rfl))))) (fun xq4 hq5 => ?_)
 refine GL.step (Stp.st1 (cs' := [(.int .i64 p.d.1), (.int .i64 p.d.2.1), (.slice (some ⟨xq4.1, 0, none⟩) p.d.2.2.length xq4.2.1)]) rfl rfl rfl T.sz75 rfl rfl rfl) (fun _ _ => ?_)
 refine GL.sg rfl (by decide) ?_
 refine GL.nil (GE.thenN (GC.ret (GE.thenR ?_)))
 refine GC.ret2 rfl (Rv.cellA rfl T.ag75 T.sz75 (L := _) (i := 1) rfl (vs := [(.int .i64 p.d.1), (.int .i64 p.d.2.1), (.slice (some ⟨xq4.1, 0, none⟩) p.d.2.2.length xq4.2.1)]) rfl rfl) (Rv.tmp rfl) (fun wN HN => ?_)
 exact HN.frm (a, xq4) ⟨ha, (List.append_nil _).symm, hq5⟩ (by rfl) (ulC (ulS (ulS ulR)))

theorem everyF (w0 : World) (R : List Blk) (Z : List Blk) (hb : Nat) (a : Aw) (sp : Int) (b o n cap : Nat) (ps : List Pn) (W H : Nat) (fid : FuncId) (caps : Array Value) (g : Nat → Int × Int × List Int) (qf : Nat → List Int) (w : World) (hps : ∀ w', Hv Z w' → Pns w' b o ps) (hn : n = ps.length) (hok : OkPic sp ps W H) (ha : a.Ok) (han : a.n ≤ 500000) (hqf : ∀ i, (qf i).length ≤ 65536) (hf : FnA Tryz.prog w0 fid caps hb Z ps g qf 53 52 900000) (hp0 : Hp None w0 (((a.ask hb 53 52) ++ (Z ++ R))) w) :
  Calls Tryz.prog 36 #[(.agg #[(.int .i64 sp), (.slice (some ⟨b, o, none⟩) n cap)]), (.func (.func fid) #[] caps)] w (Frm (σ := Aw × Ac) None w0 (fun x => x.1.Ok ∧ x.1.xs = a.xs ++ asks qf n ∧ x.2.qs ≠ [] ∧ x.2.ds = (List.range n).map g ∧ x.2.Ok ∧ ∀ q ∈ x.2.qs, q.Ok) (fun x => .tuple #[(.agg #[(.int .i64 sp), (.slice x.2.ad x.2.n x.2.cp)]), .int .i64 0]) (fun x => ((x.2.row 75) ++ ((x.2.qs.map (Nq.blk 52)) ++ ((x.1.ask hb 53 52) ++ (Z ++ R)))))) := by
 refine enterF (w0 := w0) (M := None) (L := (((a.ask hb 53 52) ++ (Z ++ R)))) (n := 48) (l := [(0, (.agg #[(.int .i64 sp), (.slice (some ⟨b, o, none⟩) n cap)])), (1, (.func (.func fid) #[] caps))]) Tryz.func36 rfl rfl (Args.cons rfl (Args.cons rfl (Args.nil _))) hp0 ?_
 refine GC.seq (GC.region ?_)
 refine GL.step (Stp.box (cs := [(.int .i64 sp), (.slice (some ⟨b, o, none⟩) n cap)]) rfl rfl (by decide)) (fun bq1 _ => ?_)
 refine GL.step (Stp.alloc T.zr24 (by decide)) (fun bq2 _ => ?_)
 refine GL.sg rfl (by decide) ?_
 refine GL.nil (GE.thenN (GC.seq (GC.seq (GC.region ?_))))
 refine GL.val (v := (.agg #[(.int .i64 sp), (.slice (some ⟨b, o, none⟩) n cap)])) (Ex.loadA rfl T.ag24 T.sz24 (i := 1) rfl (vs := [(.int .i64 sp), (.slice (some ⟨b, o, none⟩) n cap)]) rfl rfl) (by decide) ?_
 refine GL.step (Stp.callR (σ := Unit) (p := fun rz => True) (v := fun rz => (.int .i64 0)) (N := fun rz => []) (vs := [(.agg #[(.int .i64 sp), (.slice (some ⟨b, o, none⟩) n cap)])]) rfl rfl T.own48 (by decide) (fun wc hw => (by have h := chk_p sp b o n cap ps wc (hps wc (Hp.seg (T := R) (A := [[_, _], (a.ask hb 53 52), Z]) hw 2 rfl)) hn (by have := hok.n4; omega); rw [hok.chk] at h; exact h))) (fun xq3 hq4 => ?_)
 refine GL.sg rfl (by decide) ?_
 refine GL.nil (GE.thenN (GC.seq (GC.region ?_)))
 refine GL.mv rfl (by decide) ?_
 refine GL.val (v := (.bool false)) (Ex.cast (Ex.neq rfl rfl) rfl) (by decide) ?_
 refine GL.nil (GE.thenN ?_)
 refine GC.cond rfl (fun hq5 => by cases hq5) (fun _ => ?_)
 refine GC.skip (GE.thenN (GC.seq (GC.region ?_)))
 refine GL.val (v := (.pointer (some ⟨bq1, 0, none⟩))) (Ex.cast (Ex.fieldAddr rfl Tryz.underlying24 rfl T.sz3 (by decide)) rfl) (by decide) ?_
 refine GL.val (Ex.load rfl T.ag3 (i := 1) rfl rfl) (by decide) ?_
 refine GL.val (v := (.agg #[(.int .i64 sp), (.slice none 0 0)])) (Ex.build (vs := [(0, (.int .i64 sp))]) rfl (by first | rfl | kernel_rfl)) (by decide) ?_
 refine GL.step (Stp.alloc T.zr24 (by decide)) (fun bq6 _ => ?_)
 refine GL.step (Stp.st0 (cs' := [(.int .i64 sp), (.slice none 0 0)]) rfl rfl rfl T.sz24 rfl rfl rfl) (fun _ _ => ?_)
 refine GL.nil (GE.thenN (GC.seq (GC.seq (GC.region ?_))))
 refine GL.val (v := (.pointer (some ⟨bq1, 1, none⟩))) (Ex.cast (Ex.fieldAddr rfl Tryz.underlying24 rfl T.sz22 (by decide)) rfl) (by decide) ?_
 refine GL.val (Ex.load rfl T.ag22 (i := 2) rfl rfl) (by decide) ?_
 refine GL.val (v := (.int .i64 ((n : Int)))) (Ex.len rfl Tryz.underlying22) (by decide) ?_
 refine GL.mv rfl (by decide) ?_
 refine GL.nil (GE.thenN (GC.block ?_))
 refine GC.loop (σ := Aw × Ac) (fun z => z.2.n ≤ n ∧ z.2.ds = (List.range z.2.n).map g ∧ z.2.Ok ∧ (∀ q ∈ z.2.qs, q.Ok) ∧ z.1.Ok ∧ z.1.xs = a.xs ++ asks qf z.2.n) (fun z => [(1, (.func (.func fid) #[] caps)), (2, (.pointer (some ⟨bq1, 0, none⟩))), (4, (.pointer (some ⟨bq2, 0, none⟩))), (5, (.int .i64 0)), (7, (.pointer (some ⟨bq6, 0, none⟩))), (22, (.slice (some ⟨b, o, none⟩) n cap)), (23, (.int .i64 ((n : Int)))), (24, (.int .i64 (((z.2.n : Nat) : Int))))]) (fun z => (⟨bq6, [(.int .i64 sp), (.slice z.2.ad z.2.n z.2.cp)], 24, true⟩ :: ⟨bq2, [(.int .i64 0), (.slice none 0 0)], 24, true⟩ :: ⟨bq1, [(.int .i64 sp), (.slice (some ⟨b, o, none⟩) n cap)], 24, true⟩ :: ((z.2.row 75) ++ ((z.2.qs.map (Nq.blk 52)) ++ ((z.1.ask hb 53 52) ++ (Z ++ R)))))) (fun z => n - z.2.n) ((a, Ac.no)) ⟨Nat.zero_le _, rfl, Or.inl rfl, fun q h => (by cases h), ha, (List.append_nil _).symm⟩ ((sub_cons rfl ((sub_cons rfl ((sub_cons rfl ((sub_cons rfl ((sub_cons rfl ((sub_cons rfl ((sub_cons rfl ((sub_cons rfl ((sub_nil _)))))))))))))))))) (ulC (ulC (ulC ulR))) (fun z hp => ?_)
 have hpn := hp.1
 have hp4 := hok.n4
 have hzn : z.1.n ≤ 900000 := by show z.1.xs.length ≤ _; rw [hp.2.2.2.2.2, List.length_append]; have h1 := asks_len hqf z.2.n; have h2 : a.xs.length ≤ 500000 := han; have h3 : z.2.n * 65536 ≤ 4 * 65536 := Nat.mul_le_mul_right _ (by omega); omega
 refine GC.seq (GC.region ?_)
 refine GL.val (v := (.bool (decide ((((z.2.n : Nat) : Int)) < ((n : Int)))))) (Ex.lss rfl rfl) (by decide) ?_
 refine GL.nil (GE.thenN (GC.seq ?_))
 refine GC.cond rfl (fun hq7 => ?_) (fun hq7 => ?_)
 ·replace hq7 := of_decide_eq_true hq7
  refine GC.skip (GE.thenN (GC.seq (GC.block (GC.seq (GC.region ?_)))))
  refine GL.mv rfl (by decide) ?_
  refine GL.val (v := (.pointer (some ⟨b, o + z.2.n * 3, none⟩))) (Ex.cast (Ex.indexAddr rfl rfl Tryz.underlying22 T.sz75 (by omega) (by omega)) (by simp)) (by decide) ?_
  refine GL.val (v := (.agg #[(.int .i64 ((pAt ps z.2.n).W)), (.int .i64 ((pAt ps z.2.n).H)), (.slice (pAt ps z.2.n).ad ((pAt ps z.2.n).n) ((pAt ps z.2.n).cap))])) (Ex.loadAF rfl T.ag75 T.sz75 (fun w hw => Pns.ld (i := z.2.n) (hps w (Hp.seg (T := R) (A := [[_, _, _], (z.2.row 75), (z.2.qs.map (Nq.blk 52)), (z.1.ask hb 53 52), Z]) hw 4 rfl)) (by omega)) rfl) (by decide) ?_
  refine GL.step (Stp.alloc T.zr75 (by decide)) (fun bq8 _ => ?_)
  refine GL.sg rfl (by decide) ?_
  refine GL.step (Stp.st0 (cs' := [(.int .i64 ((pAt ps z.2.n).W)), (.int .i64 ((pAt ps z.2.n).H)), (.slice (pAt ps z.2.n).ad ((pAt ps z.2.n).n) ((pAt ps z.2.n).cap))]) rfl rfl rfl T.sz75 rfl rfl rfl) (fun _ _ => ?_)
  refine GL.nil (GE.thenN (GC.seq (GC.region ?_)))
  refine GL.mv rfl (by decide) ?_
  refine GL.mv rfl (by decide) ?_
  refine GL.val (v := (.agg #[(.int .i64 ((pAt ps z.2.n).W)), (.int .i64 ((pAt ps z.2.n).H)), (.slice (pAt ps z.2.n).ad ((pAt ps z.2.n).n) ((pAt ps z.2.n).cap))])) (Ex.loadA rfl T.ag75 T.sz75 (i := 0) rfl (vs := [(.int .i64 ((pAt ps z.2.n).W)), (.int .i64 ((pAt ps z.2.n).H)), (.slice (pAt ps z.2.n).ad ((pAt ps z.2.n).n) ((pAt ps z.2.n).cap))]) rfl rfl) (by decide) ?_
  refine GL.step (Stp.call (vs := [(.int .i64 (((z.2.n : Nat) : Int))), (.agg #[(.int .i64 ((pAt ps z.2.n).W)), (.int .i64 ((pAt ps z.2.n).H)), (.slice (pAt ps z.2.n).ad ((pAt ps z.2.n).n) ((pAt ps z.2.n).cap))])]) rfl rfl hf.1 (by decide) (fun wc hw => (hf.2 z.2.n (by omega) z.1 ([⟨bq8, [(.int .i64 ((pAt ps z.2.n).W)), (.int .i64 ((pAt ps z.2.n).H)), (.slice (pAt ps z.2.n).ad ((pAt ps z.2.n).n) ((pAt ps z.2.n).cap))], 75, true⟩] ++ ([⟨bq6, [(.int .i64 sp), (.slice z.2.ad z.2.n z.2.cp)], 24, true⟩] ++ ([⟨bq2, [(.int .i64 0), (.slice none 0 0)], 24, true⟩] ++ ([⟨bq1, [(.int .i64 sp), (.slice (some ⟨b, o, none⟩) n cap)], 24, true⟩] ++ ((z.2.row 75) ++ ((z.2.qs.map (Nq.blk 52)) ++ R)))))) wc hp.2.2.2.2.1 hzn (by exact Hp.segsT (T := R) (A := [[⟨bq8, [(.int .i64 ((pAt ps z.2.n).W)), (.int .i64 ((pAt ps z.2.n).H)), (.slice (pAt ps z.2.n).ad ((pAt ps z.2.n).n) ((pAt ps z.2.n).cap))], 75, true⟩], [⟨bq6, [(.int .i64 sp), (.slice z.2.ad z.2.n z.2.cp)], 24, true⟩], [⟨bq2, [(.int .i64 0), (.slice none 0 0)], 24, true⟩], [⟨bq1, [(.int .i64 sp), (.slice (some ⟨b, o, none⟩) n cap)], 24, true⟩], (z.2.row 75), (z.2.qs.map (Nq.blk 52)), (z.1.ask hb 53 52), Z]) (idx := [6, 7, 0, 1, 2, 3, 4, 5]) 8 [] hw rfl (by decide) rfl)).mono fun e w' ⟨x, he, hp, h⟩ => ⟨x, he, hp, (by exact Hp.segsT (T := R) (A := [[Nq.blk 52 (Nq.mk (g z.2.n).1 (g z.2.n).2.1 (g z.2.n).2.2 x.2.1 x.2.2.1 x.2.2.2)], (x.1.ask hb 53 52), Z, [⟨bq8, [(.int .i64 ((pAt ps z.2.n).W)), (.int .i64 ((pAt ps z.2.n).H)), (.slice (pAt ps z.2.n).ad ((pAt ps z.2.n).n) ((pAt ps z.2.n).cap))], 75, true⟩], [⟨bq6, [(.int .i64 sp), (.slice z.2.ad z.2.n z.2.cp)], 24, true⟩], [⟨bq2, [(.int .i64 0), (.slice none 0 0)], 24, true⟩], [⟨bq1, [(.int .i64 sp), (.slice (some ⟨b, o, none⟩) n cap)], 24, true⟩], (z.2.row 75), (z.2.qs.map (Nq.blk 52))]) (idx := [3, 4, 5, 6, 7, 8, 0, 1, 2]) 9 [] h rfl (by decide) rfl)⟩)) (fun xq9 hq10 => ?_)
  refine GL.mv rfl (by decide) ?_
  refine GL.val (Ex.extract rfl rfl) (by decide) ?_
  refine GL.val (Ex.extract rfl rfl) (by decide) ?_
  refine GL.step (Stp.alloc T.zr75 (by decide)) (fun bq11 _ => ?_)
  refine GL.step (Stp.st0 (cs' := [(.int .i64 ((g z.2.n).1)), (.int .i64 ((g z.2.n).2.1)), (.slice (some ⟨xq9.2.1, 0, none⟩) ((g z.2.n).2.2.length) xq9.2.2.1)]) rfl rfl rfl T.sz75 rfl rfl rfl) (fun _ _ => ?_)
  refine GL.sg rfl (by decide) ?_
  refine GL.nil (GE.thenN (GC.seq (GC.seq (GC.region ?_))))
  refine GL.mv rfl (by decide) ?_
  refine GL.val (v := (.bool false)) (Ex.cast (Ex.neq rfl rfl) rfl) (by decide) ?_
  refine GL.nil (GE.thenN ?_)
  refine GC.cond rfl (fun hq12 => by cases hq12) (fun _ => ?_)
  refine GC.skip (GE.thenN (GC.region ?_))
  refine GL.val (v := (.pointer (some ⟨bq6, 1, none⟩))) (Ex.cast (Ex.fieldAddr rfl Tryz.underlying24 rfl T.sz22 (by decide)) rfl) (by decide) ?_
  refine GL.val (Ex.load rfl T.ag22 (i := 2) rfl rfl) (by decide) ?_
  refine GL.val (v := (.agg #[(.int .i64 ((g z.2.n).1)), (.int .i64 ((g z.2.n).2.1)), (.slice (some ⟨xq9.2.1, 0, none⟩) ((g z.2.n).2.2.length) xq9.2.2.1)])) (Ex.loadA rfl T.ag75 T.sz75 (i := 0) rfl (vs := [(.int .i64 ((g z.2.n).1)), (.int .i64 ((g z.2.n).2.1)), (.slice (some ⟨xq9.2.1, 0, none⟩) ((g z.2.n).2.2.length) xq9.2.2.1)]) rfl rfl) (by decide) ?_
  refine GL.step (Stp.buildSlice (cs := [(.int .i64 ((g z.2.n).1)), (.int .i64 ((g z.2.n).2.1)), (.slice (some ⟨xq9.2.1, 0, none⟩) ((g z.2.n).2.2.length) xq9.2.2.1)]) (vs := [(0, (.agg #[(.int .i64 ((g z.2.n).1)), (.int .i64 ((g z.2.n).2.1)), (.slice (some ⟨xq9.2.1, 0, none⟩) ((g z.2.n).2.2.length) xq9.2.2.1)]))]) Tryz.underlying22 T.zr75 T.sz75 rfl (by decide) (by decide) (by first | rfl | kernel_rfl) (by decide)) (fun bq13 _ => ?_)
  refine GL.step (Stp.appAc (a := z.2) (q := (Nq.mk (g z.2.n).1 (g z.2.n).2.1 (g z.2.n).2.2 xq9.2.1 xq9.2.2.1 xq9.2.2.2)) (K := [⟨bq13, [(.int .i64 ((g z.2.n).1)), (.int .i64 ((g z.2.n).2.1)), (.slice (some ⟨xq9.2.1, 0, none⟩) ((g z.2.n).2.2.length) xq9.2.2.1)], 75, true⟩, ⟨bq11, [(.int .i64 ((g z.2.n).1)), (.int .i64 ((g z.2.n).2.1)), (.slice (some ⟨xq9.2.1, 0, none⟩) ((g z.2.n).2.2.length) xq9.2.2.1)], 75, true⟩, ⟨bq8, [(.int .i64 ((pAt ps z.2.n).W)), (.int .i64 ((pAt ps z.2.n).H)), (.slice (pAt ps z.2.n).ad ((pAt ps z.2.n).n) ((pAt ps z.2.n).cap))], 75, true⟩, ⟨bq6, [(.int .i64 sp), (.slice z.2.ad z.2.n z.2.cp)], 24, true⟩, ⟨bq2, [(.int .i64 0), (.slice none 0 0)], 24, true⟩, ⟨bq1, [(.int .i64 sp), (.slice (some ⟨b, o, none⟩) n cap)], 24, true⟩]) (R := ((z.2.qs.map (Nq.blk 52)) ++ ([Nq.blk 52 (Nq.mk (g z.2.n).1 (g z.2.n).2.1 (g z.2.n).2.2 xq9.2.1 xq9.2.2.1 xq9.2.2.2)] ++ ((xq9.1.ask hb 53 52) ++ (Z ++ R))))) rfl rfl Tryz.underlying22 T.sz75 T.zr75 rfl T.by75 rfl hp.2.2.1 (fun w hw => hw.rdOf (i := 0) rfl 0) (by omega) (by omega) (by decide)) (fun xq14 hq15 => ?_)
  refine GL.val (v := (.pointer (some ⟨bq6, 1, none⟩))) (Ex.cast (Ex.fieldAddr rfl Tryz.underlying24 rfl T.sz22 (by decide)) rfl) (by decide) ?_
  refine GL.step (Stp.st3 (cs' := [(.int .i64 sp), (.slice (z.2.add (Nq.mk (g z.2.n).1 (g z.2.n).2.1 (g z.2.n).2.2 xq9.2.1 xq9.2.2.1 xq9.2.2.2) xq14).ad ((z.2.add (Nq.mk (g z.2.n).1 (g z.2.n).2.1 (g z.2.n).2.2 xq9.2.1 xq9.2.2.1 xq9.2.2.2) xq14).n) ((z.2.add (Nq.mk (g z.2.n).1 (g z.2.n).2.1 (g z.2.n).2.2 xq9.2.1 xq9.2.2.1 xq9.2.2.2) xq14).cp))]) rfl rfl rfl T.sz22 rfl rfl rfl) (fun _ _ => ?_)
  refine GL.nil (GE.blockN (GE.thenN ?_))
  refine GC.hp (L2 := (⟨bq13, [(.int .i64 ((g z.2.n).1)), (.int .i64 ((g z.2.n).2.1)), (.slice (some ⟨xq9.2.1, 0, none⟩) ((g z.2.n).2.2.length) xq9.2.2.1)], 75, true⟩ :: ⟨bq11, [(.int .i64 ((g z.2.n).1)), (.int .i64 ((g z.2.n).2.1)), (.slice (some ⟨xq9.2.1, 0, none⟩) ((g z.2.n).2.2.length) xq9.2.2.1)], 75, true⟩ :: ⟨bq8, [(.int .i64 ((pAt ps z.2.n).W)), (.int .i64 ((pAt ps z.2.n).H)), (.slice (pAt ps z.2.n).ad ((pAt ps z.2.n).n) ((pAt ps z.2.n).cap))], 75, true⟩ :: ⟨bq6, [(.int .i64 sp), (.slice (z.2.add (Nq.mk (g z.2.n).1 (g z.2.n).2.1 (g z.2.n).2.2 xq9.2.1 xq9.2.2.1 xq9.2.2.2) xq14).ad ((z.2.add (Nq.mk (g z.2.n).1 (g z.2.n).2.1 (g z.2.n).2.2 xq9.2.1 xq9.2.2.1 xq9.2.2.2) xq14).n) ((z.2.add (Nq.mk (g z.2.n).1 (g z.2.n).2.1 (g z.2.n).2.2 xq9.2.1 xq9.2.2.1 xq9.2.2.2) xq14).cp))], 24, true⟩ :: ⟨bq2, [(.int .i64 0), (.slice none 0 0)], 24, true⟩ :: ⟨bq1, [(.int .i64 sp), (.slice (some ⟨b, o, none⟩) n cap)], 24, true⟩ :: (((z.2.add (Nq.mk (g z.2.n).1 (g z.2.n).2.1 (g z.2.n).2.2 xq9.2.1 xq9.2.2.1 xq9.2.2.2) xq14).row 75) ++ (((z.2.add (Nq.mk (g z.2.n).1 (g z.2.n).2.1 (g z.2.n).2.2 xq9.2.1 xq9.2.2.1 xq9.2.2.2) xq14).qs.map (Nq.blk 52)) ++ ((xq9.1.ask hb 53 52) ++ (Z ++ R)))))) (fun w h => by rw [Ac.add_map, List.append_assoc]; exact h) ?_
  refine GC.region ?_
  refine GL.val (v := (.int .i64 ((((z.2.add (Nq.mk (g z.2.n).1 (g z.2.n).2.1 (g z.2.n).2.2 xq9.2.1 xq9.2.2.1 xq9.2.2.2) xq14).n : Nat) : Int)))) (Ex.add rfl rfl (Z := (((z.2.add (Nq.mk (g z.2.n).1 (g z.2.n).2.1 (g z.2.n).2.2 xq9.2.1 xq9.2.2.1 xq9.2.2.2) xq14).n : Nat) : Int)) (by rw [Ac.add_n, w64 (by omega)]; omega)) (by decide) ?_
  refine GL.mv rfl (by decide) ?_
  refine GL.nil (GE.thenN ?_)
  exact Head.mk ((xq9.1, (z.2.add (Nq.mk (g z.2.n).1 (g z.2.n).2.1 (g z.2.n).2.2 xq9.2.1 xq9.2.2.1 xq9.2.2.2) xq14))) ⟨(by show Ac.n _ ≤ n; rw [Ac.add_n]; omega), Ac.ds_step hp.2.1 rfl, hq15, Ac.add_mem hp.2.2.2.1 hq10.2.2, hq10.1, (by show xq9.1.xs = a.xs ++ asks qf (Ac.n _); rw [Ac.add_n, hq10.2.1, hp.2.2.2.2.2, List.append_assoc]; rfl)⟩ (by show n - Ac.n _ < _; rw [Ac.add_n]; omega) ((sub_cons rfl ((sub_cons rfl ((sub_cons rfl ((sub_cons rfl ((sub_cons rfl ((sub_cons rfl ((sub_cons rfl ((sub_cons rfl ((sub_nil _)))))))))))))))))) (ulS (ulS (ulS (ulC (ulC (ulC ulR))))))
 ·replace hq7 := of_decide_eq_false hq7
  refine GC.exit (GE.thenE (GE.thenE (GE.blockE (GE.thenN (GC.seq (GC.region ?_))))))
  refine GL.val (v := (.agg #[(.int .i64 sp), (.slice z.2.ad z.2.n z.2.cp)])) (Ex.loadA rfl T.ag24 T.sz24 (i := 0) rfl (vs := [(.int .i64 sp), (.slice z.2.ad z.2.n z.2.cp)]) rfl rfl) (by decide) ?_
  refine GL.step (Stp.st1 (cs' := [(.int .i64 sp), (.slice z.2.ad z.2.n z.2.cp)]) rfl rfl rfl T.sz24 rfl rfl rfl) (fun _ _ => ?_)
  refine GL.sg rfl (by decide) ?_
  refine GL.nil (GE.thenN (GC.ret ?_))
  refine GC.ret2 rfl (Rv.cellA rfl T.ag24 T.sz24 (L := _) (i := 1) rfl (vs := [(.int .i64 sp), (.slice z.2.ad z.2.n z.2.cp)]) rfl rfl) (Rv.tmp rfl) (fun wN HN => ?_)
  exact HN.frm z ⟨hp.2.2.2.2.1, (by rw [hp.2.2.2.2.2, show z.2.n = n by omega]), Ac.ne (by have := hok.n0; omega), (by rw [hp.2.1, show z.2.n = n by omega]), hp.2.2.1, hp.2.2.2.1⟩ (by rfl) (ulS (ulS (ulS ulR)))

theorem mapF_all (w0 : World) (R : List Blk) (Z : List Blk) (hb pb : Nat) (a : Aw) (add : Int) (sp : Int) (b o n cap : Nat) (ps : List Pn) (W H : Nat) (k : Int) (w : World) (hps : ∀ w', Hv Z w' → Pns w' b o ps) (hn : n = ps.length) (hok : OkPic sp ps W H) (ha : a.Ok) (han : a.n ≤ 500000) (hqf : ∀ i, (mpA k ps i).length ≤ 65536) (hadd : ∀ w', Hv Z w' → w'.cell? ⟨pb, 0, none⟩ = some (.int .u32 add)) (hk : k = -1) (hp0 : Hp None w0 (((a.ask hb 53 52) ++ (Z ++ R))) w) :
  Calls Tryz.prog 17 #[(.agg #[(.int .i64 sp), (.slice (some ⟨b, o, none⟩) n cap)]), (.int .i64 k), (.func (.func 18) #[] #[(.pointer (some ⟨hb, 0, none⟩)), (.pointer (some ⟨pb, 0, none⟩))])] w (Frm (σ := Aw × Ac) None w0 (fun x => x.1.Ok ∧ x.1.xs = a.xs ++ asks (mpA k ps) n ∧ x.2.qs ≠ [] ∧ x.2.ds = (List.range n).map (mpG (adU add) k ps) ∧ x.2.Ok ∧ ∀ q ∈ x.2.qs, q.Ok) (fun x => .tuple #[(.agg #[(.int .i64 sp), (.slice x.2.ad x.2.n x.2.cp)]), .int .i64 0]) (fun x => ((x.2.row 75) ++ ((x.2.qs.map (Nq.blk 52)) ++ ((x.1.ask hb 53 52) ++ (Z ++ R)))))) := by
 refine enterF (w0 := w0) (M := None) (L := (((a.ask hb 53 52) ++ (Z ++ R)))) (n := 33) (l := [(0, (.agg #[(.int .i64 sp), (.slice (some ⟨b, o, none⟩) n cap)])), (1, (.int .i64 k)), (2, (.func (.func 18) #[] #[(.pointer (some ⟨hb, 0, none⟩)), (.pointer (some ⟨pb, 0, none⟩))]))]) Tryz.func17 rfl rfl (Args.cons rfl (Args.cons rfl (Args.cons rfl (Args.nil _)))) hp0 ?_
 refine GC.seq (GC.region ?_)
 refine GL.step (Stp.box (cs := [(.int .i64 sp), (.slice (some ⟨b, o, none⟩) n cap)]) rfl rfl (by decide)) (fun bq1 _ => ?_)
 refine GL.step (Stp.box (cs := [(.int .i64 k)]) rfl rfl (by decide)) (fun bq2 _ => ?_)
 refine GL.step (Stp.alloc T.zr24 (by decide)) (fun bq3 _ => ?_)
 refine GL.sg rfl (by decide) ?_
 refine GL.nil (GE.thenN (GC.seq (GC.seq (GC.region ?_))))
 refine GL.val (v := (.agg #[(.int .i64 sp), (.slice (some ⟨b, o, none⟩) n cap)])) (Ex.loadA rfl T.ag24 T.sz24 (i := 2) rfl (vs := [(.int .i64 sp), (.slice (some ⟨b, o, none⟩) n cap)]) rfl rfl) (by decide) ?_
 refine GL.step (Stp.callR (σ := Unit) (p := fun rz => True) (v := fun rz => (.int .i64 0)) (N := fun rz => []) (vs := [(.agg #[(.int .i64 sp), (.slice (some ⟨b, o, none⟩) n cap)])]) rfl rfl T.own48 (by decide) (fun wc hw => (by have h := chk_p sp b o n cap ps wc (hps wc (Hp.seg (T := R) (A := [[_, _, _], (a.ask hb 53 52), Z]) hw 2 rfl)) hn (by have := hok.n4; omega); rw [hok.chk] at h; exact h))) (fun xq4 hq5 => ?_)
 refine GL.sg rfl (by decide) ?_
 refine GL.nil (GE.thenN (GC.seq (GC.region ?_)))
 refine GL.mv rfl (by decide) ?_
 refine GL.val (v := (.bool false)) (Ex.cast (Ex.neq rfl rfl) rfl) (by decide) ?_
 refine GL.nil (GE.thenN ?_)
 refine GC.cond rfl (fun hq6 => by cases hq6) (fun _ => ?_)
 refine GC.skip (GE.thenN (GC.seq (GC.seq (GC.region ?_))))
 refine GL.val (Ex.load rfl T.ag3 (i := 1) rfl rfl) (by decide) ?_
 refine GL.val (v := (.bool false)) (Ex.cast (Ex.neq rfl rfl) (congrArg Value.bool (decide_eq_false (by exact fun h => h hk)))) (by decide) ?_
 refine GL.mv rfl (by decide) ?_
 refine GL.skipG (tj := 18) rfl rfl rfl (by decide) ?_
 refine GL.skipG (tj := 18) rfl rfl rfl (by decide) ?_
 refine GL.skipG (tj := 18) rfl rfl rfl (by decide) ?_
 refine GL.skipG (tj := 18) rfl rfl rfl (by decide) ?_
 refine GL.val (v := (.bool false)) (Ex.pickF rfl rfl) (by decide) ?_
 refine GL.nil (GE.thenN ?_)
 refine GC.cond rfl (fun hq7 => by cases hq7) (fun _ => ?_)
 refine GC.skip (GE.thenN (GC.seq (GC.region ?_)))
 refine GL.mv rfl (by decide) ?_
 refine GL.val (v := (.agg #[(.func (.func 18) #[] #[(.pointer (some ⟨hb, 0, none⟩)), (.pointer (some ⟨pb, 0, none⟩))])])) (Ex.build (vs := [(0, (.func (.func 18) #[] #[(.pointer (some ⟨hb, 0, none⟩)), (.pointer (some ⟨pb, 0, none⟩))]))]) rfl (by first | rfl | kernel_rfl)) (by decide) ?_
 refine GL.val (v := (.func (.func 57) #[(.agg #[(.func (.func 18) #[] #[(.pointer (some ⟨hb, 0, none⟩)), (.pointer (some ⟨pb, 0, none⟩))])])] #[])) (Ex.funcB (bs := [(.agg #[(.func (.func 18) #[] #[(.pointer (some ⟨hb, 0, none⟩)), (.pointer (some ⟨pb, 0, none⟩))])])]) (cs := []) (fun _ hF => hF.evals _ _ rfl) (fun _ hF => hF.evals _ _ rfl)) (by decide) ?_
 refine GL.step (Stp.alloc T.zr91 (by decide)) (fun bq8 _ => ?_)
 refine GL.step (Stp.st0 (cs' := [(.func (.func 57) #[(.agg #[(.func (.func 18) #[] #[(.pointer (some ⟨hb, 0, none⟩)), (.pointer (some ⟨pb, 0, none⟩))])])] #[])]) rfl rfl rfl T.sz91 rfl rfl rfl) (fun _ _ => ?_)
 refine GL.nil (GE.thenN (GC.seq (GC.region ?_)))
 refine GL.val (v := (.agg #[(.int .i64 sp), (.slice (some ⟨b, o, none⟩) n cap)])) (Ex.loadA rfl T.ag24 T.sz24 (i := 3) rfl (vs := [(.int .i64 sp), (.slice (some ⟨b, o, none⟩) n cap)]) rfl rfl) (by decide) ?_
 refine GL.val (v := (.func (.func 58) #[] #[(.pointer (some ⟨bq2, 0, none⟩)), (.pointer (some ⟨bq8, 0, none⟩))])) (Ex.func (cs := [(.pointer (some ⟨bq2, 0, none⟩)), (.pointer (some ⟨bq8, 0, none⟩))]) rfl (fun _ hF => hF.evals _ _ rfl)) (by decide) ?_
 refine GL.step (Stp.call (vs := [(.agg #[(.int .i64 sp), (.slice (some ⟨b, o, none⟩) n cap)]), (.func (.func 58) #[] #[(.pointer (some ⟨bq2, 0, none⟩)), (.pointer (some ⟨bq8, 0, none⟩))])]) rfl rfl T.own36 (by decide) (fun wc hw => (everyF w0 ([⟨bq3, [(.int .i64 0), (.slice none 0 0)], 24, true⟩] ++ ([⟨bq1, [(.int .i64 sp), (.slice (some ⟨b, o, none⟩) n cap)], 24, true⟩] ++ R)) ([⟨bq2, [.int .i64 k], 3, true⟩, ⟨bq8, [(.func (.func 57) #[(.agg #[(.func (.func 18) #[] #[(.pointer (some ⟨hb, 0, none⟩)), (.pointer (some ⟨pb, 0, none⟩))])])] #[])], 91, true⟩] ++ Z) hb a sp b o n cap ps W H 58 #[.pointer (some ⟨bq2, 0, none⟩), .pointer (some ⟨bq8, 0, none⟩)] (mpG (adU add) k ps) (mpA k ps) wc (fun w' h' => hps w' (fun k hk => h' k (List.mem_append_right _ hk))) hn hok ha han hqf ⟨T.own58, fun i hi a' R' w' ha' han' hp' => by
  by_cases h1 : k = -1
  ·rw [show mpG (adU add) k ps i = _ from if_pos (Or.inl h1), show mpA k ps i = _ from if_pos (Or.inl h1)]; exact map1F_all w0 R' ([⟨bq2, [.int .i64 k], 3, true⟩, ⟨bq8, [(.func (.func 57) #[(.agg #[(.func (.func 18) #[] #[(.pointer (some ⟨hb, 0, none⟩)), (.pointer (some ⟨pb, 0, none⟩))])])] #[])], 91, true⟩] ++ Z) hb pb a' add i W H bq2 bq8 k (pAt ps i) w' (fun w' h' => Rd.of_heap (h' _ (List.mem_cons_self ..)) 0 _ rfl) (fun w' h' => Rd.of_heap (h' _ (List.mem_cons_of_mem _ (List.mem_cons_self ..))) 0 _ rfl) hok.ok (hok.at hi) (fun w' h' => (hps w' (fun k hk => h' k (List.mem_append_right _ hk))).ok _ (pAt_mem hi)) ha' han' (fun w' h' => hadd w' (fun k hk => h' k (List.mem_append_right _ hk))) h1 hp'
  ·by_cases h2 : ((i : Nat) : Int) = k
   ·rw [show mpG (adU add) k ps i = _ from if_pos (Or.inr h2), show mpA k ps i = _ from if_pos (Or.inr h2)]; exact map1F_this w0 R' ([⟨bq2, [.int .i64 k], 3, true⟩, ⟨bq8, [(.func (.func 57) #[(.agg #[(.func (.func 18) #[] #[(.pointer (some ⟨hb, 0, none⟩)), (.pointer (some ⟨pb, 0, none⟩))])])] #[])], 91, true⟩] ++ Z) hb pb a' add i W H bq2 bq8 k (pAt ps i) w' (fun w' h' => Rd.of_heap (h' _ (List.mem_cons_self ..)) 0 _ rfl) (fun w' h' => Rd.of_heap (h' _ (List.mem_cons_of_mem _ (List.mem_cons_self ..))) 0 _ rfl) hok.ok (hok.at hi) (fun w' h' => (hps w' (fun k hk => h' k (List.mem_append_right _ hk))).ok _ (pAt_mem hi)) ha' han' (fun w' h' => hadd w' (fun k hk => h' k (List.mem_append_right _ hk))) ⟨h1, h2⟩ hp'
   ·rw [show mpG (adU add) k ps i = _ from if_neg (fun h => h.elim h1 h2), show mpA k ps i = _ from if_neg (fun h => h.elim h1 h2)]; exact map1F_same w0 R' ([⟨bq2, [.int .i64 k], 3, true⟩, ⟨bq8, [(.func (.func 57) #[(.agg #[(.func (.func 18) #[] #[(.pointer (some ⟨hb, 0, none⟩)), (.pointer (some ⟨pb, 0, none⟩))])])] #[])], 91, true⟩] ++ Z) hb pb a' add i W H bq2 bq8 k (pAt ps i) w' (fun w' h' => Rd.of_heap (h' _ (List.mem_cons_self ..)) 0 _ rfl) (fun w' h' => Rd.of_heap (h' _ (List.mem_cons_of_mem _ (List.mem_cons_self ..))) 0 _ rfl) hok.ok (hok.at hi) (fun w' h' => (hps w' (fun k hk => h' k (List.mem_append_right _ hk))).ok _ (pAt_mem hi)) ha' han' (fun w' h' => hadd w' (fun k hk => h' k (List.mem_append_right _ hk))) ⟨h1, h2⟩ hp'⟩ (by exact Hp.segsT (T := R) (A := [[⟨bq8, [(.func (.func 57) #[(.agg #[(.func (.func 18) #[] #[(.pointer (some ⟨hb, 0, none⟩)), (.pointer (some ⟨pb, 0, none⟩))])])] #[])], 91, true⟩], [⟨bq3, [(.int .i64 0), (.slice none 0 0)], 24, true⟩], [⟨bq2, [(.int .i64 k)], 3, true⟩], [⟨bq1, [(.int .i64 sp), (.slice (some ⟨b, o, none⟩) n cap)], 24, true⟩], (a.ask hb 53 52), Z]) (idx := [4, 2, 0, 5, 1, 3]) 6 [] hw rfl (by decide) rfl)).mono fun e w' ⟨x, he, hp, h⟩ => ⟨x, he, hp, (by exact Hp.segsT (T := R) (A := [(x.2.row 75), (x.2.qs.map (Nq.blk 52)), (x.1.ask hb 53 52), [⟨bq2, [(.int .i64 k)], 3, true⟩], [⟨bq8, [(.func (.func 57) #[(.agg #[(.func (.func 18) #[] #[(.pointer (some ⟨hb, 0, none⟩)), (.pointer (some ⟨pb, 0, none⟩))])])] #[])], 91, true⟩], Z, [⟨bq3, [(.int .i64 0), (.slice none 0 0)], 24, true⟩], [⟨bq1, [(.int .i64 sp), (.slice (some ⟨b, o, none⟩) n cap)], 24, true⟩]]) (idx := [6, 7, 0, 1, 2, 5]) 8 [3, 4] h rfl (by decide) rfl)⟩)) (fun xq9 hq10 => ?_)
 refine GL.val (Ex.extract rfl rfl) (by decide) ?_
 refine GL.val (Ex.extract rfl rfl) (by decide) ?_
 refine GL.step (Stp.st0 (cs' := [(.int .i64 sp), (.slice xq9.2.ad xq9.2.n xq9.2.cp)]) rfl rfl rfl T.sz24 rfl rfl rfl) (fun _ _ => ?_)
 refine GL.sg rfl (by decide) ?_
 refine GL.nil (GE.thenN (GC.ret ?_))
 refine GC.ret2 rfl (Rv.cellA rfl T.ag24 T.sz24 (L := _) (i := 0) rfl (vs := [(.int .i64 sp), (.slice xq9.2.ad xq9.2.n xq9.2.cp)]) rfl rfl) (Rv.tmp rfl) (fun wN HN => ?_)
 exact HN.frm xq9 hq10 (by rfl) (ulS (ulS ulR))

theorem mapF_one (w0 : World) (R : List Blk) (Z : List Blk) (hb pb : Nat) (a : Aw) (add : Int) (sp : Int) (b o n cap : Nat) (ps : List Pn) (W H : Nat) (k : Int) (w : World) (hps : ∀ w', Hv Z w' → Pns w' b o ps) (hn : n = ps.length) (hok : OkPic sp ps W H) (ha : a.Ok) (han : a.n ≤ 500000) (hqf : ∀ i, (mpA k ps i).length ≤ 65536) (hadd : ∀ w', Hv Z w' → w'.cell? ⟨pb, 0, none⟩ = some (.int .u32 add)) (hk : k ≠ -1 ∧ 0 ≤ k ∧ k < ((n : Nat) : Int)) (hp0 : Hp None w0 (((a.ask hb 53 52) ++ (Z ++ R))) w) :
  Calls Tryz.prog 17 #[(.agg #[(.int .i64 sp), (.slice (some ⟨b, o, none⟩) n cap)]), (.int .i64 k), (.func (.func 18) #[] #[(.pointer (some ⟨hb, 0, none⟩)), (.pointer (some ⟨pb, 0, none⟩))])] w (Frm (σ := Aw × Ac) None w0 (fun x => x.1.Ok ∧ x.1.xs = a.xs ++ asks (mpA k ps) n ∧ x.2.qs ≠ [] ∧ x.2.ds = (List.range n).map (mpG (adU add) k ps) ∧ x.2.Ok ∧ ∀ q ∈ x.2.qs, q.Ok) (fun x => .tuple #[(.agg #[(.int .i64 sp), (.slice x.2.ad x.2.n x.2.cp)]), .int .i64 0]) (fun x => ((x.2.row 75) ++ ((x.2.qs.map (Nq.blk 52)) ++ ((x.1.ask hb 53 52) ++ (Z ++ R)))))) := by
 refine enterF (w0 := w0) (M := None) (L := (((a.ask hb 53 52) ++ (Z ++ R)))) (n := 33) (l := [(0, (.agg #[(.int .i64 sp), (.slice (some ⟨b, o, none⟩) n cap)])), (1, (.int .i64 k)), (2, (.func (.func 18) #[] #[(.pointer (some ⟨hb, 0, none⟩)), (.pointer (some ⟨pb, 0, none⟩))]))]) Tryz.func17 rfl rfl (Args.cons rfl (Args.cons rfl (Args.cons rfl (Args.nil _)))) hp0 ?_
 refine GC.seq (GC.region ?_)
 refine GL.step (Stp.box (cs := [(.int .i64 sp), (.slice (some ⟨b, o, none⟩) n cap)]) rfl rfl (by decide)) (fun bq1 _ => ?_)
 refine GL.step (Stp.box (cs := [(.int .i64 k)]) rfl rfl (by decide)) (fun bq2 _ => ?_)
 refine GL.step (Stp.alloc T.zr24 (by decide)) (fun bq3 _ => ?_)
 refine GL.sg rfl (by decide) ?_
 refine GL.nil (GE.thenN (GC.seq (GC.seq (GC.region ?_))))
 refine GL.val (v := (.agg #[(.int .i64 sp), (.slice (some ⟨b, o, none⟩) n cap)])) (Ex.loadA rfl T.ag24 T.sz24 (i := 2) rfl (vs := [(.int .i64 sp), (.slice (some ⟨b, o, none⟩) n cap)]) rfl rfl) (by decide) ?_
 refine GL.step (Stp.callR (σ := Unit) (p := fun rz => True) (v := fun rz => (.int .i64 0)) (N := fun rz => []) (vs := [(.agg #[(.int .i64 sp), (.slice (some ⟨b, o, none⟩) n cap)])]) rfl rfl T.own48 (by decide) (fun wc hw => (by have h := chk_p sp b o n cap ps wc (hps wc (Hp.seg (T := R) (A := [[_, _, _], (a.ask hb 53 52), Z]) hw 2 rfl)) hn (by have := hok.n4; omega); rw [hok.chk] at h; exact h))) (fun xq4 hq5 => ?_)
 refine GL.sg rfl (by decide) ?_
 refine GL.nil (GE.thenN (GC.seq (GC.region ?_)))
 refine GL.mv rfl (by decide) ?_
 refine GL.val (v := (.bool false)) (Ex.cast (Ex.neq rfl rfl) rfl) (by decide) ?_
 refine GL.nil (GE.thenN ?_)
 refine GC.cond rfl (fun hq6 => by cases hq6) (fun _ => ?_)
 refine GC.skip (GE.thenN (GC.seq (GC.seq (GC.region ?_))))
 refine GL.val (Ex.load rfl T.ag3 (i := 1) rfl rfl) (by decide) ?_
 refine GL.val (v := (.bool true)) (Ex.cast (Ex.neq rfl rfl) (congrArg Value.bool (decide_eq_true (by exact hk.1)))) (by decide) ?_
 refine GL.mv rfl (by decide) ?_
 refine GL.stepG (tj := 18) rfl rfl (Ex.wp (v := (.agg #[(.int .i64 sp), (.slice (some ⟨b, o, none⟩) n cap)])) (Ex.loadA rfl T.ag24 T.sz24 (i := 2) rfl (vs := [(.int .i64 sp), (.slice (some ⟨b, o, none⟩) n cap)]) rfl rfl) (by decide)) (fun _ _ => ?_)
 refine GL.stepG (tj := 18) rfl rfl (Ex.wp (v := (.int .i64 k)) (Ex.load rfl T.ag3 (i := 1) rfl rfl) (by decide)) (fun _ _ => ?_)
 refine GL.stepG (tj := 18) rfl rfl (Stp.callR (vs := [(.agg #[(.int .i64 sp), (.slice (some ⟨b, o, none⟩) n cap)]), (.int .i64 k)]) rfl rfl T.own56 (by decide) (fun wc hw => has sp k ((some ⟨b, o, none⟩)) n cap wc)) (fun xq7 hq8 => ?_)
 refine GL.stepG (tj := 18) rfl rfl (Ex.wp (v := (.bool (!(decide (0 ≤ k ∧ k < ((n : Nat) : Int)))))) (Ex.not rfl) (by decide)) (fun _ _ => ?_)
 refine GL.val (v := (.bool (!(decide (0 ≤ k ∧ k < ((n : Nat) : Int)))))) (Ex.pickT rfl rfl) (by decide) ?_
 refine GL.nil (GE.thenN ?_)
 refine GC.cond rfl (fun hq9 => by exfalso; simp at hq9; omega) (fun _ => ?_)
 refine GC.skip (GE.thenN (GC.seq (GC.region ?_)))
 refine GL.mv rfl (by decide) ?_
 refine GL.val (v := (.agg #[(.func (.func 18) #[] #[(.pointer (some ⟨hb, 0, none⟩)), (.pointer (some ⟨pb, 0, none⟩))])])) (Ex.build (vs := [(0, (.func (.func 18) #[] #[(.pointer (some ⟨hb, 0, none⟩)), (.pointer (some ⟨pb, 0, none⟩))]))]) rfl (by first | rfl | kernel_rfl)) (by decide) ?_
 refine GL.val (v := (.func (.func 57) #[(.agg #[(.func (.func 18) #[] #[(.pointer (some ⟨hb, 0, none⟩)), (.pointer (some ⟨pb, 0, none⟩))])])] #[])) (Ex.funcB (bs := [(.agg #[(.func (.func 18) #[] #[(.pointer (some ⟨hb, 0, none⟩)), (.pointer (some ⟨pb, 0, none⟩))])])]) (cs := []) (fun _ hF => hF.evals _ _ rfl) (fun _ hF => hF.evals _ _ rfl)) (by decide) ?_
 refine GL.step (Stp.alloc T.zr91 (by decide)) (fun bq10 _ => ?_)
 refine GL.step (Stp.st0 (cs' := [(.func (.func 57) #[(.agg #[(.func (.func 18) #[] #[(.pointer (some ⟨hb, 0, none⟩)), (.pointer (some ⟨pb, 0, none⟩))])])] #[])]) rfl rfl rfl T.sz91 rfl rfl rfl) (fun _ _ => ?_)
 refine GL.nil (GE.thenN (GC.seq (GC.region ?_)))
 refine GL.val (v := (.agg #[(.int .i64 sp), (.slice (some ⟨b, o, none⟩) n cap)])) (Ex.loadA rfl T.ag24 T.sz24 (i := 3) rfl (vs := [(.int .i64 sp), (.slice (some ⟨b, o, none⟩) n cap)]) rfl rfl) (by decide) ?_
 refine GL.val (v := (.func (.func 58) #[] #[(.pointer (some ⟨bq2, 0, none⟩)), (.pointer (some ⟨bq10, 0, none⟩))])) (Ex.func (cs := [(.pointer (some ⟨bq2, 0, none⟩)), (.pointer (some ⟨bq10, 0, none⟩))]) rfl (fun _ hF => hF.evals _ _ rfl)) (by decide) ?_
 refine GL.step (Stp.call (vs := [(.agg #[(.int .i64 sp), (.slice (some ⟨b, o, none⟩) n cap)]), (.func (.func 58) #[] #[(.pointer (some ⟨bq2, 0, none⟩)), (.pointer (some ⟨bq10, 0, none⟩))])]) rfl rfl T.own36 (by decide) (fun wc hw => (everyF w0 ([⟨bq3, [(.int .i64 0), (.slice none 0 0)], 24, true⟩] ++ ([⟨bq1, [(.int .i64 sp), (.slice (some ⟨b, o, none⟩) n cap)], 24, true⟩] ++ R)) ([⟨bq2, [.int .i64 k], 3, true⟩, ⟨bq10, [(.func (.func 57) #[(.agg #[(.func (.func 18) #[] #[(.pointer (some ⟨hb, 0, none⟩)), (.pointer (some ⟨pb, 0, none⟩))])])] #[])], 91, true⟩] ++ Z) hb a sp b o n cap ps W H 58 #[.pointer (some ⟨bq2, 0, none⟩), .pointer (some ⟨bq10, 0, none⟩)] (mpG (adU add) k ps) (mpA k ps) wc (fun w' h' => hps w' (fun k hk => h' k (List.mem_append_right _ hk))) hn hok ha han hqf ⟨T.own58, fun i hi a' R' w' ha' han' hp' => by
  by_cases h1 : k = -1
  ·rw [show mpG (adU add) k ps i = _ from if_pos (Or.inl h1), show mpA k ps i = _ from if_pos (Or.inl h1)]; exact map1F_all w0 R' ([⟨bq2, [.int .i64 k], 3, true⟩, ⟨bq10, [(.func (.func 57) #[(.agg #[(.func (.func 18) #[] #[(.pointer (some ⟨hb, 0, none⟩)), (.pointer (some ⟨pb, 0, none⟩))])])] #[])], 91, true⟩] ++ Z) hb pb a' add i W H bq2 bq10 k (pAt ps i) w' (fun w' h' => Rd.of_heap (h' _ (List.mem_cons_self ..)) 0 _ rfl) (fun w' h' => Rd.of_heap (h' _ (List.mem_cons_of_mem _ (List.mem_cons_self ..))) 0 _ rfl) hok.ok (hok.at hi) (fun w' h' => (hps w' (fun k hk => h' k (List.mem_append_right _ hk))).ok _ (pAt_mem hi)) ha' han' (fun w' h' => hadd w' (fun k hk => h' k (List.mem_append_right _ hk))) h1 hp'
  ·by_cases h2 : ((i : Nat) : Int) = k
   ·rw [show mpG (adU add) k ps i = _ from if_pos (Or.inr h2), show mpA k ps i = _ from if_pos (Or.inr h2)]; exact map1F_this w0 R' ([⟨bq2, [.int .i64 k], 3, true⟩, ⟨bq10, [(.func (.func 57) #[(.agg #[(.func (.func 18) #[] #[(.pointer (some ⟨hb, 0, none⟩)), (.pointer (some ⟨pb, 0, none⟩))])])] #[])], 91, true⟩] ++ Z) hb pb a' add i W H bq2 bq10 k (pAt ps i) w' (fun w' h' => Rd.of_heap (h' _ (List.mem_cons_self ..)) 0 _ rfl) (fun w' h' => Rd.of_heap (h' _ (List.mem_cons_of_mem _ (List.mem_cons_self ..))) 0 _ rfl) hok.ok (hok.at hi) (fun w' h' => (hps w' (fun k hk => h' k (List.mem_append_right _ hk))).ok _ (pAt_mem hi)) ha' han' (fun w' h' => hadd w' (fun k hk => h' k (List.mem_append_right _ hk))) ⟨h1, h2⟩ hp'
   ·rw [show mpG (adU add) k ps i = _ from if_neg (fun h => h.elim h1 h2), show mpA k ps i = _ from if_neg (fun h => h.elim h1 h2)]; exact map1F_same w0 R' ([⟨bq2, [.int .i64 k], 3, true⟩, ⟨bq10, [(.func (.func 57) #[(.agg #[(.func (.func 18) #[] #[(.pointer (some ⟨hb, 0, none⟩)), (.pointer (some ⟨pb, 0, none⟩))])])] #[])], 91, true⟩] ++ Z) hb pb a' add i W H bq2 bq10 k (pAt ps i) w' (fun w' h' => Rd.of_heap (h' _ (List.mem_cons_self ..)) 0 _ rfl) (fun w' h' => Rd.of_heap (h' _ (List.mem_cons_of_mem _ (List.mem_cons_self ..))) 0 _ rfl) hok.ok (hok.at hi) (fun w' h' => (hps w' (fun k hk => h' k (List.mem_append_right _ hk))).ok _ (pAt_mem hi)) ha' han' (fun w' h' => hadd w' (fun k hk => h' k (List.mem_append_right _ hk))) ⟨h1, h2⟩ hp'⟩ (by exact Hp.segsT (T := R) (A := [[⟨bq10, [(.func (.func 57) #[(.agg #[(.func (.func 18) #[] #[(.pointer (some ⟨hb, 0, none⟩)), (.pointer (some ⟨pb, 0, none⟩))])])] #[])], 91, true⟩], [⟨bq3, [(.int .i64 0), (.slice none 0 0)], 24, true⟩], [⟨bq2, [(.int .i64 k)], 3, true⟩], [⟨bq1, [(.int .i64 sp), (.slice (some ⟨b, o, none⟩) n cap)], 24, true⟩], (a.ask hb 53 52), Z]) (idx := [4, 2, 0, 5, 1, 3]) 6 [] hw rfl (by decide) rfl)).mono fun e w' ⟨x, he, hp, h⟩ => ⟨x, he, hp, (by exact Hp.segsT (T := R) (A := [(x.2.row 75), (x.2.qs.map (Nq.blk 52)), (x.1.ask hb 53 52), [⟨bq2, [(.int .i64 k)], 3, true⟩], [⟨bq10, [(.func (.func 57) #[(.agg #[(.func (.func 18) #[] #[(.pointer (some ⟨hb, 0, none⟩)), (.pointer (some ⟨pb, 0, none⟩))])])] #[])], 91, true⟩], Z, [⟨bq3, [(.int .i64 0), (.slice none 0 0)], 24, true⟩], [⟨bq1, [(.int .i64 sp), (.slice (some ⟨b, o, none⟩) n cap)], 24, true⟩]]) (idx := [6, 7, 0, 1, 2, 5]) 8 [3, 4] h rfl (by decide) rfl)⟩)) (fun xq11 hq12 => ?_)
 refine GL.val (Ex.extract rfl rfl) (by decide) ?_
 refine GL.val (Ex.extract rfl rfl) (by decide) ?_
 refine GL.step (Stp.st0 (cs' := [(.int .i64 sp), (.slice xq11.2.ad xq11.2.n xq11.2.cp)]) rfl rfl rfl T.sz24 rfl rfl rfl) (fun _ _ => ?_)
 refine GL.sg rfl (by decide) ?_
 refine GL.nil (GE.thenN (GC.ret ?_))
 refine GC.ret2 rfl (Rv.cellA rfl T.ag24 T.sz24 (L := _) (i := 0) rfl (vs := [(.int .i64 sp), (.slice xq11.2.ad xq11.2.n xq11.2.cp)]) rfl rfl) (Rv.tmp rfl) (fun wN HN => ?_)
 exact HN.frm xq11 hq12 (by rfl) (ulS (ulS ulR))

theorem map_bad (sp : Int) (ad : Option Addr) (n cap : Nat) (ps : List Pn) (k : Int) (hb pb : Nat) (w : World) (hps : PnsA w ad ps) (hn : n = ps.length) (hnb : n ≤ 35184372087808) (hc : chkP sp ps ≠ 0) :
  Calls Tryz.prog 17 #[(.agg #[(.int .i64 sp), (.slice ad n cap)]), (.int .i64 k), (.func (.func 18) #[] #[(.pointer (some ⟨hb, 0, none⟩)), (.pointer (some ⟨pb, 0, none⟩))])] w (Ret w (fun _ : Unit => True) (fun _ => .tuple #[(.agg #[(.int .i64 0), (.slice none 0 0)]), .int .i64 ((chkP sp ps))]) (fun _ => [])) := by
 refine enter (M := None) (L := []) (n := 33) (l := [(0, (.agg #[(.int .i64 sp), (.slice ad n cap)])), (1, (.int .i64 k)), (2, (.func (.func 18) #[] #[(.pointer (some ⟨hb, 0, none⟩)), (.pointer (some ⟨pb, 0, none⟩))]))]) Tryz.func17 rfl rfl (Args.cons rfl (Args.cons rfl (Args.cons rfl (Args.nil _)))) (Hp.start _ _) ?_
 refine GC.seq (GC.region ?_)
 refine GL.step (Stp.box (cs := [(.int .i64 sp), (.slice ad n cap)]) rfl rfl (by decide)) (fun bq1 _ => ?_)
 refine GL.step (Stp.box (cs := [(.int .i64 k)]) rfl rfl (by decide)) (fun bq2 _ => ?_)
 refine GL.step (Stp.alloc T.zr24 (by decide)) (fun bq3 _ => ?_)
 refine GL.sg rfl (by decide) ?_
 refine GL.nil (GE.thenN (GC.seq (GC.seq (GC.region ?_))))
 refine GL.val (v := (.agg #[(.int .i64 sp), (.slice ad n cap)])) (Ex.loadA rfl T.ag24 T.sz24 (i := 2) rfl (vs := [(.int .i64 sp), (.slice ad n cap)]) rfl rfl) (by decide) ?_
 refine GL.step (Stp.callR (vs := [(.agg #[(.int .i64 sp), (.slice ad n cap)])]) rfl rfl T.own48 (by decide) (fun wc hw => chk_p_a sp ad n cap ps wc (hps.later hw.1) hn hnb)) (fun xq4 hq5 => ?_)
 refine GL.sg rfl (by decide) ?_
 refine GL.nil (GE.thenN (GC.seq (GC.region ?_)))
 refine GL.mv rfl (by decide) ?_
 refine GL.val (v := (.bool true)) (Ex.cast (Ex.neq rfl rfl) (congrArg Value.bool (decide_eq_true (by exact hc)))) (by decide) ?_
 refine GL.nil (GE.thenN ?_)
 refine GC.cond rfl (fun _ => ?_) (fun hq6 => by cases hq6)
 refine GC.seq (GC.region ?_)
 refine GL.val (v := (.agg #[(.int .i64 0), (.slice none 0 0)])) (Ex.build (vs := []) rfl (by first | rfl | kernel_rfl)) (by decide) ?_
 refine GL.mv rfl (by decide) ?_
 refine GL.step (Stp.st0 (cs' := [(.int .i64 0), (.slice none 0 0)]) rfl rfl rfl T.sz24 rfl rfl rfl) (fun _ _ => ?_)
 refine GL.sg rfl (by decide) ?_
 refine GL.nil (GE.thenN (GC.ret (GE.thenR ?_)))
 refine GC.ret2 rfl (Rv.cellA rfl T.ag24 T.sz24 (L := _) (i := 0) rfl (vs := [(.int .i64 0), (.slice none 0 0)]) rfl rfl) (Rv.tmp rfl) (fun wN HN => ?_)
 exact HN.ret () trivial rfl (List.nil_sublist _) rfl

theorem map_out (sp : Int) (b o n cap : Nat) (ps : List Pn) (W H : Nat) (k : Int) (hb pb : Nat) (w : World) (hps : Pns w b o ps) (hn : n = ps.length) (hok : OkPic sp ps W H) (hk : ¬ (k = -1 ∨ (0 ≤ k ∧ k < ((n : Nat) : Int)))) :
  Calls Tryz.prog 17 #[(.agg #[(.int .i64 sp), (.slice (some ⟨b, o, none⟩) n cap)]), (.int .i64 k), (.func (.func 18) #[] #[(.pointer (some ⟨hb, 0, none⟩)), (.pointer (some ⟨pb, 0, none⟩))])] w (Ret w (fun _ : Unit => True) (fun _ => .tuple #[(.agg #[(.int .i64 0), (.slice none 0 0)]), .int .i64 82]) (fun _ => [])) := by
 refine enter (M := None) (L := []) (n := 33) (l := [(0, (.agg #[(.int .i64 sp), (.slice (some ⟨b, o, none⟩) n cap)])), (1, (.int .i64 k)), (2, (.func (.func 18) #[] #[(.pointer (some ⟨hb, 0, none⟩)), (.pointer (some ⟨pb, 0, none⟩))]))]) Tryz.func17 rfl rfl (Args.cons rfl (Args.cons rfl (Args.cons rfl (Args.nil _)))) (Hp.start _ _) ?_
 refine GC.seq (GC.region ?_)
 refine GL.step (Stp.box (cs := [(.int .i64 sp), (.slice (some ⟨b, o, none⟩) n cap)]) rfl rfl (by decide)) (fun bq1 _ => ?_)
 refine GL.step (Stp.box (cs := [(.int .i64 k)]) rfl rfl (by decide)) (fun bq2 _ => ?_)
 refine GL.step (Stp.alloc T.zr24 (by decide)) (fun bq3 _ => ?_)
 refine GL.sg rfl (by decide) ?_
 refine GL.nil (GE.thenN (GC.seq (GC.seq (GC.region ?_))))
 refine GL.val (v := (.agg #[(.int .i64 sp), (.slice (some ⟨b, o, none⟩) n cap)])) (Ex.loadA rfl T.ag24 T.sz24 (i := 2) rfl (vs := [(.int .i64 sp), (.slice (some ⟨b, o, none⟩) n cap)]) rfl rfl) (by decide) ?_
 refine GL.step (Stp.callR (σ := Unit) (p := fun rz => True) (v := fun rz => (.int .i64 0)) (N := fun rz => []) (vs := [(.agg #[(.int .i64 sp), (.slice (some ⟨b, o, none⟩) n cap)])]) rfl rfl T.own48 (by decide) (fun wc hw => (by have h := chk_p sp b o n cap ps wc (hps.later hw.1) hn (by have := hok.n4; omega); rw [hok.chk] at h; exact h))) (fun xq4 hq5 => ?_)
 refine GL.sg rfl (by decide) ?_
 refine GL.nil (GE.thenN (GC.seq (GC.region ?_)))
 refine GL.mv rfl (by decide) ?_
 refine GL.val (v := (.bool false)) (Ex.cast (Ex.neq rfl rfl) rfl) (by decide) ?_
 refine GL.nil (GE.thenN ?_)
 refine GC.cond rfl (fun hq6 => by cases hq6) (fun _ => ?_)
 refine GC.skip (GE.thenN (GC.seq (GC.seq (GC.region ?_))))
 refine GL.val (Ex.load rfl T.ag3 (i := 1) rfl rfl) (by decide) ?_
 refine GL.val (v := (.bool true)) (Ex.cast (Ex.neq rfl rfl) (congrArg Value.bool (decide_eq_true (by omega)))) (by decide) ?_
 refine GL.mv rfl (by decide) ?_
 refine GL.stepG (tj := 18) rfl rfl (Ex.wp (v := (.agg #[(.int .i64 sp), (.slice (some ⟨b, o, none⟩) n cap)])) (Ex.loadA rfl T.ag24 T.sz24 (i := 2) rfl (vs := [(.int .i64 sp), (.slice (some ⟨b, o, none⟩) n cap)]) rfl rfl) (by decide)) (fun _ _ => ?_)
 refine GL.stepG (tj := 18) rfl rfl (Ex.wp (v := (.int .i64 k)) (Ex.load rfl T.ag3 (i := 1) rfl rfl) (by decide)) (fun _ _ => ?_)
 refine GL.stepG (tj := 18) rfl rfl (Stp.callR (vs := [(.agg #[(.int .i64 sp), (.slice (some ⟨b, o, none⟩) n cap)]), (.int .i64 k)]) rfl rfl T.own56 (by decide) (fun wc hw => has sp k ((some ⟨b, o, none⟩)) n cap wc)) (fun xq7 hq8 => ?_)
 refine GL.stepG (tj := 18) rfl rfl (Ex.wp (v := (.bool (!(decide (0 ≤ k ∧ k < ((n : Nat) : Int)))))) (Ex.not rfl) (by decide)) (fun _ _ => ?_)
 refine GL.val (v := (.bool (!(decide (0 ≤ k ∧ k < ((n : Nat) : Int)))))) (Ex.pickT rfl rfl) (by decide) ?_
 refine GL.nil (GE.thenN ?_)
 refine GC.cond rfl (fun _ => ?_) (fun hq9 => by exfalso; simp at hq9; omega)
 refine GC.seq (GC.region ?_)
 refine GL.val (v := (.agg #[(.int .i64 0), (.slice none 0 0)])) (Ex.build (vs := []) rfl (by first | rfl | kernel_rfl)) (by decide) ?_
 refine GL.step (Stp.st0 (cs' := [(.int .i64 0), (.slice none 0 0)]) rfl rfl rfl T.sz24 rfl rfl rfl) (fun _ _ => ?_)
 refine GL.sg rfl (by decide) ?_
 refine GL.nil (GE.thenN (GC.ret (GE.thenR ?_)))
 refine GC.ret2 rfl (Rv.cellA rfl T.ag24 T.sz24 (L := _) (i := 0) rfl (vs := [(.int .i64 0), (.slice none 0 0)]) rfl rfl) (Rv.tmp rfl) (fun wN HN => ?_)
 exact HN.ret () trivial rfl (List.nil_sublist _) rfl

theorem ref_changed (s a b_ : Int) (w : World) :
  Calls Tryz.prog 100 #[(.int .i64 1), (.int .u32 s), (.int .u32 a), (.int .u32 b_)] w (Ret w (fun _ : Unit => True) (fun _ => .int .u32 (adU a s)) (fun _ => [])) := by
 refine enter (M := None) (L := []) (n := 25) (l := [(0, (.int .i64 1)), (1, (.int .u32 s)), (2, (.int .u32 a)), (3, (.int .u32 b_))]) Tryz.func100 rfl rfl (Args.cons rfl (Args.cons rfl (Args.cons rfl (Args.cons rfl (Args.nil _))))) (Hp.start _ _) ?_
 refine GC.seq (GC.region ?_)
 refine GL.sg rfl (by decide) ?_
 refine GL.nil (GE.thenN (GC.seq (GC.seq (GC.region ?_))))
 refine GL.mv rfl (by decide) ?_
 refine GL.nil (GE.thenN (GC.block (GC.seq (GC.region ?_))))
 refine GL.val (v := (.bool true)) (Ex.cast (Ex.eql rfl rfl) rfl) (by decide) ?_
 refine GL.sg rfl (by decide) ?_
 refine GL.nil (GE.thenN ?_)
 refine GC.cond rfl (fun _ => ?_) (fun hq1 => by cases hq1)
 refine GC.seq (GC.region ?_)
 refine GL.mv rfl (by decide) ?_
 refine GL.mv rfl (by decide) ?_
 refine GL.val (v := (.int .u32 ((s + a) % 4294967296))) (Ex.add rfl rfl (Z := (s + a) % 4294967296) (wu32 _)) (by decide) ?_
 refine GL.sg rfl (by decide) ?_
 refine GL.nil (GE.thenN (GC.ret (GE.blockR (GE.thenR ?_))))
 refine GC.ret1 rfl (Rv.tmp rfl) (fun wN HN => ?_)
 exact HN.ret () trivial rfl (List.nil_sublist _) rfl

theorem ref_mapped (sp : Int) (b o n cap : Nat) (ps : List Pn) (W H : Nat) (A : Nat) (k add : Int) (w : World) (hps : Pns w b o ps) (hn : n = ps.length) (hok : OkPic sp ps W H) (hA : A = W * H) (hAb : A ≤ 65536) (hqf : ∀ i, (mpA k ps i).length ≤ 65536) (hk : k = -1 ∨ (0 ≤ k ∧ k < ((n : Nat) : Int))) :
  Calls Tryz.prog 59 #[(.agg #[(.int .i64 sp), (.slice (some ⟨b, o, none⟩) n cap)]), (.int .i64 k), (.int .i64 1), (.int .u32 add), (.int .u32 0)] w (Ret w (fun r : Aw × Ac => r.1.Ok ∧ r.1.xs = asks (mpA k ps) n ∧ r.2.qs ≠ [] ∧ r.2.ds = (List.range n).map (mpG (adU add) k ps) ∧ r.2.Ok ∧ ∀ q ∈ r.2.qs, q.Ok) (fun r => .tuple #[(.agg #[(.int .i64 sp), (.slice r.2.ad r.2.n r.2.cp)]), .slice r.1.ad r.1.n r.1.cp, .int .i64 0]) (fun r => r.2.row 75 ++ (r.1.row 52 ++ (r.2.qs.map (Nq.blk 52) ++ [])))) := by
 refine enter (M := None) (L := []) (n := 98) (l := [(0, (.agg #[(.int .i64 sp), (.slice (some ⟨b, o, none⟩) n cap)])), (1, (.int .i64 k)), (2, (.int .i64 1)), (3, (.int .u32 add)), (4, (.int .u32 0))]) Tryz.func59 rfl rfl (Args.cons rfl (Args.cons rfl (Args.cons rfl (Args.cons rfl (Args.cons rfl (Args.nil _)))))) (Hp.start _ _) ?_
 refine GC.seq (GC.region ?_)
 refine GL.step (Stp.box (cs := [(.int .i64 sp), (.slice (some ⟨b, o, none⟩) n cap)]) rfl rfl (by decide)) (fun bq1 _ => ?_)
 refine GL.step (Stp.alloc T.zr24 (by decide)) (fun bq2 _ => ?_)
 refine GL.sg rfl (by decide) ?_
 refine GL.sg rfl (by decide) ?_
 refine GL.nil (GE.thenN (GC.seq (GC.region ?_)))
 refine GL.val (v := (.agg #[(.int .i64 sp), (.slice (some ⟨b, o, none⟩) n cap)])) (Ex.loadA rfl T.ag24 T.sz24 (i := 1) rfl (vs := [(.int .i64 sp), (.slice (some ⟨b, o, none⟩) n cap)]) rfl rfl) (by decide) ?_
 refine GL.step (Stp.callR (σ := Unit) (p := fun rz => True) (v := fun rz => (.int .i64 0)) (N := fun rz => []) (vs := [(.agg #[(.int .i64 sp), (.slice (some ⟨b, o, none⟩) n cap)])]) rfl rfl T.own39 (by decide) (fun wc hw => (by have h := ref_chk_p sp b o n cap ps wc (hps.later hw.1) hn (by have := hok.n4; omega); rw [hok.chk] at h; exact h))) (fun xq3 hq4 => ?_)
 refine GL.sg rfl (by decide) ?_
 refine GL.nil (GE.thenN (GC.seq (GC.seq (GC.region ?_))))
 refine GL.mv rfl (by decide) ?_
 refine GL.val (v := (.bool false)) (Ex.cast (Ex.neq rfl rfl) rfl) (by decide) ?_
 refine GL.nil (GE.thenN ?_)
 refine GC.cond rfl (fun hq5 => by cases hq5) (fun _ => ?_)
 refine GC.skip (GE.thenN (GC.seq (GC.seq (GC.region ?_))))
 refine GL.mv rfl (by decide) ?_
 refine GL.val (v := (.bool false)) (Ex.cast (Ex.lss rfl rfl) (congrArg Value.bool (decide_eq_false (by omega)))) (by decide) ?_
 refine GL.mv rfl (by decide) ?_
 refine GL.stepG (tj := 26) rfl rfl (Ex.wp (v := (.int .i64 k)) (Ex.move rfl) (by decide)) (fun _ _ => ?_)
 refine GL.stepG (tj := 26) rfl rfl (Ex.wp (v := (.pointer (some ⟨bq1, 1, none⟩))) (Ex.cast (Ex.fieldAddr rfl Tryz.underlying24 rfl T.sz22 (by decide)) rfl) (by decide)) (fun _ _ => ?_)
 refine GL.stepG (tj := 26) rfl rfl (Ex.wp (v := (.slice (some ⟨b, o, none⟩) n cap)) (Ex.load rfl T.ag22 (i := 1) rfl rfl) (by decide)) (fun _ _ => ?_)
 refine GL.stepG (tj := 26) rfl rfl (Ex.wp (v := (.int .i64 ((n : Int)))) (Ex.len rfl Tryz.underlying22) (by decide)) (fun _ _ => ?_)
 refine GL.stepG (tj := 26) rfl rfl (Ex.wp (v := (.bool false)) (Ex.cast (Ex.geq rfl rfl) (congrArg Value.bool (decide_eq_false (by omega)))) (by decide)) (fun _ _ => ?_)
 refine GL.val (v := (.bool false)) (Ex.pickF rfl rfl) (by decide) ?_
 refine GL.nil (GE.thenN ?_)
 refine GC.cond rfl (fun hq6 => by cases hq6) (fun _ => ?_)
 refine GC.skip (GE.thenN (GC.seq (GC.region ?_)))
 refine GL.val (v := (.agg #[(.int .i64 sp), (.slice (some ⟨b, o, none⟩) n cap)])) (Ex.loadA rfl T.ag24 T.sz24 (i := 1) rfl (vs := [(.int .i64 sp), (.slice (some ⟨b, o, none⟩) n cap)]) rfl rfl) (by decide) ?_
 refine GL.step (Stp.call (vs := [(.agg #[(.int .i64 sp), (.slice (some ⟨b, o, none⟩) n cap)])]) rfl rfl T.own41 (by decide) (fun wc hw => (Ret.frm (L' := fun x => (⟨bq2, [(.int .i64 0), (.slice none 0 0)], 24, true⟩ :: ⟨bq1, [(.int .i64 sp), (.slice (some ⟨b, o, none⟩) n cap)], 24, true⟩ :: (x.blks 75 52 ++ ([] : List Blk)))) hw (ref_copyp sp b o n cap ps W H wc (hps.later hw.1) hn hok) (fun x w' _ h => by exact Hp.segsT (T := ([] : List Blk)) (A := [x.blks 75 52, [⟨bq2, [(.int .i64 0), (.slice none 0 0)], 24, true⟩, ⟨bq1, [(.int .i64 sp), (.slice (some ⟨b, o, none⟩) n cap)], 24, true⟩]]) (idx := [1, 0]) 2 [] h rfl (by decide) rfl)))) (fun xq7 hq8 => ?_)
 refine GL.step (Stp.alloc T.zr24 (by decide)) (fun bq9 _ => ?_)
 refine GL.step (Stp.st0 (cs' := [(.int .i64 sp), (.slice xq7.ad xq7.n xq7.cp)]) rfl rfl rfl T.sz24 rfl rfl rfl) (fun _ _ => ?_)
 refine GL.nil (GE.thenN (GC.seq ?_))
 have hxs := Ac.sm hq8.1
 have hnx : xq7.n = n := by rw [← Ac.ds_len, hq8.2.1]; simp
 rw [hxs.1, hxs.2.1, hnx]
 refine GC.hp (L2 := (⟨bq9, [(.int .i64 sp), (.slice (some ⟨xq7.b, 0, none⟩) n xq7.cap)], 24, true⟩ :: ⟨bq2, [(.int .i64 0), (.slice none 0 0)], 24, true⟩ :: ⟨bq1, [(.int .i64 sp), (.slice (some ⟨b, o, none⟩) n cap)], 24, true⟩ :: ⟨xq7.b, pcs xq7.pl ++ xq7.sp, 75, true⟩ :: ((Aw.no.row 52) ++ ((xq7.qs.map (Nq.blk 52)) ++ [])))) (fun w h' => by have h2 := h'; unfold Ac.blks at h2; rw [hxs.2.2, List.append_nil, List.append_nil] at h2; show Hp _ _ ([⟨bq9, [(.int .i64 sp), (.slice (some ⟨xq7.b, 0, none⟩) n xq7.cap)], 24, true⟩, ⟨bq2, [(.int .i64 0), (.slice none 0 0)], 24, true⟩, ⟨bq1, [(.int .i64 sp), (.slice (some ⟨b, o, none⟩) n cap)], 24, true⟩] ++ ([⟨xq7.b, pcs xq7.pl ++ xq7.sp, 75, true⟩] ++ ((xq7.qs.map (Nq.blk 52)) ++ []))) w; rw [List.append_nil]; simpa using h2) ?_
 refine GC.region ?_
 refine GL.sg rfl (by decide) ?_
 refine GL.nil (GE.thenN (GC.seq (GC.seq (GC.region ?_))))
 refine GL.sg rfl (by decide) ?_
 refine GL.nil (GE.thenN (GC.block ?_))
 refine GC.loop (σ := Nat × Aw × Ac) (fun z => z.1 ≤ n ∧ z.2.1.Ok ∧ z.2.1.xs = asks (mpA k ps) z.1 ∧ z.2.2.qs ≠ [] ∧ z.2.2.ds = (List.range n).map (mpH (adU add) k ps z.1) ∧ z.2.2.Ok ∧ ∀ q ∈ z.2.2.qs, q.Ok) (fun z => [(1, (.int .i64 k)), (2, (.int .i64 1)), (3, (.int .u32 add)), (4, (.int .u32 0)), (5, (.pointer (some ⟨bq1, 0, none⟩))), (10, (.pointer (some ⟨bq2, 0, none⟩))), (14, (.pointer (some ⟨bq9, 0, none⟩))), (15, (.slice z.2.1.ad z.2.1.n z.2.1.cp)), (16, (.int .i64 (((z.1 : Nat) : Int))))]) (fun z => (⟨bq9, [(.int .i64 sp), (.slice (some ⟨z.2.2.b, 0, none⟩) n z.2.2.cap)], 24, true⟩ :: ⟨bq2, [(.int .i64 0), (.slice none 0 0)], 24, true⟩ :: ⟨bq1, [(.int .i64 sp), (.slice (some ⟨b, o, none⟩) n cap)], 24, true⟩ :: ⟨z.2.2.b, pcs z.2.2.pl ++ z.2.2.sp, 75, true⟩ :: ((z.2.1.row 52) ++ ((z.2.2.qs.map (Nq.blk 52)) ++ [])))) (fun z => n - z.1) ((0, Aw.no, xq7)) ⟨Nat.zero_le _, Or.inl rfl, rfl, hq8.1, (by show xq7.ds = _; rw [hq8.2.1]; exact mpH_zero.symm), hq8.2.2⟩ ((sub_cons rfl ((sub_cons rfl ((sub_cons rfl ((sub_cons rfl ((sub_cons rfl ((sub_cons rfl ((sub_cons rfl ((sub_cons rfl ((sub_cons rfl ((sub_nil _)))))))))))))))))))) (ulC (ulC (ulC (ulC ulR)))) (fun z hp => ?_)
 have hz := hp
 have hz1 := hp.1
 have hp4 := hok.n4
 refine GC.seq (GC.seq (GC.region ?_))
 refine GL.mv rfl (by decide) ?_
 refine GL.val (v := (.pointer (some ⟨bq1, 1, none⟩))) (Ex.cast (Ex.fieldAddr rfl Tryz.underlying24 rfl T.sz22 (by decide)) rfl) (by decide) ?_
 refine GL.val (Ex.load rfl T.ag22 (i := 2) rfl rfl) (by decide) ?_
 refine GL.val (v := (.int .i64 ((n : Int)))) (Ex.len rfl Tryz.underlying22) (by decide) ?_
 refine GL.val (v := (.bool (decide ((((z.1 : Nat) : Int)) < ((n : Int)))))) (Ex.lss rfl rfl) (by decide) ?_
 refine GL.nil (GE.thenN ?_)
 refine GC.cond rfl (fun hq10 => ?_) (fun hq10 => ?_)
 ·replace hq10 := of_decide_eq_true hq10
  refine GC.skip (GE.thenN (GC.seq (GC.block (GC.seq ?_))))
  have hin : z.1 < n := by omega
  obtain ⟨bp, op, ea, el, hrp⟩ := hok.samp hps (show z.1 < ps.length by omega)
  rw [← hA] at el
  obtain ⟨hqd0, hiz⟩ := nq_of_ds hz.2.2.2.2.1 hin
  have hqd1 : (nqAt z.2.2 z.1).d = (pAt ps z.1).d := by rw [hqd0]; unfold mpH; rw [if_neg (by omega)]
  obtain ⟨eW, eH, eX⟩ := Nq.d_eq hqd1
  refine GC.hp (L2 := (⟨(nqAt z.2.2 z.1).b, (trL (fun k => adU add ((pAt ps z.1).xs.getD k 0)) (pAt ps z.1).xs 0).map u32 ++ (nqAt z.2.2 z.1).sp, 52, true⟩ :: ⟨bq9, [(.int .i64 sp), (.slice (some ⟨z.2.2.b, 0, none⟩) n z.2.2.cap)], 24, true⟩ :: ⟨bq2, [(.int .i64 0), (.slice none 0 0)], 24, true⟩ :: ⟨bq1, [(.int .i64 sp), (.slice (some ⟨b, o, none⟩) n cap)], 24, true⟩ :: ⟨z.2.2.b, pcs z.2.2.pl ++ z.2.2.sp, 75, true⟩ :: ((z.2.1.row 52) ++ (((z.2.2.qs.eraseIdx z.1).map (Nq.blk 52)) ++ [])))) (fun w h' => by have h2 := Hp.opens (K := [⟨bq9, [(.int .i64 sp), (.slice (some ⟨z.2.2.b, 0, none⟩) n z.2.2.cap)], 24, true⟩, ⟨bq2, [(.int .i64 0), (.slice none 0 0)], 24, true⟩, ⟨bq1, [(.int .i64 sp), (.slice (some ⟨b, o, none⟩) n cap)], 24, true⟩, ⟨z.2.2.b, pcs z.2.2.pl ++ z.2.2.sp, 75, true⟩]) (A := (z.2.1.row 52)) (T := []) (Tu := 52) hiz h'; rw [trL_zero, ← eX]; exact h2) ?_
  refine GC.region ?_
  refine GL.sg rfl (by decide) ?_
  refine GL.nil (GE.thenN (GC.block ?_))
  refine GC.loop (σ := Nat × Aw) (fun y => y.1 ≤ A ∧ y.2.Ok ∧ y.2.xs = asks (mpA k ps) z.1 ++ (pAt ps z.1).xs.take y.1 ∧ (y.1 = 0 ∨ k = -1 ∨ ((z.1 : Nat) : Int) = k)) (fun y => [(1, (.int .i64 k)), (2, (.int .i64 1)), (3, (.int .u32 add)), (4, (.int .u32 0)), (5, (.pointer (some ⟨bq1, 0, none⟩))), (10, (.pointer (some ⟨bq2, 0, none⟩))), (14, (.pointer (some ⟨bq9, 0, none⟩))), (16, (.int .i64 (((z.1 : Nat) : Int)))), (15, (.slice y.2.ad y.2.n y.2.cp)), (17, (.int .i64 (((y.1 : Nat) : Int))))]) (fun y => (⟨(nqAt z.2.2 z.1).b, (trL (fun k => adU add ((pAt ps z.1).xs.getD k 0)) (pAt ps z.1).xs y.1).map u32 ++ (nqAt z.2.2 z.1).sp, 52, true⟩ :: ⟨bq9, [(.int .i64 sp), (.slice (some ⟨z.2.2.b, 0, none⟩) n z.2.2.cap)], 24, true⟩ :: ⟨bq2, [(.int .i64 0), (.slice none 0 0)], 24, true⟩ :: ⟨bq1, [(.int .i64 sp), (.slice (some ⟨b, o, none⟩) n cap)], 24, true⟩ :: ⟨z.2.2.b, pcs z.2.2.pl ++ z.2.2.sp, 75, true⟩ :: ((y.2.row 52) ++ (((z.2.2.qs.eraseIdx z.1).map (Nq.blk 52)) ++ [])))) (fun y => A - y.1) ((0, z.2.1)) ⟨Nat.zero_le _, hz.2.1, (by show z.2.1.xs = _; rw [hz.2.2.1]; exact (List.append_nil _).symm), Or.inl rfl⟩ ((sub_cons rfl ((sub_cons rfl ((sub_cons rfl ((sub_cons rfl ((sub_cons rfl ((sub_cons rfl ((sub_cons rfl ((sub_cons rfl ((sub_cons rfl ((sub_cons rfl ((sub_nil _)))))))))))))))))))))) (ulC (ulC (ulC (ulC (ulC ulR))))) (fun y hp => ?_)
  have hy1 := hp.1
  have hyn : y.2.n ≤ 900000 := by show y.2.xs.length ≤ _; rw [hp.2.2.1, List.length_append, List.length_take]; have h1 := asks_len hqf z.1; have h3 : z.1 * 65536 ≤ 4 * 65536 := Nat.mul_le_mul_right _ (by omega); omega
  refine GC.seq (GC.seq (GC.region ?_))
  refine GL.mv rfl (by decide) ?_
  by_cases hq11 : k < 0
  ·refine GL.val (v := (.bool true)) (Ex.cast (Ex.lss rfl rfl) (congrArg Value.bool (decide_eq_true hq11))) (by decide) ?_
   refine GL.mv rfl (by decide) ?_
   refine GL.skipG (tj := 45) rfl rfl rfl (by decide) ?_
   refine GL.skipG (tj := 45) rfl rfl rfl (by decide) ?_
   refine GL.skipG (tj := 45) rfl rfl rfl (by decide) ?_
   refine GL.val (v := (.bool true)) (Ex.pickT rfl rfl) (by decide) ?_
   refine GL.mv rfl (by decide) ?_
   refine GL.stepG (tj := 50) rfl rfl (Ex.wp (v := (.int .i64 (((y.1 : Nat) : Int)))) (Ex.move rfl) (by decide)) (fun _ _ => ?_)
   refine GL.stepG (tj := 50) rfl rfl (Ex.wp (v := (.pointer (some ⟨bq1, 1, none⟩))) (Ex.cast (Ex.fieldAddr rfl Tryz.underlying24 rfl T.sz22 (by decide)) rfl) (by decide)) (fun _ _ => ?_)
   refine GL.stepG (tj := 50) rfl rfl (Ex.wp (v := (.slice (some ⟨b, o, none⟩) n cap)) (Ex.load rfl T.ag22 (i := 3) rfl rfl) (by decide)) (fun _ _ => ?_)
   refine GL.stepG (tj := 50) rfl rfl (Ex.wp (v := (.int .i64 (((z.1 : Nat) : Int)))) (Ex.move rfl) (by decide)) (fun _ _ => ?_)
   refine GL.stepG (tj := 50) rfl rfl (Ex.wp (v := (.pointer (some ⟨b, o + z.1 * 3, none⟩))) (Ex.cast (Ex.indexAddr rfl rfl Tryz.underlying22 T.sz75 (by omega) (by omega)) (by simp)) (by decide)) (fun _ _ => ?_)
   refine GL.stepG (tj := 50) rfl rfl (Ex.wp (v := (.pointer (some ⟨b, o + z.1 * 3 + 2, none⟩))) (Ex.cast (Ex.fieldAddr rfl Tryz.underlying75 rfl T.sz53 (by decide)) rfl) (by decide)) (fun _ _ => ?_)
   refine GL.stepG (tj := 50) rfl rfl (Ex.wp (v := (.slice (some ⟨bp, op, none⟩) A ((pAt ps z.1).cap))) (Ex.loadO rfl T.ag53 (by have h := Pns.cell (i := z.1) (j := 2) (v := .slice (pAt ps z.1).ad (pAt ps z.1).n (pAt ps z.1).cap) hps (show z.1 < ps.length by omega) (by decide) rfl; rw [ea, (hok.at (show z.1 < ps.length by omega)).2.2, ← hA] at h; exact h) (fun x => x)) (by decide)) (fun _ _ => ?_)
   refine GL.stepG (tj := 50) rfl rfl (Ex.wp (v := (.int .i64 ((A : Int)))) (Ex.len rfl Tryz.underlying53) (by decide)) (fun _ _ => ?_)
   refine GL.stepG (tj := 50) rfl rfl (Ex.wp (v := (.bool (decide ((((y.1 : Nat) : Int)) < ((A : Int)))))) (Ex.lss rfl rfl) (by decide)) (fun _ _ => ?_)
   refine GL.val (v := (.bool (decide ((((y.1 : Nat) : Int)) < ((A : Int)))))) (Ex.pickT rfl rfl) (by decide) ?_
   refine GL.nil (GE.thenN ?_)
   refine GC.cond rfl (fun hq12 => ?_) (fun hq12 => ?_)
   ·replace hq12 := of_decide_eq_true hq12
    refine GC.skip (GE.thenN (GC.seq (GC.block (GC.seq (GC.region ?_)))))
    refine GL.mv rfl (by decide) ?_
    refine GL.val (v := (.pointer (some ⟨bq1, 1, none⟩))) (Ex.cast (Ex.fieldAddr rfl Tryz.underlying24 rfl T.sz22 (by decide)) rfl) (by decide) ?_
    refine GL.val (Ex.load rfl T.ag22 (i := 3) rfl rfl) (by decide) ?_
    refine GL.mv rfl (by decide) ?_
    refine GL.val (v := (.pointer (some ⟨b, o + z.1 * 3, none⟩))) (Ex.cast (Ex.indexAddr rfl rfl Tryz.underlying22 T.sz75 (by omega) (by omega)) (by simp)) (by decide) ?_
    refine GL.val (v := (.pointer (some ⟨b, o + z.1 * 3 + 2, none⟩))) (Ex.cast (Ex.fieldAddr rfl Tryz.underlying75 rfl T.sz53 (by decide)) rfl) (by decide) ?_
    refine GL.val (v := (.slice (some ⟨bp, op, none⟩) A ((pAt ps z.1).cap))) (Ex.loadO rfl T.ag53 (by have h := Pns.cell (i := z.1) (j := 2) (v := .slice (pAt ps z.1).ad (pAt ps z.1).n (pAt ps z.1).cap) hps (show z.1 < ps.length by omega) (by decide) rfl; rw [ea, (hok.at (show z.1 < ps.length by omega)).2.2, ← hA] at h; exact h) (fun x => x)) (by decide) ?_
    refine GL.mv rfl (by decide) ?_
    refine GL.val (v := (.pointer (some ⟨bp, op + y.1, none⟩))) (Ex.cast (Ex.indexAddr rfl rfl Tryz.underlying53 T.sz52 (by omega) (by omega)) (by simp)) (by decide) ?_
    refine GL.val (v := (.int .u32 (((pAt ps z.1).xs.getD y.1 0)))) (Ex.loadO rfl T.ag52 (Rd.at hrp (by omega)) (fun x => x)) (by decide) ?_
    refine GL.step (Stp.buildSlice (cs := [(.int .u32 (((pAt ps z.1).xs.getD y.1 0)))]) (vs := [(0, (.int .u32 (((pAt ps z.1).xs.getD y.1 0))))]) Tryz.underlying53 T.zr52 T.sz52 rfl (by decide) (by decide) (by first | rfl | kernel_rfl) (by decide)) (fun bq13 _ => ?_)
    refine GL.step (Stp.appAw (a := y.2) (q := ((pAt ps z.1).xs.getD y.1 0)) (K := [⟨bq13, [(.int .u32 (((pAt ps z.1).xs.getD y.1 0)))], 52, true⟩, ⟨(nqAt z.2.2 z.1).b, (trL (fun k => adU add ((pAt ps z.1).xs.getD k 0)) (pAt ps z.1).xs y.1).map u32 ++ (nqAt z.2.2 z.1).sp, 52, true⟩, ⟨bq9, [(.int .i64 sp), (.slice (some ⟨z.2.2.b, 0, none⟩) n z.2.2.cap)], 24, true⟩, ⟨bq2, [(.int .i64 0), (.slice none 0 0)], 24, true⟩, ⟨bq1, [(.int .i64 sp), (.slice (some ⟨b, o, none⟩) n cap)], 24, true⟩, ⟨z.2.2.b, pcs z.2.2.pl ++ z.2.2.sp, 75, true⟩]) (R := (((z.2.2.qs.eraseIdx z.1).map (Nq.blk 52)) ++ [])) rfl rfl Tryz.underlying53 T.sz52 T.zr52 rfl T.by52 rfl hp.2.1 (fun w hw => hw.rdOf (i := 0) rfl 0) (by omega) (by omega) (by decide)) (fun xq14 hq15 => ?_)
    refine GL.sg rfl (by decide) ?_
    refine GL.nil (GE.thenN ?_)
    refine GC.drawP (⟨bq13, [(.int .u32 (((pAt ps z.1).xs.getD y.1 0)))], 52, true⟩ :: ⟨bq9, [(.int .i64 sp), (.slice (some ⟨z.2.2.b, 0, none⟩) n z.2.2.cap)], 24, true⟩ :: ⟨bq2, [(.int .i64 0), (.slice none 0 0)], 24, true⟩ :: ⟨bq1, [(.int .i64 sp), (.slice (some ⟨b, o, none⟩) n cap)], 24, true⟩ :: ⟨z.2.2.b, pcs z.2.2.pl ++ z.2.2.sp, 75, true⟩ :: (((Aw.add y.2 (((pAt ps z.1).xs.getD y.1 0)) xq14).row 52) ++ (((z.2.2.qs.eraseIdx z.1).map (Nq.blk 52)) ++ []))) T.mixed (by kernel_rfl) (by kernel_rfl) (fuel := 21) rfl rfl ?_
    refine GH.tk 0 (v := (.pointer (some ⟨bq9, 1, none⟩))) rfl (by kernel_rfl) (fun _ _ _ h => h) (Ex.cast (Ex.fieldAddr rfl Tryz.underlying24 rfl T.sz22 (by decide)) rfl) (ulC (ulS (ulC (ulC (ulC (ulC ulR)))))) (by decide) ?_
    refine GH.tk 1 (v := (.slice (some ⟨z.2.2.b, 0, none⟩) n z.2.2.cap)) rfl (by kernel_rfl) (fun _ _ _ h => h) (Ex.load rfl T.ag22 (i := 1) rfl rfl) (ulC (ulS (ulC (ulC (ulC (ulC ulR)))))) (by decide) ?_
    refine GH.tk 2 (v := (.int .i64 (((z.1 : Nat) : Int)))) rfl (by kernel_rfl) (fun _ _ _ h => h) (Ex.move rfl) (ulC (ulS (ulC (ulC (ulC (ulC ulR)))))) (by decide) ?_
    refine GH.tk 3 (v := (.pointer (some ⟨z.2.2.b, z.1 * 3, none⟩))) rfl (by kernel_rfl) (fun _ _ _ h => h) (Ex.cast (Ex.indexAddr rfl rfl Tryz.underlying22 T.sz75 (by omega) (by omega)) (by simp)) (ulC (ulS (ulC (ulC (ulC (ulC ulR)))))) (by decide) ?_
    refine GH.tk 4 (v := (.pointer (some ⟨z.2.2.b, z.1 * 3 + 2, none⟩))) rfl (by kernel_rfl) (fun _ _ _ h => h) (Ex.cast (Ex.fieldAddr rfl Tryz.underlying75 rfl T.sz53 (by decide)) rfl) (ulC (ulS (ulC (ulC (ulC (ulC ulR)))))) (by decide) ?_
    refine GH.tk 5 (v := (.slice (some ⟨(nqAt z.2.2 z.1).b, 0, none⟩) A ((nqAt z.2.2 z.1).cap))) rfl (by kernel_rfl) (fun _ _ _ h => h) (Ex.load rfl T.ag53 (i := 4) rfl (row_at hiz (by rw [eX]; exact el))) (ulC (ulS (ulC (ulC (ulC (ulC ulR)))))) (by decide) ?_
    refine GH.tk 6 (v := (.int .i64 (((y.1 : Nat) : Int)))) rfl (by kernel_rfl) (fun _ _ _ h => h) (Ex.move rfl) (ulC (ulS (ulC (ulC (ulC (ulC ulR)))))) (by decide) ?_
    refine GH.tk 7 (v := (.int .i64 1)) rfl (by kernel_rfl) (fun _ _ _ h => h) (Ex.move rfl) (ulC (ulS (ulC (ulC (ulC (ulC ulR)))))) (by decide) ?_
    refine GH.tk 8 (v := (.pointer (some ⟨bq1, 1, none⟩))) rfl (by kernel_rfl) (fun _ _ _ h => h) (Ex.cast (Ex.fieldAddr rfl Tryz.underlying24 rfl T.sz22 (by decide)) rfl) (ulC (ulS (ulC (ulC (ulC (ulC ulR)))))) (by decide) ?_
    refine GH.tk 9 (v := (.slice (some ⟨b, o, none⟩) n cap)) rfl (by kernel_rfl) (fun _ _ _ h => h) (Ex.load rfl T.ag22 (i := 3) rfl rfl) (ulC (ulS (ulC (ulC (ulC (ulC ulR)))))) (by decide) ?_
    refine GH.tk 10 (v := (.int .i64 (((z.1 : Nat) : Int)))) rfl (by kernel_rfl) (fun _ _ _ h => h) (Ex.move rfl) (ulC (ulS (ulC (ulC (ulC (ulC ulR)))))) (by decide) ?_
    refine GH.tk 11 (v := (.pointer (some ⟨b, o + z.1 * 3, none⟩))) rfl (by kernel_rfl) (fun _ _ _ h => h) (Ex.cast (Ex.indexAddr rfl rfl Tryz.underlying22 T.sz75 (by omega) (by omega)) (by simp)) (ulC (ulS (ulC (ulC (ulC (ulC ulR)))))) (by decide) ?_
    refine GH.tk 12 (v := (.pointer (some ⟨b, o + z.1 * 3 + 2, none⟩))) rfl (by kernel_rfl) (fun _ _ _ h => h) (Ex.cast (Ex.fieldAddr rfl Tryz.underlying75 rfl T.sz53 (by decide)) rfl) (ulC (ulS (ulC (ulC (ulC (ulC ulR)))))) (by decide) ?_
    refine GH.tk 13 (v := (.slice (some ⟨bp, op, none⟩) A ((pAt ps z.1).cap))) rfl (by kernel_rfl) (fun _ _ _ h => h) (Ex.loadO rfl T.ag53 (by have h := Pns.cell (i := z.1) (j := 2) (v := .slice (pAt ps z.1).ad (pAt ps z.1).n (pAt ps z.1).cap) hps (show z.1 < ps.length by omega) (by decide) rfl; rw [ea, (hok.at (show z.1 < ps.length by omega)).2.2, ← hA] at h; exact h) (fun x => x)) (ulC (ulS (ulC (ulC (ulC (ulC ulR)))))) (by decide) ?_
    refine GH.tk 14 (v := (.int .i64 (((y.1 : Nat) : Int)))) rfl (by kernel_rfl) (fun _ _ _ h => h) (Ex.move rfl) (ulC (ulS (ulC (ulC (ulC (ulC ulR)))))) (by decide) ?_
    refine GH.tk 15 (v := (.pointer (some ⟨bp, op + y.1, none⟩))) rfl (by kernel_rfl) (fun _ _ _ h => h) (Ex.cast (Ex.indexAddr rfl rfl Tryz.underlying53 T.sz52 (by omega) (by omega)) (by simp)) (ulC (ulS (ulC (ulC (ulC (ulC ulR)))))) (by decide) ?_
    refine GH.tk 16 (v := (.int .u32 (((pAt ps z.1).xs.getD y.1 0)))) rfl (by kernel_rfl) (fun _ _ _ h => h) (Ex.loadO rfl T.ag52 (Rd.at hrp (by omega)) (fun x => x)) (ulC (ulS (ulC (ulC (ulC (ulC ulR)))))) (by decide) ?_
    refine GH.tk 17 (v := (.int .u32 add)) rfl (by kernel_rfl) (fun _ _ _ h => h) (Ex.move rfl) (ulC (ulS (ulC (ulC (ulC (ulC ulR)))))) (by decide) ?_
    refine GH.tk 18 (v := (.int .u32 0)) rfl (by kernel_rfl) (fun _ _ _ h => h) (Ex.move rfl) (ulC (ulS (ulC (ulC (ulC (ulC ulR)))))) (by decide) ?_
    refine GH.one 19 rfl (by kernel_rfl) (Stp.callR (vs := [(.int .i64 1), (.int .u32 (((pAt ps z.1).xs.getD y.1 0))), (.int .u32 add), (.int .u32 0)]) rfl rfl T.own100 (by decide) (fun wc hw => ref_changed ((pAt ps z.1).xs.getD y.1 0) add 0 wc)) (fun _ => (ulC (ulS (ulC (ulC (ulC (ulC ulR))))))) (fun xq16 hq17 => ?_)
    refine GH.tk 20 (v := (.pointer (some ⟨(nqAt z.2.2 z.1).b, y.1, none⟩))) rfl (by kernel_rfl) (fun _ _ _ h => h) (Ex.cast (Ex.indexAddr rfl rfl Tryz.underlying53 T.sz52 (by omega) (by omega)) (by simp)) (ulC (ulS (ulC (ulC (ulC (ulC ulR)))))) (by decide) ?_
    refine GH.done (by kernel_rfl) ?_
    refine GE.thenN ?_
    refine GE.tail rfl (Stp.storeL (i := 1) (cs := (trL (fun k => adU add ((pAt ps z.1).xs.getD k 0)) (pAt ps z.1).xs y.1).map u32 ++ (nqAt z.2.2 z.1).sp) (vs := [(.int .u32 ((adU add ((pAt ps z.1).xs.getD y.1 0))))]) (o := y.1) (L1 := (⟨bq13, [(.int .u32 (((pAt ps z.1).xs.getD y.1 0)))], 52, true⟩ :: ⟨(nqAt z.2.2 z.1).b, (trL (fun k => adU add ((pAt ps z.1).xs.getD k 0)) (pAt ps z.1).xs (y.1 + 1)).map u32 ++ (nqAt z.2.2 z.1).sp, 52, true⟩ :: ⟨bq9, [(.int .i64 sp), (.slice (some ⟨z.2.2.b, 0, none⟩) n z.2.2.cap)], 24, true⟩ :: ⟨bq2, [(.int .i64 0), (.slice none 0 0)], 24, true⟩ :: ⟨bq1, [(.int .i64 sp), (.slice (some ⟨b, o, none⟩) n cap)], 24, true⟩ :: ⟨z.2.2.b, pcs z.2.2.pl ++ z.2.2.sp, 75, true⟩ :: (((Aw.add y.2 (((pAt ps z.1).xs.getD y.1 0)) xq14).row 52) ++ (((z.2.2.qs.eraseIdx z.1).map (Nq.blk 52)) ++ [])))) rfl rfl rfl T.sz52 rfl (Nat.ble_eq_true_of_le (by rw [List.length_append, List.length_map, trL_len]; simp; omega)) rfl (by rw [show splice ((trL (fun k => adU add ((pAt ps z.1).xs.getD k 0)) (pAt ps z.1).xs y.1).map u32 ++ (nqAt z.2.2 z.1).sp) y.1 [(.int .u32 ((adU add ((pAt ps z.1).xs.getD y.1 0))))] = (trL (fun k => adU add ((pAt ps z.1).xs.getD k 0)) (pAt ps z.1).xs (y.1 + 1)).map u32 ++ (nqAt z.2.2 z.1).sp from trL_put (fun k => adU add ((pAt ps z.1).xs.getD k 0)) (pAt ps z.1).xs y.1 (nqAt z.2.2 z.1).sp (by omega)]; rfl)) (fun _ _ => ?_)
    refine GE.blockN (GE.thenN (GC.region ?_))
    refine GL.mv rfl (by decide) ?_
    refine GL.val (v := (.int .i64 (((y.1 + 1 : Nat) : Int)))) (Ex.add rfl rfl (Z := ((y.1 + 1 : Nat) : Int)) (by rw [w64 (by omega)]; rfl)) (by decide) ?_
    refine GL.sg rfl (by decide) ?_
    refine GL.nil (GE.thenN ?_)
    exact Head.mk ((y.1 + 1, (Aw.add y.2 (((pAt ps z.1).xs.getD y.1 0)) xq14))) ⟨(show y.1 + 1 ≤ A by omega), hq15, (by show y.2.xs ++ _ = _; rw [hp.2.2.1]; exact take_step (by omega) _), Or.inr (by omega)⟩ (by show A - (y.1 + 1) < _; omega) ((sub_cons rfl ((sub_cons rfl ((sub_cons rfl ((sub_cons rfl ((sub_cons rfl ((sub_cons rfl ((sub_cons rfl ((sub_cons rfl ((sub_cons rfl ((sub_cons rfl ((sub_nil _)))))))))))))))))))))) (ulS (ulC (ulC (ulC (ulC (ulC ulR))))))
   ·replace hq12 := of_decide_eq_false hq12
    refine GC.exit (GE.thenE (GE.thenE (GE.blockE (GE.blockN (GE.thenN ?_)))))
    have htl : (trL (fun k => adU add ((pAt ps z.1).xs.getD k 0)) (pAt ps z.1).xs y.1).length = (nqAt z.2.2 z.1).xs.length := by rw [trL_len, eX]
    have hend := rend (f := adU add) (k := k) el hp.2.2.1 hp.2.2.2 (fun hc => by omega)
    have hxa := hend.2
    have hqd : ((nqAt z.2.2 z.1).to (trL (fun k => adU add ((pAt ps z.1).xs.getD k 0)) (pAt ps z.1).xs y.1)).d = mpG (adU add) k ps z.1 := by rw [mpG_eq hend.1, Nq.to_d, eW, eH]
    refine GC.hp (L2 := (⟨bq9, [(.int .i64 sp), (.slice (some ⟨z.2.2.b, 0, none⟩) n z.2.2.cap)], 24, true⟩ :: ⟨bq2, [(.int .i64 0), (.slice none 0 0)], 24, true⟩ :: ⟨bq1, [(.int .i64 sp), (.slice (some ⟨b, o, none⟩) n cap)], 24, true⟩ :: ⟨z.2.2.b, pcs (z.2.2.put z.1 ((nqAt z.2.2 z.1).to (trL (fun k => adU add ((pAt ps z.1).xs.getD k 0)) (pAt ps z.1).xs y.1))).pl ++ z.2.2.sp, 75, true⟩ :: ((y.2.row 52) ++ (((z.2.2.put z.1 ((nqAt z.2.2 z.1).to (trL (fun k => adU add ((pAt ps z.1).xs.getD k 0)) (pAt ps z.1).xs y.1))).qs.map (Nq.blk 52)) ++ [])))) (fun w h' => by rw [put_pcs hiz htl]; exact Hp.closes (K := [⟨bq9, [(.int .i64 sp), (.slice (some ⟨z.2.2.b, 0, none⟩) n z.2.2.cap)], 24, true⟩, ⟨bq2, [(.int .i64 0), (.slice none 0 0)], 24, true⟩, ⟨bq1, [(.int .i64 sp), (.slice (some ⟨b, o, none⟩) n cap)], 24, true⟩, ⟨z.2.2.b, pcs z.2.2.pl ++ z.2.2.sp, 75, true⟩]) (A := (y.2.row 52)) (T := []) (Tu := 52) ((nqAt z.2.2 z.1).to (trL (fun k => adU add ((pAt ps z.1).xs.getD k 0)) (pAt ps z.1).xs y.1)) hiz h') ?_
    refine GC.region ?_
    refine GL.mv rfl (by decide) ?_
    refine GL.val (v := (.int .i64 (((z.1 + 1 : Nat) : Int)))) (Ex.add rfl rfl (Z := ((z.1 + 1 : Nat) : Int)) (by rw [w64 (by omega)]; rfl)) (by decide) ?_
    refine GL.sg rfl (by decide) ?_
    refine GL.nil (GE.thenN ?_)
    exact Head.mk ((z.1 + 1, y.2, z.2.2.put z.1 ((nqAt z.2.2 z.1).to (trL (fun k => adU add ((pAt ps z.1).xs.getD k 0)) (pAt ps z.1).xs y.1)))) ⟨(show z.1 + 1 ≤ n by omega), hp.2.1, (by show y.2.xs = _; exact hxa), Ac.put_ne _ _ hz.2.2.2.1, (by show Ac.ds _ = _; rw [Ac.put_ds, hz.2.2.2.2.1]; exact mpH_set hqd), Or.inr (by show (pcs _ ++ _).length = _; rw [put_pcs hiz htl]; exact (hz.2.2.2.2.2.1).resolve_left hz.2.2.2.1), Ac.put_mem hz.2.2.2.2.2.2 ⟨(by have h1 := (hz.2.2.2.2.2.2 _ (nqAt_mem hiz)).1; simp only [List.length_append, List.length_map, Nq.to] at h1 ⊢; rw [htl]; exact h1), (hz.2.2.2.2.2.2 _ (nqAt_mem hiz)).2⟩⟩ (by show n - (z.1 + 1) < _; omega) ((sub_cons rfl ((sub_cons rfl ((sub_cons rfl ((sub_cons rfl ((sub_cons rfl ((sub_cons rfl ((sub_cons rfl ((sub_cons rfl ((sub_cons rfl ((sub_nil _)))))))))))))))))))) (ulC (ulC (ulC (ulC ulR))))
  ·refine GL.val (v := (.bool false)) (Ex.cast (Ex.lss rfl rfl) (congrArg Value.bool (decide_eq_false hq11))) (by decide) ?_
   refine GL.mv rfl (by decide) ?_
   refine GL.stepG (tj := 45) rfl rfl (Ex.wp (v := (.int .i64 (((z.1 : Nat) : Int)))) (Ex.move rfl) (by decide)) (fun _ _ => ?_)
   refine GL.stepG (tj := 45) rfl rfl (Ex.wp (v := (.int .i64 k)) (Ex.move rfl) (by decide)) (fun _ _ => ?_)
   by_cases hq18 : (((z.1 : Nat) : Int)) = k
   ·refine GL.stepG (tj := 45) rfl rfl (Ex.wp (v := (.bool true)) (Ex.cast (Ex.eql rfl rfl) (congrArg Value.bool (decide_eq_true hq18))) (by decide)) (fun _ _ => ?_)
    refine GL.val (v := (.bool true)) (Ex.pickF rfl rfl) (by decide) ?_
    refine GL.mv rfl (by decide) ?_
    refine GL.stepG (tj := 50) rfl rfl (Ex.wp (v := (.int .i64 (((y.1 : Nat) : Int)))) (Ex.move rfl) (by decide)) (fun _ _ => ?_)
    refine GL.stepG (tj := 50) rfl rfl (Ex.wp (v := (.pointer (some ⟨bq1, 1, none⟩))) (Ex.cast (Ex.fieldAddr rfl Tryz.underlying24 rfl T.sz22 (by decide)) rfl) (by decide)) (fun _ _ => ?_)
    refine GL.stepG (tj := 50) rfl rfl (Ex.wp (v := (.slice (some ⟨b, o, none⟩) n cap)) (Ex.load rfl T.ag22 (i := 3) rfl rfl) (by decide)) (fun _ _ => ?_)
    refine GL.stepG (tj := 50) rfl rfl (Ex.wp (v := (.int .i64 (((z.1 : Nat) : Int)))) (Ex.move rfl) (by decide)) (fun _ _ => ?_)
    refine GL.stepG (tj := 50) rfl rfl (Ex.wp (v := (.pointer (some ⟨b, o + z.1 * 3, none⟩))) (Ex.cast (Ex.indexAddr rfl rfl Tryz.underlying22 T.sz75 (by omega) (by omega)) (by simp)) (by decide)) (fun _ _ => ?_)
    refine GL.stepG (tj := 50) rfl rfl (Ex.wp (v := (.pointer (some ⟨b, o + z.1 * 3 + 2, none⟩))) (Ex.cast (Ex.fieldAddr rfl Tryz.underlying75 rfl T.sz53 (by decide)) rfl) (by decide)) (fun _ _ => ?_)
    refine GL.stepG (tj := 50) rfl rfl (Ex.wp (v := (.slice (some ⟨bp, op, none⟩) A ((pAt ps z.1).cap))) (Ex.loadO rfl T.ag53 (by have h := Pns.cell (i := z.1) (j := 2) (v := .slice (pAt ps z.1).ad (pAt ps z.1).n (pAt ps z.1).cap) hps (show z.1 < ps.length by omega) (by decide) rfl; rw [ea, (hok.at (show z.1 < ps.length by omega)).2.2, ← hA] at h; exact h) (fun x => x)) (by decide)) (fun _ _ => ?_)
    refine GL.stepG (tj := 50) rfl rfl (Ex.wp (v := (.int .i64 ((A : Int)))) (Ex.len rfl Tryz.underlying53) (by decide)) (fun _ _ => ?_)
    refine GL.stepG (tj := 50) rfl rfl (Ex.wp (v := (.bool (decide ((((y.1 : Nat) : Int)) < ((A : Int)))))) (Ex.lss rfl rfl) (by decide)) (fun _ _ => ?_)
    refine GL.val (v := (.bool (decide ((((y.1 : Nat) : Int)) < ((A : Int)))))) (Ex.pickT rfl rfl) (by decide) ?_
    refine GL.nil (GE.thenN ?_)
    refine GC.cond rfl (fun hq19 => ?_) (fun hq19 => ?_)
    ·replace hq19 := of_decide_eq_true hq19
     refine GC.skip (GE.thenN (GC.seq (GC.block (GC.seq (GC.region ?_)))))
     refine GL.mv rfl (by decide) ?_
     refine GL.val (v := (.pointer (some ⟨bq1, 1, none⟩))) (Ex.cast (Ex.fieldAddr rfl Tryz.underlying24 rfl T.sz22 (by decide)) rfl) (by decide) ?_
     refine GL.val (Ex.load rfl T.ag22 (i := 3) rfl rfl) (by decide) ?_
     refine GL.mv rfl (by decide) ?_
     refine GL.val (v := (.pointer (some ⟨b, o + z.1 * 3, none⟩))) (Ex.cast (Ex.indexAddr rfl rfl Tryz.underlying22 T.sz75 (by omega) (by omega)) (by simp)) (by decide) ?_
     refine GL.val (v := (.pointer (some ⟨b, o + z.1 * 3 + 2, none⟩))) (Ex.cast (Ex.fieldAddr rfl Tryz.underlying75 rfl T.sz53 (by decide)) rfl) (by decide) ?_
     refine GL.val (v := (.slice (some ⟨bp, op, none⟩) A ((pAt ps z.1).cap))) (Ex.loadO rfl T.ag53 (by have h := Pns.cell (i := z.1) (j := 2) (v := .slice (pAt ps z.1).ad (pAt ps z.1).n (pAt ps z.1).cap) hps (show z.1 < ps.length by omega) (by decide) rfl; rw [ea, (hok.at (show z.1 < ps.length by omega)).2.2, ← hA] at h; exact h) (fun x => x)) (by decide) ?_
     refine GL.mv rfl (by decide) ?_
     refine GL.val (v := (.pointer (some ⟨bp, op + y.1, none⟩))) (Ex.cast (Ex.indexAddr rfl rfl Tryz.underlying53 T.sz52 (by omega) (by omega)) (by simp)) (by decide) ?_
     refine GL.val (v := (.int .u32 (((pAt ps z.1).xs.getD y.1 0)))) (Ex.loadO rfl T.ag52 (Rd.at hrp (by omega)) (fun x => x)) (by decide) ?_
     refine GL.step (Stp.buildSlice (cs := [(.int .u32 (((pAt ps z.1).xs.getD y.1 0)))]) (vs := [(0, (.int .u32 (((pAt ps z.1).xs.getD y.1 0))))]) Tryz.underlying53 T.zr52 T.sz52 rfl (by decide) (by decide) (by first | rfl | kernel_rfl) (by decide)) (fun bq20 _ => ?_)
     refine GL.step (Stp.appAw (a := y.2) (q := ((pAt ps z.1).xs.getD y.1 0)) (K := [⟨bq20, [(.int .u32 (((pAt ps z.1).xs.getD y.1 0)))], 52, true⟩, ⟨(nqAt z.2.2 z.1).b, (trL (fun k => adU add ((pAt ps z.1).xs.getD k 0)) (pAt ps z.1).xs y.1).map u32 ++ (nqAt z.2.2 z.1).sp, 52, true⟩, ⟨bq9, [(.int .i64 sp), (.slice (some ⟨z.2.2.b, 0, none⟩) n z.2.2.cap)], 24, true⟩, ⟨bq2, [(.int .i64 0), (.slice none 0 0)], 24, true⟩, ⟨bq1, [(.int .i64 sp), (.slice (some ⟨b, o, none⟩) n cap)], 24, true⟩, ⟨z.2.2.b, pcs z.2.2.pl ++ z.2.2.sp, 75, true⟩]) (R := (((z.2.2.qs.eraseIdx z.1).map (Nq.blk 52)) ++ [])) rfl rfl Tryz.underlying53 T.sz52 T.zr52 rfl T.by52 rfl hp.2.1 (fun w hw => hw.rdOf (i := 0) rfl 0) (by omega) (by omega) (by decide)) (fun xq21 hq22 => ?_)
     refine GL.sg rfl (by decide) ?_
     refine GL.nil (GE.thenN ?_)
     refine GC.drawP (⟨bq20, [(.int .u32 (((pAt ps z.1).xs.getD y.1 0)))], 52, true⟩ :: ⟨bq9, [(.int .i64 sp), (.slice (some ⟨z.2.2.b, 0, none⟩) n z.2.2.cap)], 24, true⟩ :: ⟨bq2, [(.int .i64 0), (.slice none 0 0)], 24, true⟩ :: ⟨bq1, [(.int .i64 sp), (.slice (some ⟨b, o, none⟩) n cap)], 24, true⟩ :: ⟨z.2.2.b, pcs z.2.2.pl ++ z.2.2.sp, 75, true⟩ :: (((Aw.add y.2 (((pAt ps z.1).xs.getD y.1 0)) xq21).row 52) ++ (((z.2.2.qs.eraseIdx z.1).map (Nq.blk 52)) ++ []))) T.mixed (by kernel_rfl) (by kernel_rfl) (fuel := 21) rfl rfl ?_
     refine GH.tk 0 (v := (.pointer (some ⟨bq9, 1, none⟩))) rfl (by kernel_rfl) (fun _ _ _ h => h) (Ex.cast (Ex.fieldAddr rfl Tryz.underlying24 rfl T.sz22 (by decide)) rfl) (ulC (ulS (ulC (ulC (ulC (ulC ulR)))))) (by decide) ?_
     refine GH.tk 1 (v := (.slice (some ⟨z.2.2.b, 0, none⟩) n z.2.2.cap)) rfl (by kernel_rfl) (fun _ _ _ h => h) (Ex.load rfl T.ag22 (i := 1) rfl rfl) (ulC (ulS (ulC (ulC (ulC (ulC ulR)))))) (by decide) ?_
     refine GH.tk 2 (v := (.int .i64 (((z.1 : Nat) : Int)))) rfl (by kernel_rfl) (fun _ _ _ h => h) (Ex.move rfl) (ulC (ulS (ulC (ulC (ulC (ulC ulR)))))) (by decide) ?_
     refine GH.tk 3 (v := (.pointer (some ⟨z.2.2.b, z.1 * 3, none⟩))) rfl (by kernel_rfl) (fun _ _ _ h => h) (Ex.cast (Ex.indexAddr rfl rfl Tryz.underlying22 T.sz75 (by omega) (by omega)) (by simp)) (ulC (ulS (ulC (ulC (ulC (ulC ulR)))))) (by decide) ?_
     refine GH.tk 4 (v := (.pointer (some ⟨z.2.2.b, z.1 * 3 + 2, none⟩))) rfl (by kernel_rfl) (fun _ _ _ h => h) (Ex.cast (Ex.fieldAddr rfl Tryz.underlying75 rfl T.sz53 (by decide)) rfl) (ulC (ulS (ulC (ulC (ulC (ulC ulR)))))) (by decide) ?_
     refine GH.tk 5 (v := (.slice (some ⟨(nqAt z.2.2 z.1).b, 0, none⟩) A ((nqAt z.2.2 z.1).cap))) rfl (by kernel_rfl) (fun _ _ _ h => h) (Ex.load rfl T.ag53 (i := 4) rfl (row_at hiz (by rw [eX]; exact el))) (ulC (ulS (ulC (ulC (ulC (ulC ulR)))))) (by decide) ?_
     refine GH.tk 6 (v := (.int .i64 (((y.1 : Nat) : Int)))) rfl (by kernel_rfl) (fun _ _ _ h => h) (Ex.move rfl) (ulC (ulS (ulC (ulC (ulC (ulC ulR)))))) (by decide) ?_
     refine GH.tk 7 (v := (.int .i64 1)) rfl (by kernel_rfl) (fun _ _ _ h => h) (Ex.move rfl) (ulC (ulS (ulC (ulC (ulC (ulC ulR)))))) (by decide) ?_
     refine GH.tk 8 (v := (.pointer (some ⟨bq1, 1, none⟩))) rfl (by kernel_rfl) (fun _ _ _ h => h) (Ex.cast (Ex.fieldAddr rfl Tryz.underlying24 rfl T.sz22 (by decide)) rfl) (ulC (ulS (ulC (ulC (ulC (ulC ulR)))))) (by decide) ?_
     refine GH.tk 9 (v := (.slice (some ⟨b, o, none⟩) n cap)) rfl (by kernel_rfl) (fun _ _ _ h => h) (Ex.load rfl T.ag22 (i := 3) rfl rfl) (ulC (ulS (ulC (ulC (ulC (ulC ulR)))))) (by decide) ?_
     refine GH.tk 10 (v := (.int .i64 (((z.1 : Nat) : Int)))) rfl (by kernel_rfl) (fun _ _ _ h => h) (Ex.move rfl) (ulC (ulS (ulC (ulC (ulC (ulC ulR)))))) (by decide) ?_
     refine GH.tk 11 (v := (.pointer (some ⟨b, o + z.1 * 3, none⟩))) rfl (by kernel_rfl) (fun _ _ _ h => h) (Ex.cast (Ex.indexAddr rfl rfl Tryz.underlying22 T.sz75 (by omega) (by omega)) (by simp)) (ulC (ulS (ulC (ulC (ulC (ulC ulR)))))) (by decide) ?_
     refine GH.tk 12 (v := (.pointer (some ⟨b, o + z.1 * 3 + 2, none⟩))) rfl (by kernel_rfl) (fun _ _ _ h => h) (Ex.cast (Ex.fieldAddr rfl Tryz.underlying75 rfl T.sz53 (by decide)) rfl) (ulC (ulS (ulC (ulC (ulC (ulC ulR)))))) (by decide) ?_
     refine GH.tk 13 (v := (.slice (some ⟨bp, op, none⟩) A ((pAt ps z.1).cap))) rfl (by kernel_rfl) (fun _ _ _ h => h) (Ex.loadO rfl T.ag53 (by have h := Pns.cell (i := z.1) (j := 2) (v := .slice (pAt ps z.1).ad (pAt ps z.1).n (pAt ps z.1).cap) hps (show z.1 < ps.length by omega) (by decide) rfl; rw [ea, (hok.at (show z.1 < ps.length by omega)).2.2, ← hA] at h; exact h) (fun x => x)) (ulC (ulS (ulC (ulC (ulC (ulC ulR)))))) (by decide) ?_
     refine GH.tk 14 (v := (.int .i64 (((y.1 : Nat) : Int)))) rfl (by kernel_rfl) (fun _ _ _ h => h) (Ex.move rfl) (ulC (ulS (ulC (ulC (ulC (ulC ulR)))))) (by decide) ?_
     refine GH.tk 15 (v := (.pointer (some ⟨bp, op + y.1, none⟩))) rfl (by kernel_rfl) (fun _ _ _ h => h) (Ex.cast (Ex.indexAddr rfl rfl Tryz.underlying53 T.sz52 (by omega) (by omega)) (by simp)) (ulC (ulS (ulC (ulC (ulC (ulC ulR)))))) (by decide) ?_
     refine GH.tk 16 (v := (.int .u32 (((pAt ps z.1).xs.getD y.1 0)))) rfl (by kernel_rfl) (fun _ _ _ h => h) (Ex.loadO rfl T.ag52 (Rd.at hrp (by omega)) (fun x => x)) (ulC (ulS (ulC (ulC (ulC (ulC ulR)))))) (by decide) ?_
     refine GH.tk 17 (v := (.int .u32 add)) rfl (by kernel_rfl) (fun _ _ _ h => h) (Ex.move rfl) (ulC (ulS (ulC (ulC (ulC (ulC ulR)))))) (by decide) ?_
     refine GH.tk 18 (v := (.int .u32 0)) rfl (by kernel_rfl) (fun _ _ _ h => h) (Ex.move rfl) (ulC (ulS (ulC (ulC (ulC (ulC ulR)))))) (by decide) ?_
     refine GH.one 19 rfl (by kernel_rfl) (Stp.callR (vs := [(.int .i64 1), (.int .u32 (((pAt ps z.1).xs.getD y.1 0))), (.int .u32 add), (.int .u32 0)]) rfl rfl T.own100 (by decide) (fun wc hw => ref_changed ((pAt ps z.1).xs.getD y.1 0) add 0 wc)) (fun _ => (ulC (ulS (ulC (ulC (ulC (ulC ulR))))))) (fun xq23 hq24 => ?_)
     refine GH.tk 20 (v := (.pointer (some ⟨(nqAt z.2.2 z.1).b, y.1, none⟩))) rfl (by kernel_rfl) (fun _ _ _ h => h) (Ex.cast (Ex.indexAddr rfl rfl Tryz.underlying53 T.sz52 (by omega) (by omega)) (by simp)) (ulC (ulS (ulC (ulC (ulC (ulC ulR)))))) (by decide) ?_
     refine GH.done (by kernel_rfl) ?_
     refine GE.thenN ?_
     refine GE.tail rfl (Stp.storeL (i := 1) (cs := (trL (fun k => adU add ((pAt ps z.1).xs.getD k 0)) (pAt ps z.1).xs y.1).map u32 ++ (nqAt z.2.2 z.1).sp) (vs := [(.int .u32 ((adU add ((pAt ps z.1).xs.getD y.1 0))))]) (o := y.1) (L1 := (⟨bq20, [(.int .u32 (((pAt ps z.1).xs.getD y.1 0)))], 52, true⟩ :: ⟨(nqAt z.2.2 z.1).b, (trL (fun k => adU add ((pAt ps z.1).xs.getD k 0)) (pAt ps z.1).xs (y.1 + 1)).map u32 ++ (nqAt z.2.2 z.1).sp, 52, true⟩ :: ⟨bq9, [(.int .i64 sp), (.slice (some ⟨z.2.2.b, 0, none⟩) n z.2.2.cap)], 24, true⟩ :: ⟨bq2, [(.int .i64 0), (.slice none 0 0)], 24, true⟩ :: ⟨bq1, [(.int .i64 sp), (.slice (some ⟨b, o, none⟩) n cap)], 24, true⟩ :: ⟨z.2.2.b, pcs z.2.2.pl ++ z.2.2.sp, 75, true⟩ :: (((Aw.add y.2 (((pAt ps z.1).xs.getD y.1 0)) xq21).row 52) ++ (((z.2.2.qs.eraseIdx z.1).map (Nq.blk 52)) ++ [])))) rfl rfl rfl T.sz52 rfl (Nat.ble_eq_true_of_le (by rw [List.length_append, List.length_map, trL_len]; simp; omega)) rfl (by rw [show splice ((trL (fun k => adU add ((pAt ps z.1).xs.getD k 0)) (pAt ps z.1).xs y.1).map u32 ++ (nqAt z.2.2 z.1).sp) y.1 [(.int .u32 ((adU add ((pAt ps z.1).xs.getD y.1 0))))] = (trL (fun k => adU add ((pAt ps z.1).xs.getD k 0)) (pAt ps z.1).xs (y.1 + 1)).map u32 ++ (nqAt z.2.2 z.1).sp from trL_put (fun k => adU add ((pAt ps z.1).xs.getD k 0)) (pAt ps z.1).xs y.1 (nqAt z.2.2 z.1).sp (by omega)]; rfl)) (fun _ _ => ?_)
     refine GE.blockN (GE.thenN (GC.region ?_))
     refine GL.mv rfl (by decide) ?_
     refine GL.val (v := (.int .i64 (((y.1 + 1 : Nat) : Int)))) (Ex.add rfl rfl (Z := ((y.1 + 1 : Nat) : Int)) (by rw [w64 (by omega)]; rfl)) (by decide) ?_
     refine GL.sg rfl (by decide) ?_
     refine GL.nil (GE.thenN ?_)
     exact Head.mk ((y.1 + 1, (Aw.add y.2 (((pAt ps z.1).xs.getD y.1 0)) xq21))) ⟨(show y.1 + 1 ≤ A by omega), hq22, (by show y.2.xs ++ _ = _; rw [hp.2.2.1]; exact take_step (by omega) _), Or.inr (by omega)⟩ (by show A - (y.1 + 1) < _; omega) ((sub_cons rfl ((sub_cons rfl ((sub_cons rfl ((sub_cons rfl ((sub_cons rfl ((sub_cons rfl ((sub_cons rfl ((sub_cons rfl ((sub_cons rfl ((sub_cons rfl ((sub_nil _)))))))))))))))))))))) (ulS (ulC (ulC (ulC (ulC (ulC ulR))))))
    ·replace hq19 := of_decide_eq_false hq19
     refine GC.exit (GE.thenE (GE.thenE (GE.blockE (GE.blockN (GE.thenN ?_)))))
     have htl : (trL (fun k => adU add ((pAt ps z.1).xs.getD k 0)) (pAt ps z.1).xs y.1).length = (nqAt z.2.2 z.1).xs.length := by rw [trL_len, eX]
     have hend := rend (f := adU add) (k := k) el hp.2.2.1 hp.2.2.2 (fun hc => by omega)
     have hxa := hend.2
     have hqd : ((nqAt z.2.2 z.1).to (trL (fun k => adU add ((pAt ps z.1).xs.getD k 0)) (pAt ps z.1).xs y.1)).d = mpG (adU add) k ps z.1 := by rw [mpG_eq hend.1, Nq.to_d, eW, eH]
     refine GC.hp (L2 := (⟨bq9, [(.int .i64 sp), (.slice (some ⟨z.2.2.b, 0, none⟩) n z.2.2.cap)], 24, true⟩ :: ⟨bq2, [(.int .i64 0), (.slice none 0 0)], 24, true⟩ :: ⟨bq1, [(.int .i64 sp), (.slice (some ⟨b, o, none⟩) n cap)], 24, true⟩ :: ⟨z.2.2.b, pcs (z.2.2.put z.1 ((nqAt z.2.2 z.1).to (trL (fun k => adU add ((pAt ps z.1).xs.getD k 0)) (pAt ps z.1).xs y.1))).pl ++ z.2.2.sp, 75, true⟩ :: ((y.2.row 52) ++ (((z.2.2.put z.1 ((nqAt z.2.2 z.1).to (trL (fun k => adU add ((pAt ps z.1).xs.getD k 0)) (pAt ps z.1).xs y.1))).qs.map (Nq.blk 52)) ++ [])))) (fun w h' => by rw [put_pcs hiz htl]; exact Hp.closes (K := [⟨bq9, [(.int .i64 sp), (.slice (some ⟨z.2.2.b, 0, none⟩) n z.2.2.cap)], 24, true⟩, ⟨bq2, [(.int .i64 0), (.slice none 0 0)], 24, true⟩, ⟨bq1, [(.int .i64 sp), (.slice (some ⟨b, o, none⟩) n cap)], 24, true⟩, ⟨z.2.2.b, pcs z.2.2.pl ++ z.2.2.sp, 75, true⟩]) (A := (y.2.row 52)) (T := []) (Tu := 52) ((nqAt z.2.2 z.1).to (trL (fun k => adU add ((pAt ps z.1).xs.getD k 0)) (pAt ps z.1).xs y.1)) hiz h') ?_
     refine GC.region ?_
     refine GL.mv rfl (by decide) ?_
     refine GL.val (v := (.int .i64 (((z.1 + 1 : Nat) : Int)))) (Ex.add rfl rfl (Z := ((z.1 + 1 : Nat) : Int)) (by rw [w64 (by omega)]; rfl)) (by decide) ?_
     refine GL.sg rfl (by decide) ?_
     refine GL.nil (GE.thenN ?_)
     exact Head.mk ((z.1 + 1, y.2, z.2.2.put z.1 ((nqAt z.2.2 z.1).to (trL (fun k => adU add ((pAt ps z.1).xs.getD k 0)) (pAt ps z.1).xs y.1)))) ⟨(show z.1 + 1 ≤ n by omega), hp.2.1, (by show y.2.xs = _; exact hxa), Ac.put_ne _ _ hz.2.2.2.1, (by show Ac.ds _ = _; rw [Ac.put_ds, hz.2.2.2.2.1]; exact mpH_set hqd), Or.inr (by show (pcs _ ++ _).length = _; rw [put_pcs hiz htl]; exact (hz.2.2.2.2.2.1).resolve_left hz.2.2.2.1), Ac.put_mem hz.2.2.2.2.2.2 ⟨(by have h1 := (hz.2.2.2.2.2.2 _ (nqAt_mem hiz)).1; simp only [List.length_append, List.length_map, Nq.to] at h1 ⊢; rw [htl]; exact h1), (hz.2.2.2.2.2.2 _ (nqAt_mem hiz)).2⟩⟩ (by show n - (z.1 + 1) < _; omega) ((sub_cons rfl ((sub_cons rfl ((sub_cons rfl ((sub_cons rfl ((sub_cons rfl ((sub_cons rfl ((sub_cons rfl ((sub_cons rfl ((sub_cons rfl ((sub_nil _)))))))))))))))))))) (ulC (ulC (ulC (ulC ulR))))
   ·refine GL.stepG (tj := 45) rfl rfl (Ex.wp (v := (.bool false)) (Ex.cast (Ex.eql rfl rfl) (congrArg Value.bool (decide_eq_false hq18))) (by decide)) (fun _ _ => ?_)
    refine GL.val (v := (.bool false)) (Ex.pickF rfl rfl) (by decide) ?_
    refine GL.mv rfl (by decide) ?_
    refine GL.skipG (tj := 50) rfl rfl rfl (by decide) ?_
    refine GL.skipG (tj := 50) rfl rfl rfl (by decide) ?_
    refine GL.skipG (tj := 50) rfl rfl rfl (by decide) ?_
    refine GL.skipG (tj := 50) rfl rfl rfl (by decide) ?_
    refine GL.skipG (tj := 50) rfl rfl rfl (by decide) ?_
    refine GL.skipG (tj := 50) rfl rfl rfl (by decide) ?_
    refine GL.skipG (tj := 50) rfl rfl rfl (by decide) ?_
    refine GL.skipG (tj := 50) rfl rfl rfl (by decide) ?_
    refine GL.skipG (tj := 50) rfl rfl rfl (by decide) ?_
    refine GL.val (v := (.bool false)) (Ex.pickF rfl rfl) (by decide) ?_
    refine GL.nil (GE.thenN ?_)
    refine GC.cond rfl (fun hq25 => by cases hq25) (fun _ => ?_)
    refine GC.exit (GE.thenE (GE.thenE (GE.blockE (GE.blockN (GE.thenN ?_)))))
    have htl : (trL (fun k => adU add ((pAt ps z.1).xs.getD k 0)) (pAt ps z.1).xs y.1).length = (nqAt z.2.2 z.1).xs.length := by rw [trL_len, eX]
    have hend := rend (f := adU add) (k := k) el hp.2.2.1 hp.2.2.2 (fun hc => by omega)
    have hxa := hend.2
    have hqd : ((nqAt z.2.2 z.1).to (trL (fun k => adU add ((pAt ps z.1).xs.getD k 0)) (pAt ps z.1).xs y.1)).d = mpG (adU add) k ps z.1 := by rw [mpG_eq hend.1, Nq.to_d, eW, eH]
    refine GC.hp (L2 := (⟨bq9, [(.int .i64 sp), (.slice (some ⟨z.2.2.b, 0, none⟩) n z.2.2.cap)], 24, true⟩ :: ⟨bq2, [(.int .i64 0), (.slice none 0 0)], 24, true⟩ :: ⟨bq1, [(.int .i64 sp), (.slice (some ⟨b, o, none⟩) n cap)], 24, true⟩ :: ⟨z.2.2.b, pcs (z.2.2.put z.1 ((nqAt z.2.2 z.1).to (trL (fun k => adU add ((pAt ps z.1).xs.getD k 0)) (pAt ps z.1).xs y.1))).pl ++ z.2.2.sp, 75, true⟩ :: ((y.2.row 52) ++ (((z.2.2.put z.1 ((nqAt z.2.2 z.1).to (trL (fun k => adU add ((pAt ps z.1).xs.getD k 0)) (pAt ps z.1).xs y.1))).qs.map (Nq.blk 52)) ++ [])))) (fun w h' => by rw [put_pcs hiz htl]; exact Hp.closes (K := [⟨bq9, [(.int .i64 sp), (.slice (some ⟨z.2.2.b, 0, none⟩) n z.2.2.cap)], 24, true⟩, ⟨bq2, [(.int .i64 0), (.slice none 0 0)], 24, true⟩, ⟨bq1, [(.int .i64 sp), (.slice (some ⟨b, o, none⟩) n cap)], 24, true⟩, ⟨z.2.2.b, pcs z.2.2.pl ++ z.2.2.sp, 75, true⟩]) (A := (y.2.row 52)) (T := []) (Tu := 52) ((nqAt z.2.2 z.1).to (trL (fun k => adU add ((pAt ps z.1).xs.getD k 0)) (pAt ps z.1).xs y.1)) hiz h') ?_
    refine GC.region ?_
    refine GL.mv rfl (by decide) ?_
    refine GL.val (v := (.int .i64 (((z.1 + 1 : Nat) : Int)))) (Ex.add rfl rfl (Z := ((z.1 + 1 : Nat) : Int)) (by rw [w64 (by omega)]; rfl)) (by decide) ?_
    refine GL.sg rfl (by decide) ?_
    refine GL.nil (GE.thenN ?_)
    exact Head.mk ((z.1 + 1, y.2, z.2.2.put z.1 ((nqAt z.2.2 z.1).to (trL (fun k => adU add ((pAt ps z.1).xs.getD k 0)) (pAt ps z.1).xs y.1)))) ⟨(show z.1 + 1 ≤ n by omega), hp.2.1, (by show y.2.xs = _; exact hxa), Ac.put_ne _ _ hz.2.2.2.1, (by show Ac.ds _ = _; rw [Ac.put_ds, hz.2.2.2.2.1]; exact mpH_set hqd), Or.inr (by show (pcs _ ++ _).length = _; rw [put_pcs hiz htl]; exact (hz.2.2.2.2.2.1).resolve_left hz.2.2.2.1), Ac.put_mem hz.2.2.2.2.2.2 ⟨(by have h1 := (hz.2.2.2.2.2.2 _ (nqAt_mem hiz)).1; simp only [List.length_append, List.length_map, Nq.to] at h1 ⊢; rw [htl]; exact h1), (hz.2.2.2.2.2.2 _ (nqAt_mem hiz)).2⟩⟩ (by show n - (z.1 + 1) < _; omega) ((sub_cons rfl ((sub_cons rfl ((sub_cons rfl ((sub_cons rfl ((sub_cons rfl ((sub_cons rfl ((sub_cons rfl ((sub_cons rfl ((sub_cons rfl ((sub_nil _)))))))))))))))))))) (ulC (ulC (ulC (ulC ulR))))
 ·replace hq10 := of_decide_eq_false hq10
  refine GC.exit (GE.thenE (GE.thenE (GE.blockE (GE.thenN (GC.seq (GC.region ?_))))))
  refine GL.val (v := (.agg #[(.int .i64 sp), (.slice (some ⟨z.2.2.b, 0, none⟩) n z.2.2.cap)])) (Ex.loadA rfl T.ag24 T.sz24 (i := 0) rfl (vs := [(.int .i64 sp), (.slice (some ⟨z.2.2.b, 0, none⟩) n z.2.2.cap)]) rfl rfl) (by decide) ?_
  refine GL.mv rfl (by decide) ?_
  refine GL.step (Stp.st1 (cs' := [(.int .i64 sp), (.slice (some ⟨z.2.2.b, 0, none⟩) n z.2.2.cap)]) rfl rfl rfl T.sz24 rfl rfl rfl) (fun _ _ => ?_)
  refine GL.sg rfl (by decide) ?_
  refine GL.sg rfl (by decide) ?_
  refine GL.nil (GE.thenN (GC.ret ?_))
  refine GC.ret3 rfl (Rv.cellA rfl T.ag24 T.sz24 (L := _) (i := 1) rfl (vs := [(.int .i64 sp), (.slice (some ⟨z.2.2.b, 0, none⟩) n z.2.2.cap)]) rfl rfl) (Rv.tmp rfl) (Rv.tmp rfl) (fun wN HN => ?_)
  have hzn : z.1 = n := by omega
  exact HN.ret (z.2.1, z.2.2) ⟨hp.2.1, (by show z.2.1.xs = _; rw [hp.2.2.1, hzn]), hp.2.2.2.1, (by show z.2.2.ds = _; rw [hp.2.2.2.2.1, hzn, mpH_all]), hp.2.2.2.2.2⟩ (by have e := Ac.sm hp.2.2.2.1; have e2 : z.2.2.n = n := (by rw [← Ac.ds_len, hp.2.2.2.2.1]; simp); show _ = Value.tuple #[.agg #[_, .slice z.2.2.ad z.2.2.n z.2.2.cp], _, _]; rw [e.1, e.2.1, e2]) (by show List.Sublist (z.2.2.row 75 ++ (z.2.1.row 52 ++ (z.2.2.qs.map (Nq.blk 52) ++ []))) _; rw [(Ac.sm hp.2.2.2.1).2.2]; exact (ulS (ulS (ulS (ulC ulR))))) (by rw [List.all_append, List.all_append, List.all_append, Ac.row_own, Aw.row_own, Nq.own]; rfl)

theorem refm_bad (sp : Int) (ad : Option Addr) (n cap : Nat) (ps : List Pn) (k add : Int) (w : World) (hps : PnsA w ad ps) (hn : n = ps.length) (hnb : n ≤ 35184372087808) (hc : chkP sp ps ≠ 0) :
  Calls Tryz.prog 59 #[(.agg #[(.int .i64 sp), (.slice ad n cap)]), (.int .i64 k), (.int .i64 1), (.int .u32 add), (.int .u32 0)] w (Ret w (fun _ : Unit => True) (fun _ => .tuple #[(.agg #[(.int .i64 0), (.slice none 0 0)]), (.slice none 0 0), .int .i64 ((chkP sp ps))]) (fun _ => [])) := by
 refine enter (M := None) (L := []) (n := 98) (l := [(0, (.agg #[(.int .i64 sp), (.slice ad n cap)])), (1, (.int .i64 k)), (2, (.int .i64 1)), (3, (.int .u32 add)), (4, (.int .u32 0))]) Tryz.func59 rfl rfl (Args.cons rfl (Args.cons rfl (Args.cons rfl (Args.cons rfl (Args.cons rfl (Args.nil _)))))) (Hp.start _ _) ?_
 refine GC.seq (GC.region ?_)
 refine GL.step (Stp.box (cs := [(.int .i64 sp), (.slice ad n cap)]) rfl rfl (by decide)) (fun bq1 _ => ?_)
 refine GL.step (Stp.alloc T.zr24 (by decide)) (fun bq2 _ => ?_)
 refine GL.sg rfl (by decide) ?_
 refine GL.sg rfl (by decide) ?_
 refine GL.nil (GE.thenN (GC.seq (GC.region ?_)))
 refine GL.val (v := (.agg #[(.int .i64 sp), (.slice ad n cap)])) (Ex.loadA rfl T.ag24 T.sz24 (i := 1) rfl (vs := [(.int .i64 sp), (.slice ad n cap)]) rfl rfl) (by decide) ?_
 refine GL.step (Stp.callR (vs := [(.agg #[(.int .i64 sp), (.slice ad n cap)])]) rfl rfl T.own39 (by decide) (fun wc hw => ref_chk_p_a sp ad n cap ps wc (hps.later hw.1) hn hnb)) (fun xq3 hq4 => ?_)
 refine GL.sg rfl (by decide) ?_
 refine GL.nil (GE.thenN (GC.seq (GC.seq (GC.region ?_))))
 refine GL.mv rfl (by decide) ?_
 refine GL.val (v := (.bool true)) (Ex.cast (Ex.neq rfl rfl) (congrArg Value.bool (decide_eq_true (by exact hc)))) (by decide) ?_
 refine GL.nil (GE.thenN ?_)
 refine GC.cond rfl (fun _ => ?_) (fun hq5 => by cases hq5)
 refine GC.seq (GC.region ?_)
 refine GL.val (v := (.agg #[(.int .i64 0), (.slice none 0 0)])) (Ex.build (vs := []) rfl (by first | rfl | kernel_rfl)) (by decide) ?_
 refine GL.mv rfl (by decide) ?_
 refine GL.step (Stp.st0 (cs' := [(.int .i64 0), (.slice none 0 0)]) rfl rfl rfl T.sz24 rfl rfl rfl) (fun _ _ => ?_)
 refine GL.sg rfl (by decide) ?_
 refine GL.sg rfl (by decide) ?_
 refine GL.nil (GE.thenN (GC.ret (GE.thenR ?_)))
 refine GC.ret3 rfl (Rv.cellA rfl T.ag24 T.sz24 (L := _) (i := 0) rfl (vs := [(.int .i64 0), (.slice none 0 0)]) rfl rfl) (Rv.tmp rfl) (Rv.tmp rfl) (fun wN HN => ?_)
 exact HN.ret () trivial rfl (List.nil_sublist _) rfl

theorem refm_out (sp : Int) (b o n cap : Nat) (ps : List Pn) (W H : Nat) (k add : Int) (w : World) (hps : Pns w b o ps) (hn : n = ps.length) (hok : OkPic sp ps W H) (hk : ¬ (k = -1 ∨ (0 ≤ k ∧ k < ((n : Nat) : Int)))) :
  Calls Tryz.prog 59 #[(.agg #[(.int .i64 sp), (.slice (some ⟨b, o, none⟩) n cap)]), (.int .i64 k), (.int .i64 1), (.int .u32 add), (.int .u32 0)] w (Ret w (fun _ : Unit => True) (fun _ => .tuple #[(.agg #[(.int .i64 0), (.slice none 0 0)]), (.slice none 0 0), .int .i64 82]) (fun _ => [])) := by
 refine enter (M := None) (L := []) (n := 98) (l := [(0, (.agg #[(.int .i64 sp), (.slice (some ⟨b, o, none⟩) n cap)])), (1, (.int .i64 k)), (2, (.int .i64 1)), (3, (.int .u32 add)), (4, (.int .u32 0))]) Tryz.func59 rfl rfl (Args.cons rfl (Args.cons rfl (Args.cons rfl (Args.cons rfl (Args.cons rfl (Args.nil _)))))) (Hp.start _ _) ?_
 refine GC.seq (GC.region ?_)
 refine GL.step (Stp.box (cs := [(.int .i64 sp), (.slice (some ⟨b, o, none⟩) n cap)]) rfl rfl (by decide)) (fun bq1 _ => ?_)
 refine GL.step (Stp.alloc T.zr24 (by decide)) (fun bq2 _ => ?_)
 refine GL.sg rfl (by decide) ?_
 refine GL.sg rfl (by decide) ?_
 refine GL.nil (GE.thenN (GC.seq (GC.region ?_)))
 refine GL.val (v := (.agg #[(.int .i64 sp), (.slice (some ⟨b, o, none⟩) n cap)])) (Ex.loadA rfl T.ag24 T.sz24 (i := 1) rfl (vs := [(.int .i64 sp), (.slice (some ⟨b, o, none⟩) n cap)]) rfl rfl) (by decide) ?_
 refine GL.step (Stp.callR (σ := Unit) (p := fun rz => True) (v := fun rz => (.int .i64 0)) (N := fun rz => []) (vs := [(.agg #[(.int .i64 sp), (.slice (some ⟨b, o, none⟩) n cap)])]) rfl rfl T.own39 (by decide) (fun wc hw => (by have h := ref_chk_p sp b o n cap ps wc (hps.later hw.1) hn (by have := hok.n4; omega); rw [hok.chk] at h; exact h))) (fun xq3 hq4 => ?_)
 refine GL.sg rfl (by decide) ?_
 refine GL.nil (GE.thenN (GC.seq (GC.seq (GC.region ?_))))
 refine GL.mv rfl (by decide) ?_
 refine GL.val (v := (.bool false)) (Ex.cast (Ex.neq rfl rfl) rfl) (by decide) ?_
 refine GL.nil (GE.thenN ?_)
 refine GC.cond rfl (fun hq5 => by cases hq5) (fun _ => ?_)
 refine GC.skip (GE.thenN (GC.seq (GC.seq (GC.region ?_))))
 refine GL.mv rfl (by decide) ?_
 by_cases hq6 : k < (-1)
 ·refine GL.val (v := (.bool true)) (Ex.cast (Ex.lss rfl rfl) (congrArg Value.bool (decide_eq_true hq6))) (by decide) ?_
  refine GL.mv rfl (by decide) ?_
  refine GL.skipG (tj := 26) rfl rfl rfl (by decide) ?_
  refine GL.skipG (tj := 26) rfl rfl rfl (by decide) ?_
  refine GL.skipG (tj := 26) rfl rfl rfl (by decide) ?_
  refine GL.skipG (tj := 26) rfl rfl rfl (by decide) ?_
  refine GL.skipG (tj := 26) rfl rfl rfl (by decide) ?_
  refine GL.val (v := (.bool true)) (Ex.pickT rfl rfl) (by decide) ?_
  refine GL.nil (GE.thenN ?_)
  refine GC.cond rfl (fun _ => ?_) (fun hq7 => by cases hq7)
  refine GC.seq (GC.region ?_)
  refine GL.val (v := (.agg #[(.int .i64 0), (.slice none 0 0)])) (Ex.build (vs := []) rfl (by first | rfl | kernel_rfl)) (by decide) ?_
  refine GL.step (Stp.st0 (cs' := [(.int .i64 0), (.slice none 0 0)]) rfl rfl rfl T.sz24 rfl rfl rfl) (fun _ _ => ?_)
  refine GL.sg rfl (by decide) ?_
  refine GL.sg rfl (by decide) ?_
  refine GL.nil (GE.thenN (GC.ret (GE.thenR ?_)))
  refine GC.ret3 rfl (Rv.cellA rfl T.ag24 T.sz24 (L := _) (i := 0) rfl (vs := [(.int .i64 0), (.slice none 0 0)]) rfl rfl) (Rv.tmp rfl) (Rv.tmp rfl) (fun wN HN => ?_)
  exact HN.ret () trivial rfl (List.nil_sublist _) rfl
 ·refine GL.val (v := (.bool false)) (Ex.cast (Ex.lss rfl rfl) (congrArg Value.bool (decide_eq_false hq6))) (by decide) ?_
  refine GL.mv rfl (by decide) ?_
  refine GL.stepG (tj := 26) rfl rfl (Ex.wp (v := (.int .i64 k)) (Ex.move rfl) (by decide)) (fun _ _ => ?_)
  refine GL.stepG (tj := 26) rfl rfl (Ex.wp (v := (.pointer (some ⟨bq1, 1, none⟩))) (Ex.cast (Ex.fieldAddr rfl Tryz.underlying24 rfl T.sz22 (by decide)) rfl) (by decide)) (fun _ _ => ?_)
  refine GL.stepG (tj := 26) rfl rfl (Ex.wp (v := (.slice (some ⟨b, o, none⟩) n cap)) (Ex.load rfl T.ag22 (i := 1) rfl rfl) (by decide)) (fun _ _ => ?_)
  refine GL.stepG (tj := 26) rfl rfl (Ex.wp (v := (.int .i64 ((n : Int)))) (Ex.len rfl Tryz.underlying22) (by decide)) (fun _ _ => ?_)
  refine GL.stepG (tj := 26) rfl rfl (Ex.wp (v := (.bool true)) (Ex.cast (Ex.geq rfl rfl) (congrArg Value.bool (decide_eq_true (by omega)))) (by decide)) (fun _ _ => ?_)
  refine GL.val (v := (.bool true)) (Ex.pickF rfl rfl) (by decide) ?_
  refine GL.nil (GE.thenN ?_)
  refine GC.cond rfl (fun _ => ?_) (fun hq8 => by cases hq8)
  refine GC.seq (GC.region ?_)
  refine GL.val (v := (.agg #[(.int .i64 0), (.slice none 0 0)])) (Ex.build (vs := []) rfl (by first | rfl | kernel_rfl)) (by decide) ?_
  refine GL.step (Stp.st0 (cs' := [(.int .i64 0), (.slice none 0 0)]) rfl rfl rfl T.sz24 rfl rfl rfl) (fun _ _ => ?_)
  refine GL.sg rfl (by decide) ?_
  refine GL.sg rfl (by decide) ?_
  refine GL.nil (GE.thenN (GC.ret (GE.thenR ?_)))
  refine GC.ret3 rfl (Rv.cellA rfl T.ag24 T.sz24 (L := _) (i := 0) rfl (vs := [(.int .i64 0), (.slice none 0 0)]) rfl rfl) (Rv.tmp rfl) (Rv.tmp rfl) (fun wN HN => ?_)
  exact HN.ret () trivial rfl (List.nil_sublist _) rfl

theorem refa_bad (sp : Int) (ad : Option Addr) (n cap : Nat) (ps : List Pn) (k add : Int) (w : World) (hps : PnsA w ad ps) (hn : n = ps.length) (hnb : n ≤ 35184372087808) (hc : chkP sp ps ≠ 0) :
  Calls Tryz.prog 19 #[(.agg #[(.int .i64 sp), (.slice ad n cap)]), (.int .i64 k), (.int .u32 add)] w (Ret w (fun _ : Unit => True) (fun _ => .tuple #[(.agg #[(.int .i64 0), (.slice none 0 0)]), (.slice none 0 0), .int .i64 ((chkP sp ps))]) (fun _ => [])) := by
 refine enter (M := None) (L := []) (n := 16) (l := [(0, (.agg #[(.int .i64 sp), (.slice ad n cap)])), (1, (.int .i64 k)), (2, (.int .u32 add))]) Tryz.func19 rfl rfl (Args.cons rfl (Args.cons rfl (Args.cons rfl (Args.nil _)))) (Hp.start _ _) ?_
 refine GC.seq (GC.region ?_)
 refine GL.step (Stp.box (cs := [(.int .i64 sp), (.slice ad n cap)]) rfl rfl (by decide)) (fun bq1 _ => ?_)
 refine GL.step (Stp.alloc T.zr24 (by decide)) (fun bq2 _ => ?_)
 refine GL.sg rfl (by decide) ?_
 refine GL.sg rfl (by decide) ?_
 refine GL.nil (GE.thenN (GC.seq (GC.region ?_)))
 refine GL.val (v := (.agg #[(.int .i64 sp), (.slice ad n cap)])) (Ex.loadA rfl T.ag24 T.sz24 (i := 1) rfl (vs := [(.int .i64 sp), (.slice ad n cap)]) rfl rfl) (by decide) ?_
 refine GL.mv rfl (by decide) ?_
 refine GL.mv rfl (by decide) ?_
 refine GL.step (Stp.callR (vs := [(.agg #[(.int .i64 sp), (.slice ad n cap)]), (.int .i64 k), (.int .i64 1), (.int .u32 add), (.int .u32 0)]) rfl rfl T.own59 (by decide) (fun wc hw => refm_bad sp ad n cap ps k add wc (hps.later hw.1) hn hnb hc)) (fun xq3 hq4 => ?_)
 refine GL.val (Ex.extract rfl rfl) (by decide) ?_
 refine GL.val (Ex.extract rfl rfl) (by decide) ?_
 refine GL.val (Ex.extract rfl rfl) (by decide) ?_
 refine GL.step (Stp.st0 (cs' := [(.int .i64 0), (.slice none 0 0)]) rfl rfl rfl T.sz24 rfl rfl rfl) (fun _ _ => ?_)
 refine GL.sg rfl (by decide) ?_
 refine GL.sg rfl (by decide) ?_
 refine GL.nil (GE.thenN (GC.ret ?_))
 refine GC.ret3 rfl (Rv.cellA rfl T.ag24 T.sz24 (L := _) (i := 0) rfl (vs := [(.int .i64 0), (.slice none 0 0)]) rfl rfl) (Rv.tmp rfl) (Rv.tmp rfl) (fun wN HN => ?_)
 exact HN.ret () trivial rfl (List.nil_sublist _) rfl

theorem refa_out (sp : Int) (b o n cap : Nat) (ps : List Pn) (W H : Nat) (k add : Int) (w : World) (hps : Pns w b o ps) (hn : n = ps.length) (hok : OkPic sp ps W H) (hk : ¬ (k = -1 ∨ (0 ≤ k ∧ k < ((n : Nat) : Int)))) :
  Calls Tryz.prog 19 #[(.agg #[(.int .i64 sp), (.slice (some ⟨b, o, none⟩) n cap)]), (.int .i64 k), (.int .u32 add)] w (Ret w (fun _ : Unit => True) (fun _ => .tuple #[(.agg #[(.int .i64 0), (.slice none 0 0)]), (.slice none 0 0), .int .i64 82]) (fun _ => [])) := by
 refine enter (M := None) (L := []) (n := 16) (l := [(0, (.agg #[(.int .i64 sp), (.slice (some ⟨b, o, none⟩) n cap)])), (1, (.int .i64 k)), (2, (.int .u32 add))]) Tryz.func19 rfl rfl (Args.cons rfl (Args.cons rfl (Args.cons rfl (Args.nil _)))) (Hp.start _ _) ?_
 refine GC.seq (GC.region ?_)
 refine GL.step (Stp.box (cs := [(.int .i64 sp), (.slice (some ⟨b, o, none⟩) n cap)]) rfl rfl (by decide)) (fun bq1 _ => ?_)
 refine GL.step (Stp.alloc T.zr24 (by decide)) (fun bq2 _ => ?_)
 refine GL.sg rfl (by decide) ?_
 refine GL.sg rfl (by decide) ?_
 refine GL.nil (GE.thenN (GC.seq (GC.region ?_)))
 refine GL.val (v := (.agg #[(.int .i64 sp), (.slice (some ⟨b, o, none⟩) n cap)])) (Ex.loadA rfl T.ag24 T.sz24 (i := 1) rfl (vs := [(.int .i64 sp), (.slice (some ⟨b, o, none⟩) n cap)]) rfl rfl) (by decide) ?_
 refine GL.mv rfl (by decide) ?_
 refine GL.mv rfl (by decide) ?_
 refine GL.step (Stp.callR (vs := [(.agg #[(.int .i64 sp), (.slice (some ⟨b, o, none⟩) n cap)]), (.int .i64 k), (.int .i64 1), (.int .u32 add), (.int .u32 0)]) rfl rfl T.own59 (by decide) (fun wc hw => refm_out sp b o n cap ps W H k add wc (hps.later hw.1) hn hok hk)) (fun xq3 hq4 => ?_)
 refine GL.val (Ex.extract rfl rfl) (by decide) ?_
 refine GL.val (Ex.extract rfl rfl) (by decide) ?_
 refine GL.val (Ex.extract rfl rfl) (by decide) ?_
 refine GL.step (Stp.st0 (cs' := [(.int .i64 0), (.slice none 0 0)]) rfl rfl rfl T.sz24 rfl rfl rfl) (fun _ _ => ?_)
 refine GL.sg rfl (by decide) ?_
 refine GL.sg rfl (by decide) ?_
 refine GL.nil (GE.thenN (GC.ret ?_))
 refine GC.ret3 rfl (Rv.cellA rfl T.ag24 T.sz24 (L := _) (i := 0) rfl (vs := [(.int .i64 0), (.slice none 0 0)]) rfl rfl) (Rv.tmp rfl) (Rv.tmp rfl) (fun wN HN => ?_)
 exact HN.ret () trivial rfl (List.nil_sublist _) rfl

theorem refa_ok (sp : Int) (b o n cap : Nat) (ps : List Pn) (W H : Nat) (A : Nat) (k add : Int) (w : World) (hps : Pns w b o ps) (hn : n = ps.length) (hok : OkPic sp ps W H) (hA : A = W * H) (hAb : A ≤ 65536) (hqf : ∀ i, (mpA k ps i).length ≤ 65536) (hk : k = -1 ∨ (0 ≤ k ∧ k < ((n : Nat) : Int))) :
  Calls Tryz.prog 19 #[(.agg #[(.int .i64 sp), (.slice (some ⟨b, o, none⟩) n cap)]), (.int .i64 k), (.int .u32 add)] w (Ret w (fun r : Aw × Ac => r.1.Ok ∧ r.1.xs = asks (mpA k ps) n ∧ r.2.qs ≠ [] ∧ r.2.ds = (List.range n).map (mpG (adU add) k ps) ∧ r.2.Ok ∧ ∀ q ∈ r.2.qs, q.Ok) (fun r => (.tuple #[(.agg #[(.int .i64 sp), (.slice r.2.ad r.2.n r.2.cp)]), (.slice r.1.ad r.1.n r.1.cp), (.int .i64 0)])) (fun r => (r.2.row 75 ++ (r.1.row 52 ++ (r.2.qs.map (Nq.blk 52) ++ []))))) := by
 refine enter (M := None) (L := []) (n := 16) (l := [(0, (.agg #[(.int .i64 sp), (.slice (some ⟨b, o, none⟩) n cap)])), (1, (.int .i64 k)), (2, (.int .u32 add))]) Tryz.func19 rfl rfl (Args.cons rfl (Args.cons rfl (Args.cons rfl (Args.nil _)))) (Hp.start _ _) ?_
 refine GC.seq (GC.region ?_)
 refine GL.step (Stp.box (cs := [(.int .i64 sp), (.slice (some ⟨b, o, none⟩) n cap)]) rfl rfl (by decide)) (fun bq1 _ => ?_)
 refine GL.step (Stp.alloc T.zr24 (by decide)) (fun bq2 _ => ?_)
 refine GL.sg rfl (by decide) ?_
 refine GL.sg rfl (by decide) ?_
 refine GL.nil (GE.thenN (GC.seq (GC.region ?_)))
 refine GL.val (v := (.agg #[(.int .i64 sp), (.slice (some ⟨b, o, none⟩) n cap)])) (Ex.loadA rfl T.ag24 T.sz24 (i := 1) rfl (vs := [(.int .i64 sp), (.slice (some ⟨b, o, none⟩) n cap)]) rfl rfl) (by decide) ?_
 refine GL.mv rfl (by decide) ?_
 refine GL.mv rfl (by decide) ?_
 refine GL.step (Stp.call (vs := [(.agg #[(.int .i64 sp), (.slice (some ⟨b, o, none⟩) n cap)]), (.int .i64 k), (.int .i64 1), (.int .u32 add), (.int .u32 0)]) rfl rfl T.own59 (by decide) (fun wc hw => (Ret.frm (L' := fun x => (⟨bq2, [(.int .i64 0), (.slice none 0 0)], 24, true⟩ :: ⟨bq1, [(.int .i64 sp), (.slice (some ⟨b, o, none⟩) n cap)], 24, true⟩ :: ((x.2.row 75 ++ (x.1.row 52 ++ (x.2.qs.map (Nq.blk 52) ++ []))) ++ ([] : List Blk)))) hw (ref_mapped sp b o n cap ps W H A k add wc (hps.later hw.1) hn hok hA hAb hqf hk) (fun x w' _ h => by exact Hp.segsT (T := ([] : List Blk)) (A := [(x.2.row 75 ++ (x.1.row 52 ++ (x.2.qs.map (Nq.blk 52) ++ []))), [⟨bq2, [(.int .i64 0), (.slice none 0 0)], 24, true⟩, ⟨bq1, [(.int .i64 sp), (.slice (some ⟨b, o, none⟩) n cap)], 24, true⟩]]) (idx := [1, 0]) 2 [] h rfl (by decide) rfl)))) (fun xq3 hq4 => ?_)
 refine GL.val (Ex.extract rfl rfl) (by decide) ?_
 refine GL.val (Ex.extract rfl rfl) (by decide) ?_
 refine GL.val (Ex.extract rfl rfl) (by decide) ?_
 refine GL.step (Stp.st0 (cs' := [(.int .i64 sp), (.slice xq3.2.ad xq3.2.n xq3.2.cp)]) rfl rfl rfl T.sz24 rfl rfl rfl) (fun _ _ => ?_)
 refine GL.sg rfl (by decide) ?_
 refine GL.sg rfl (by decide) ?_
 refine GL.nil (GE.thenN (GC.ret ?_))
 refine GC.ret3 rfl (Rv.cellA rfl T.ag24 T.sz24 (L := _) (i := 0) rfl (vs := [(.int .i64 sp), (.slice xq3.2.ad xq3.2.n xq3.2.cp)]) rfl rfl) (Rv.tmp rfl) (Rv.tmp rfl) (fun wN HN => ?_)
 exact HN.ret xq3 hq4 rfl (List.Sublist.trans (List.sublist_append_left (xq3.2.row 75 ++ (xq3.1.row 52 ++ (xq3.2.qs.map (Nq.blk 52) ++ []))) []) ((ulS (ulS ulR)))) (by rw [List.all_append, List.all_append, List.all_append, Ac.row_own, Aw.row_own, Nq.own]; rfl)

theorem mapF_u (w0 : World) (R : List Blk) (Z : List Blk) (hb pb : Nat) (a : Aw) (add : Int) (sp : Int) (b o n cap : Nat) (ps : List Pn) (W H : Nat) (k : Int) (w : World) (hps : ∀ w', Hv Z w' → Pns w' b o ps) (hn : n = ps.length) (hok : OkPic sp ps W H) (ha : a.Ok) (han : a.n ≤ 500000) (hqf : ∀ i, (mpA k ps i).length ≤ 65536) (hadd : ∀ w', Hv Z w' → w'.cell? ⟨pb, 0, none⟩ = some (.int .u32 add)) (hk : k = -1 ∨ (0 ≤ k ∧ k < ((n : Nat) : Int))) (hp0 : Hp None w0 ((a.ask hb 53 52) ++ (Z ++ R)) w) :
  Calls Tryz.prog 17 #[(.agg #[(.int .i64 sp), (.slice (some ⟨b, o, none⟩) n cap)]), .int .i64 k, (.func (.func 18) #[] #[(.pointer (some ⟨hb, 0, none⟩)), (.pointer (some ⟨pb, 0, none⟩))])] w (Frm (σ := Aw × Ac) None w0 (fun x => x.1.Ok ∧ x.1.xs = a.xs ++ asks (mpA k ps) n ∧ x.2.qs ≠ [] ∧ x.2.ds = (List.range n).map (mpG (adU add) k ps) ∧ x.2.Ok ∧ ∀ q ∈ x.2.qs, q.Ok) (fun x => .tuple #[(.agg #[(.int .i64 sp), (.slice x.2.ad x.2.n x.2.cp)]), .int .i64 0]) (fun x => ((x.2.row 75) ++ ((x.2.qs.map (Nq.blk 52)) ++ ((x.1.ask hb 53 52) ++ (Z ++ R)))))) := by
 by_cases h1 : k = -1
 ·exact mapF_all w0 R Z hb pb a add sp b o n cap ps W H k w hps hn hok ha han hqf hadd h1 hp0
 ·exact mapF_one w0 R Z hb pb a add sp b o n cap ps W H k w hps hn hok ha han hqf hadd ⟨h1, by omega⟩ hp0

theorem maps_bad (sp : Int) (ad : Option Addr) (n cap : Nat) (ps : List Pn) (k add : Int) (w : World) (hps : PnsA w ad ps) (hn : n = ps.length) (hnb : n ≤ 3600000000000) (hc : chkP sp ps ≠ 0) :
  Calls Tryz.prog 4 #[(.agg #[(.int .i64 sp), (.slice ad n cap)]), (.int .i64 k), (.int .u32 add)] w (Ret w (fun _ : Unit => True) (fun _ => .bool true) (fun _ => [])) := by
 refine enter (M := None) (L := []) (n := 55) (l := [(0, (.agg #[(.int .i64 sp), (.slice ad n cap)])), (1, (.int .i64 k)), (2, (.int .u32 add))]) Tryz.func4 rfl rfl (Args.cons rfl (Args.cons rfl (Args.cons rfl (Args.nil _)))) (Hp.start _ _) ?_
 refine GC.seq (GC.region ?_)
 refine GL.step (Stp.box (cs := [(.int .i64 sp), (.slice ad n cap)]) rfl rfl (by decide)) (fun bq1 _ => ?_)
 refine GL.step (Stp.box (cs := [(.int .u32 add)]) rfl rfl (by decide)) (fun bq2 _ => ?_)
 refine GL.sg rfl (by decide) ?_
 refine GL.nil (GE.thenN (GC.seq (GC.seq (GC.region ?_))))
 refine GL.step (Stp.callR (vs := []) rfl rfl T.own6 (by decide) (fun wc hw => known wc)) (fun xq3 hq4 => ?_)
 refine GL.val (v := (.bool false)) (Ex.cast (Ex.not rfl) rfl) (by decide) ?_
 refine GL.nil (GE.thenN ?_)
 refine GC.cond rfl (fun hq5 => by cases hq5) (fun _ => ?_)
 refine GC.skip (GE.thenN (GC.seq (GC.region ?_)))
 refine GL.val (v := (.agg #[(.slice none 0 0), (.slice none 0 0), (.slice none 0 0), (.slice none 0 0), (.slice none 0 0), (.slice none 0 0), (.slice none 0 0), (.slice none 0 0)])) (Ex.build (vs := []) rfl (by first | rfl | kernel_rfl)) (by decide) ?_
 refine GL.step (Stp.box (cs := [(.slice none 0 0), (.slice none 0 0), (.slice none 0 0), (.slice none 0 0), (.slice none 0 0), (.slice none 0 0), (.slice none 0 0), (.slice none 0 0)]) rfl rfl (by decide)) (fun bq6 _ => ?_)
 refine GL.sg rfl (by decide) ?_
 refine GL.nil (GE.thenN (GC.seq ?_))
 refine GC.hp (L2 := (⟨bq2, [(.int .u32 add)], 52, true⟩ :: ⟨bq1, [(.int .i64 sp), (.slice ad n cap)], 24, true⟩ :: (((Rm.no bq6)).blks 39 53 52 ++ []))) (fun w h => by exact Hp.segsT (T := []) (A := [[⟨bq6, [(.slice none 0 0), (.slice none 0 0), (.slice none 0 0), (.slice none 0 0), (.slice none 0 0), (.slice none 0 0), (.slice none 0 0), (.slice none 0 0)], 39, true⟩], [⟨bq2, [(.int .u32 add)], 52, true⟩], [⟨bq1, [(.int .i64 sp), (.slice ad n cap)], 24, true⟩]]) (idx := [1, 2, 0]) 3 [] h rfl (by decide) rfl) ?_
 refine GC.region ?_
 refine GL.mv rfl (by decide) ?_
 refine GL.val (v := (.agg #[(.int .i64 sp), (.slice ad n cap)])) (Ex.loadA rfl T.ag24 T.sz24 (i := 1) rfl (vs := [(.int .i64 sp), (.slice ad n cap)]) rfl rfl) (by decide) ?_
 refine GL.step (Stp.call (vs := [(.pointer (some ⟨bq6, 0, none⟩)), (.agg #[(.int .i64 sp), (.slice ad n cap)])]) rfl rfl T.own7 (by decide) (fun wc hw => (lend w ([⟨bq2, [(.int .u32 add)], 52, true⟩] ++ ([⟨bq1, [(.int .i64 sp), (.slice ad n cap)], 24, true⟩] ++ [])) sp bq6 n cap ad ps wc hps hn hnb (by exact Hp.segsT (T := []) (A := [[⟨bq2, [(.int .u32 add)], 52, true⟩], [⟨bq1, [(.int .i64 sp), (.slice ad n cap)], 24, true⟩], ((Rm.no bq6)).blks 39 53 52]) (idx := [2, 0, 1]) 3 [] hw rfl (by decide) rfl)).mono fun e w' ⟨x, he, hp, h⟩ => ⟨x, he, hp, (by exact Hp.segsT (T := []) (A := [lentB 75 ps x, x.1.blks 39 53 52, [⟨bq2, [(.int .u32 add)], 52, true⟩], [⟨bq1, [(.int .i64 sp), (.slice ad n cap)], 24, true⟩]]) (idx := [2, 3, 0, 1]) 4 [] h rfl (by decide) rfl)⟩)) (fun xq7 hq8 => ?_)
 have hXl : xq7.1.its.length = ps.length := hq8.2.2.2.trans hn
 have hlk : (lpl xq7.1.its ps).map Pn.k = ps.map Pn.k := lpl_k hXl
 have hll : n = (lpl xq7.1.its ps).length := by rw [lpl_len]; exact hq8.2.2.2.symm
 refine GL.step (Stp.alloc T.zr24 (by decide)) (fun bq9 _ => ?_)
 refine GL.step (Stp.st0 (cs' := [(.int .i64 sp), (.slice (some ⟨xq7.2, 0, none⟩) n (n + 5))]) rfl rfl rfl T.sz24 rfl rfl rfl) (fun _ _ => ?_)
 refine GL.nil (GE.thenN (GC.seq (GC.region ?_)))
 refine GL.step (Stp.alloc T.zr53 (by decide)) (fun bq10 _ => ?_)
 refine GL.nil (GE.thenN (GC.seq (GC.region ?_)))
 refine GL.val (v := (.agg #[(.int .i64 sp), (.slice (some ⟨xq7.2, 0, none⟩) n (n + 5))])) (Ex.loadA rfl T.ag24 T.sz24 (i := 1) rfl (vs := [(.int .i64 sp), (.slice (some ⟨xq7.2, 0, none⟩) n (n + 5))]) rfl rfl) (by decide) ?_
 refine GL.mv rfl (by decide) ?_
 refine GL.val (v := (.func (.func 18) #[] #[(.pointer (some ⟨bq10, 0, none⟩)), (.pointer (some ⟨bq2, 0, none⟩))])) (Ex.func (cs := [(.pointer (some ⟨bq10, 0, none⟩)), (.pointer (some ⟨bq2, 0, none⟩))]) rfl (fun _ hF => hF.evals _ _ rfl)) (by decide) ?_
 refine GL.step (Stp.callR (σ := Unit) (p := fun rz => True) (v := fun rz => (.tuple #[(.agg #[(.int .i64 0), (.slice none 0 0)]), (.int .i64 ((chkP sp ps)))])) (N := fun rz => []) (vs := [(.agg #[(.int .i64 sp), (.slice (some ⟨xq7.2, 0, none⟩) n (n + 5))]), (.int .i64 k), (.func (.func 18) #[] #[(.pointer (some ⟨bq10, 0, none⟩)), (.pointer (some ⟨bq2, 0, none⟩))])]) rfl rfl T.own17 (by decide) (fun wc hw => (by have h := map_bad sp (some ⟨xq7.2, 0, none⟩) n (n + 5) (lpl xq7.1.its ps) k bq10 bq2 wc (lent_a (its := xq7.1.its) (ob := xq7.2) hq8.2.2.1 hps.2 (fun t ht => ht) (Hp.seg (T := []) (A := [[_, _, _, _], lentB 75 ps xq7, xq7.1.blks 39 53 52]) hw 2 rfl) (Hp.seg (T := []) (A := [[_, _, _, _], lentB 75 ps xq7, xq7.1.blks 39 53 52]) hw 1 rfl)) hll (by omega) (by rw [chkP_k hlk]; exact hc); rw [chkP_k hlk] at h; exact h))) (fun xq11 hq12 => ?_)
 refine GL.mv rfl (by decide) ?_
 refine GL.val (Ex.extract rfl rfl) (by decide) ?_
 refine GL.val (Ex.extract rfl rfl) (by decide) ?_
 refine GL.step (Stp.alloc T.zr24 (by decide)) (fun bq13 _ => ?_)
 refine GL.step (Stp.st0 (cs' := [(.int .i64 0), (.slice none 0 0)]) rfl rfl rfl T.sz24 rfl rfl rfl) (fun _ _ => ?_)
 refine GL.sg rfl (by decide) ?_
 refine GL.nil (GE.thenN (GC.seq (GC.region ?_)))
 refine GL.val (v := (.agg #[(.int .i64 sp), (.slice ad n cap)])) (Ex.loadA rfl T.ag24 T.sz24 (i := 4) rfl (vs := [(.int .i64 sp), (.slice ad n cap)]) rfl rfl) (by decide) ?_
 refine GL.mv rfl (by decide) ?_
 refine GL.val (Ex.load rfl T.ag52 (i := 3) rfl rfl) (by decide) ?_
 refine GL.step (Stp.callR (vs := [(.agg #[(.int .i64 sp), (.slice ad n cap)]), (.int .i64 k), (.int .u32 add)]) rfl rfl T.own19 (by decide) (fun wc hw => refa_bad sp ad n cap ps k add wc (hps.later hw.1) hn (by omega) hc)) (fun xq14 hq15 => ?_)
 refine GL.mv rfl (by decide) ?_
 refine GL.val (Ex.extract rfl rfl) (by decide) ?_
 refine GL.val (Ex.extract rfl rfl) (by decide) ?_
 refine GL.val (Ex.extract rfl rfl) (by decide) ?_
 refine GL.step (Stp.alloc T.zr24 (by decide)) (fun bq16 _ => ?_)
 refine GL.step (Stp.st0 (cs' := [(.int .i64 0), (.slice none 0 0)]) rfl rfl rfl T.sz24 rfl rfl rfl) (fun _ _ => ?_)
 refine GL.sg rfl (by decide) ?_
 refine GL.sg rfl (by decide) ?_
 refine GL.nil (GE.thenN (GC.seq (GC.region ?_)))
 refine GL.mv rfl (by decide) ?_
 refine GL.step (Stp.callR (vs := [(.int .i64 ((chkP sp ps)))]) rfl rfl T.own20 (by decide) (fun wc hw => num ((chkP sp ps)) wc (chkP_r _ _))) (fun xq17 hq18 => ?_)
 refine GL.mv rfl (by decide) ?_
 refine GL.val (v := (.bool true)) (Ex.cast (Ex.eql rfl rfl) (congrArg Value.bool (decide_eq_true (by rfl)))) (by decide) ?_
 refine GL.mv rfl (by decide) ?_
 refine GL.stepG (tj := 41) rfl rfl (Ex.wp (v := (.agg #[(.int .i64 0), (.slice none 0 0)])) (Ex.loadA rfl T.ag24 T.sz24 (i := 1) rfl (vs := [(.int .i64 0), (.slice none 0 0)]) rfl rfl) (by decide)) (fun _ _ => ?_)
 refine GL.stepG (tj := 41) rfl rfl (Ex.wp (v := (.agg #[(.int .i64 0), (.slice none 0 0)])) (Ex.loadA rfl T.ag24 T.sz24 (i := 0) rfl (vs := [(.int .i64 0), (.slice none 0 0)]) rfl rfl) (by decide)) (fun _ _ => ?_)
 refine GL.stepG (tj := 41) rfl rfl (Stp.callR (vs := [(.agg #[(.int .i64 0), (.slice none 0 0)]), (.agg #[(.int .i64 0), (.slice none 0 0)])]) rfl rfl T.own21 (by decide) (fun wc hw => pic_eq_0 0 none none 0 0 wc)) (fun xq19 hq20 => ?_)
 refine GL.val (v := (.bool true)) (Ex.pickT rfl rfl) (by decide) ?_
 refine GL.mv rfl (by decide) ?_
 refine GL.stepG (tj := 46) rfl rfl (Ex.wp (v := (.slice none 0 0)) (Ex.load rfl T.ag53 (i := 2) rfl rfl) (by decide)) (fun _ _ => ?_)
 refine GL.stepG (tj := 46) rfl rfl (Ex.wp (v := (.slice none 0 0)) (Ex.move rfl) (by decide)) (fun _ _ => ?_)
 refine GL.stepG (tj := 46) rfl rfl (Stp.callR (vs := [(.slice none 0 0), (.slice none 0 0)]) rfl rfl T.own22 (by decide) (fun wc hw => words_0 none none 0 0 wc)) (fun xq21 hq22 => ?_)
 refine GL.val (v := (.bool true)) (Ex.pickT rfl rfl) (by decide) ?_
 refine GL.mv rfl (by decide) ?_
 refine GL.stepG (tj := 51) rfl rfl (Ex.wp (v := (.pointer (some ⟨bq6, 0, none⟩))) (Ex.move rfl) (by decide)) (fun _ _ => ?_)
 refine GL.stepG (tj := 51) rfl rfl (Stp.callR (σ := Unit) (p := fun rz => True) (v := fun rz => (.bool true)) (N := fun rz => []) (vs := [(.pointer (some ⟨bq6, 0, none⟩))]) rfl rfl T.own16 (by decide) (fun wc hw => (by exact rm_hold xq7.1 wc bq6 hq8.2.1 hq8.1 (by rw [hq8.2.2.2]; omega) (Hp.seg (T := []) (A := [[_, _, _, _, _, _], lentB 75 ps xq7, xq7.1.blks 39 53 52]) hw 2 rfl)))) (fun xq23 hq24 => ?_)
 refine GL.val (v := (.bool true)) (Ex.pickT rfl rfl) (by decide) ?_
 refine GL.sg rfl (by decide) ?_
 refine GL.nil (GE.thenN (GC.ret ?_))
 refine GC.ret1 rfl (Rv.tmp rfl) (fun wN HN => ?_)
 exact HN.ret () trivial rfl (List.nil_sublist _) rfl

theorem maps_out (sp : Int) (b o n cap : Nat) (ps : List Pn) (W H : Nat) (k add : Int) (w : World) (hps : Pns w b o ps) (hn : n = ps.length) (hok : OkPic sp ps W H) (hnb : n ≤ 3600000000000) (hk : ¬ (k = -1 ∨ (0 ≤ k ∧ k < ((n : Nat) : Int)))) :
  Calls Tryz.prog 4 #[(.agg #[(.int .i64 sp), (.slice (some ⟨b, o, none⟩) n cap)]), (.int .i64 k), (.int .u32 add)] w (Ret w (fun _ : Unit => True) (fun _ => .bool true) (fun _ => [])) := by
 have hn0 := hok.n0
 refine enter (M := None) (L := []) (n := 55) (l := [(0, (.agg #[(.int .i64 sp), (.slice (some ⟨b, o, none⟩) n cap)])), (1, (.int .i64 k)), (2, (.int .u32 add))]) Tryz.func4 rfl rfl (Args.cons rfl (Args.cons rfl (Args.cons rfl (Args.nil _)))) (Hp.start _ _) ?_
 refine GC.seq (GC.region ?_)
 refine GL.step (Stp.box (cs := [(.int .i64 sp), (.slice (some ⟨b, o, none⟩) n cap)]) rfl rfl (by decide)) (fun bq1 _ => ?_)
 refine GL.step (Stp.box (cs := [(.int .u32 add)]) rfl rfl (by decide)) (fun bq2 _ => ?_)
 refine GL.sg rfl (by decide) ?_
 refine GL.nil (GE.thenN (GC.seq (GC.seq (GC.region ?_))))
 refine GL.step (Stp.callR (vs := []) rfl rfl T.own6 (by decide) (fun wc hw => known wc)) (fun xq3 hq4 => ?_)
 refine GL.val (v := (.bool false)) (Ex.cast (Ex.not rfl) rfl) (by decide) ?_
 refine GL.nil (GE.thenN ?_)
 refine GC.cond rfl (fun hq5 => by cases hq5) (fun _ => ?_)
 refine GC.skip (GE.thenN (GC.seq (GC.region ?_)))
 refine GL.val (v := (.agg #[(.slice none 0 0), (.slice none 0 0), (.slice none 0 0), (.slice none 0 0), (.slice none 0 0), (.slice none 0 0), (.slice none 0 0), (.slice none 0 0)])) (Ex.build (vs := []) rfl (by first | rfl | kernel_rfl)) (by decide) ?_
 refine GL.step (Stp.box (cs := [(.slice none 0 0), (.slice none 0 0), (.slice none 0 0), (.slice none 0 0), (.slice none 0 0), (.slice none 0 0), (.slice none 0 0), (.slice none 0 0)]) rfl rfl (by decide)) (fun bq6 _ => ?_)
 refine GL.sg rfl (by decide) ?_
 refine GL.nil (GE.thenN (GC.seq ?_))
 refine GC.hp (L2 := (⟨bq2, [(.int .u32 add)], 52, true⟩ :: ⟨bq1, [(.int .i64 sp), (.slice (some ⟨b, o, none⟩) n cap)], 24, true⟩ :: (((Rm.no bq6)).blks 39 53 52 ++ []))) (fun w h => by exact Hp.segsT (T := []) (A := [[⟨bq6, [(.slice none 0 0), (.slice none 0 0), (.slice none 0 0), (.slice none 0 0), (.slice none 0 0), (.slice none 0 0), (.slice none 0 0), (.slice none 0 0)], 39, true⟩], [⟨bq2, [(.int .u32 add)], 52, true⟩], [⟨bq1, [(.int .i64 sp), (.slice (some ⟨b, o, none⟩) n cap)], 24, true⟩]]) (idx := [1, 2, 0]) 3 [] h rfl (by decide) rfl) ?_
 refine GC.region ?_
 refine GL.mv rfl (by decide) ?_
 refine GL.val (v := (.agg #[(.int .i64 sp), (.slice (some ⟨b, o, none⟩) n cap)])) (Ex.loadA rfl T.ag24 T.sz24 (i := 1) rfl (vs := [(.int .i64 sp), (.slice (some ⟨b, o, none⟩) n cap)]) rfl rfl) (by decide) ?_
 refine GL.step (Stp.call (vs := [(.pointer (some ⟨bq6, 0, none⟩)), (.agg #[(.int .i64 sp), (.slice (some ⟨b, o, none⟩) n cap)])]) rfl rfl T.own7 (by decide) (fun wc hw => (lend w ([⟨bq2, [(.int .u32 add)], 52, true⟩] ++ ([⟨bq1, [(.int .i64 sp), (.slice (some ⟨b, o, none⟩) n cap)], 24, true⟩] ++ [])) sp bq6 n cap (some ⟨b, o, none⟩) ps wc hps.a hn hnb (by exact Hp.segsT (T := []) (A := [[⟨bq2, [(.int .u32 add)], 52, true⟩], [⟨bq1, [(.int .i64 sp), (.slice (some ⟨b, o, none⟩) n cap)], 24, true⟩], ((Rm.no bq6)).blks 39 53 52]) (idx := [2, 0, 1]) 3 [] hw rfl (by decide) rfl)).mono fun e w' ⟨x, he, hp, h⟩ => ⟨x, he, hp, (by exact Hp.segsT (T := []) (A := [lentB 75 ps x, x.1.blks 39 53 52, [⟨bq2, [(.int .u32 add)], 52, true⟩], [⟨bq1, [(.int .i64 sp), (.slice (some ⟨b, o, none⟩) n cap)], 24, true⟩]]) (idx := [2, 3, 0, 1]) 4 [] h rfl (by decide) rfl)⟩)) (fun xq7 hq8 => ?_)
 have hXl : xq7.1.its.length = ps.length := hq8.2.2.2.trans hn
 have hlk : (lpl xq7.1.its ps).map Pn.k = ps.map Pn.k := lpl_k hXl
 have hll : n = (lpl xq7.1.its ps).length := by rw [lpl_len]; exact hq8.2.2.2.symm
 obtain ⟨W', H', hok'⟩ := chkP_zero (show chkP sp (lpl xq7.1.its ps) = 0 by rw [chkP_k hlk]; exact hok.chk)
 refine GL.step (Stp.alloc T.zr24 (by decide)) (fun bq9 _ => ?_)
 refine GL.step (Stp.st0 (cs' := [(.int .i64 sp), (.slice (some ⟨xq7.2, 0, none⟩) n (n + 5))]) rfl rfl rfl T.sz24 rfl rfl rfl) (fun _ _ => ?_)
 refine GL.nil (GE.thenN (GC.seq (GC.region ?_)))
 refine GL.step (Stp.alloc T.zr53 (by decide)) (fun bq10 _ => ?_)
 refine GL.nil (GE.thenN (GC.seq (GC.region ?_)))
 refine GL.val (v := (.agg #[(.int .i64 sp), (.slice (some ⟨xq7.2, 0, none⟩) n (n + 5))])) (Ex.loadA rfl T.ag24 T.sz24 (i := 1) rfl (vs := [(.int .i64 sp), (.slice (some ⟨xq7.2, 0, none⟩) n (n + 5))]) rfl rfl) (by decide) ?_
 refine GL.mv rfl (by decide) ?_
 refine GL.val (v := (.func (.func 18) #[] #[(.pointer (some ⟨bq10, 0, none⟩)), (.pointer (some ⟨bq2, 0, none⟩))])) (Ex.func (cs := [(.pointer (some ⟨bq10, 0, none⟩)), (.pointer (some ⟨bq2, 0, none⟩))]) rfl (fun _ hF => hF.evals _ _ rfl)) (by decide) ?_
 refine GL.step (Stp.callR (σ := Unit) (p := fun rz => True) (v := fun rz => (.tuple #[(.agg #[(.int .i64 0), (.slice none 0 0)]), (.int .i64 82)])) (N := fun rz => []) (vs := [(.agg #[(.int .i64 sp), (.slice (some ⟨xq7.2, 0, none⟩) n (n + 5))]), (.int .i64 k), (.func (.func 18) #[] #[(.pointer (some ⟨bq10, 0, none⟩)), (.pointer (some ⟨bq2, 0, none⟩))])]) rfl rfl T.own17 (by decide) (fun wc hw => (by exact map_out sp xq7.2 0 n (n + 5) (lpl xq7.1.its ps) W' H' k bq10 bq2 wc (PnsA.addr (lent_a (its := xq7.1.its) (ob := xq7.2) hq8.2.2.1 hps.ok (fun t ht => ht) (Hp.seg (T := []) (A := [[_, _, _, _], lentB 75 ps xq7, xq7.1.blks 39 53 52]) hw 2 rfl) (Hp.seg (T := []) (A := [[_, _, _, _], lentB 75 ps xq7, xq7.1.blks 39 53 52]) hw 1 rfl)) (by rw [← hll]; omega)) hll hok' hk))) (fun xq11 hq12 => ?_)
 refine GL.mv rfl (by decide) ?_
 refine GL.val (Ex.extract rfl rfl) (by decide) ?_
 refine GL.val (Ex.extract rfl rfl) (by decide) ?_
 refine GL.step (Stp.alloc T.zr24 (by decide)) (fun bq13 _ => ?_)
 refine GL.step (Stp.st0 (cs' := [(.int .i64 0), (.slice none 0 0)]) rfl rfl rfl T.sz24 rfl rfl rfl) (fun _ _ => ?_)
 refine GL.sg rfl (by decide) ?_
 refine GL.nil (GE.thenN (GC.seq (GC.region ?_)))
 refine GL.val (v := (.agg #[(.int .i64 sp), (.slice (some ⟨b, o, none⟩) n cap)])) (Ex.loadA rfl T.ag24 T.sz24 (i := 4) rfl (vs := [(.int .i64 sp), (.slice (some ⟨b, o, none⟩) n cap)]) rfl rfl) (by decide) ?_
 refine GL.mv rfl (by decide) ?_
 refine GL.val (Ex.load rfl T.ag52 (i := 3) rfl rfl) (by decide) ?_
 refine GL.step (Stp.callR (vs := [(.agg #[(.int .i64 sp), (.slice (some ⟨b, o, none⟩) n cap)]), (.int .i64 k), (.int .u32 add)]) rfl rfl T.own19 (by decide) (fun wc hw => refa_out sp b o n cap ps W H k add wc (hps.later hw.1) hn hok hk)) (fun xq14 hq15 => ?_)
 refine GL.mv rfl (by decide) ?_
 refine GL.val (Ex.extract rfl rfl) (by decide) ?_
 refine GL.val (Ex.extract rfl rfl) (by decide) ?_
 refine GL.val (Ex.extract rfl rfl) (by decide) ?_
 refine GL.step (Stp.alloc T.zr24 (by decide)) (fun bq16 _ => ?_)
 refine GL.step (Stp.st0 (cs' := [(.int .i64 0), (.slice none 0 0)]) rfl rfl rfl T.sz24 rfl rfl rfl) (fun _ _ => ?_)
 refine GL.sg rfl (by decide) ?_
 refine GL.sg rfl (by decide) ?_
 refine GL.nil (GE.thenN (GC.seq (GC.region ?_)))
 refine GL.mv rfl (by decide) ?_
 refine GL.step (Stp.callR (vs := [(.int .i64 82)]) rfl rfl T.own20 (by decide) (fun wc hw => num 82 wc (by decide))) (fun xq17 hq18 => ?_)
 refine GL.mv rfl (by decide) ?_
 refine GL.val (v := (.bool true)) (Ex.cast (Ex.eql rfl rfl) rfl) (by decide) ?_
 refine GL.mv rfl (by decide) ?_
 refine GL.stepG (tj := 41) rfl rfl (Ex.wp (v := (.agg #[(.int .i64 0), (.slice none 0 0)])) (Ex.loadA rfl T.ag24 T.sz24 (i := 1) rfl (vs := [(.int .i64 0), (.slice none 0 0)]) rfl rfl) (by decide)) (fun _ _ => ?_)
 refine GL.stepG (tj := 41) rfl rfl (Ex.wp (v := (.agg #[(.int .i64 0), (.slice none 0 0)])) (Ex.loadA rfl T.ag24 T.sz24 (i := 0) rfl (vs := [(.int .i64 0), (.slice none 0 0)]) rfl rfl) (by decide)) (fun _ _ => ?_)
 refine GL.stepG (tj := 41) rfl rfl (Stp.callR (vs := [(.agg #[(.int .i64 0), (.slice none 0 0)]), (.agg #[(.int .i64 0), (.slice none 0 0)])]) rfl rfl T.own21 (by decide) (fun wc hw => pic_eq_0 0 none none 0 0 wc)) (fun xq19 hq20 => ?_)
 refine GL.val (v := (.bool true)) (Ex.pickT rfl rfl) (by decide) ?_
 refine GL.mv rfl (by decide) ?_
 refine GL.stepG (tj := 46) rfl rfl (Ex.wp (v := (.slice none 0 0)) (Ex.load rfl T.ag53 (i := 2) rfl rfl) (by decide)) (fun _ _ => ?_)
 refine GL.stepG (tj := 46) rfl rfl (Ex.wp (v := (.slice none 0 0)) (Ex.move rfl) (by decide)) (fun _ _ => ?_)
 refine GL.stepG (tj := 46) rfl rfl (Stp.callR (vs := [(.slice none 0 0), (.slice none 0 0)]) rfl rfl T.own22 (by decide) (fun wc hw => words_0 none none 0 0 wc)) (fun xq21 hq22 => ?_)
 refine GL.val (v := (.bool true)) (Ex.pickT rfl rfl) (by decide) ?_
 refine GL.mv rfl (by decide) ?_
 refine GL.stepG (tj := 51) rfl rfl (Ex.wp (v := (.pointer (some ⟨bq6, 0, none⟩))) (Ex.move rfl) (by decide)) (fun _ _ => ?_)
 refine GL.stepG (tj := 51) rfl rfl (Stp.callR (σ := Unit) (p := fun rz => True) (v := fun rz => (.bool true)) (N := fun rz => []) (vs := [(.pointer (some ⟨bq6, 0, none⟩))]) rfl rfl T.own16 (by decide) (fun wc hw => (by exact rm_hold xq7.1 wc bq6 hq8.2.1 hq8.1 (by rw [hq8.2.2.2]; omega) (Hp.seg (T := []) (A := [[_, _, _, _, _, _], lentB 75 ps xq7, xq7.1.blks 39 53 52]) hw 2 rfl)))) (fun xq23 hq24 => ?_)
 refine GL.val (v := (.bool true)) (Ex.pickT rfl rfl) (by decide) ?_
 refine GL.sg rfl (by decide) ?_
 refine GL.nil (GE.thenN (GC.ret ?_))
 refine GC.ret1 rfl (Rv.tmp rfl) (fun wN HN => ?_)
 exact HN.ret () trivial rfl (List.nil_sublist _) rfl

theorem maps_ok (sp : Int) (b o n cap : Nat) (ps : List Pn) (W H : Nat) (k add : Int) (w : World) (hps : Pns w b o ps) (hn : n = ps.length) (hok : OkPic sp ps W H) (hnb : n ≤ 3600000000000) (hk : k = -1 ∨ (0 ≤ k ∧ k < ((n : Nat) : Int))) :
  Calls Tryz.prog 4 #[(.agg #[(.int .i64 sp), (.slice (some ⟨b, o, none⟩) n cap)]), (.int .i64 k), (.int .u32 add)] w (Ret w (fun _ : Unit => True) (fun _ => .bool true) (fun _ => [])) := by
 have hn0 := hok.n0
 refine enter (M := None) (L := []) (n := 55) (l := [(0, (.agg #[(.int .i64 sp), (.slice (some ⟨b, o, none⟩) n cap)])), (1, (.int .i64 k)), (2, (.int .u32 add))]) Tryz.func4 rfl rfl (Args.cons rfl (Args.cons rfl (Args.cons rfl (Args.nil _)))) (Hp.start _ _) ?_
 refine GC.seq (GC.region ?_)
 refine GL.step (Stp.box (cs := [(.int .i64 sp), (.slice (some ⟨b, o, none⟩) n cap)]) rfl rfl (by decide)) (fun bq1 _ => ?_)
 refine GL.step (Stp.box (cs := [(.int .u32 add)]) rfl rfl (by decide)) (fun bq2 _ => ?_)
 refine GL.sg rfl (by decide) ?_
 refine GL.nil (GE.thenN (GC.seq (GC.seq (GC.region ?_))))
 refine GL.step (Stp.callR (vs := []) rfl rfl T.own6 (by decide) (fun wc hw => known wc)) (fun xq3 hq4 => ?_)
 refine GL.val (v := (.bool false)) (Ex.cast (Ex.not rfl) rfl) (by decide) ?_
 refine GL.nil (GE.thenN ?_)
 refine GC.cond rfl (fun hq5 => by cases hq5) (fun _ => ?_)
 refine GC.skip (GE.thenN (GC.seq (GC.region ?_)))
 refine GL.val (v := (.agg #[(.slice none 0 0), (.slice none 0 0), (.slice none 0 0), (.slice none 0 0), (.slice none 0 0), (.slice none 0 0), (.slice none 0 0), (.slice none 0 0)])) (Ex.build (vs := []) rfl (by first | rfl | kernel_rfl)) (by decide) ?_
 refine GL.step (Stp.box (cs := [(.slice none 0 0), (.slice none 0 0), (.slice none 0 0), (.slice none 0 0), (.slice none 0 0), (.slice none 0 0), (.slice none 0 0), (.slice none 0 0)]) rfl rfl (by decide)) (fun bq6 _ => ?_)
 refine GL.sg rfl (by decide) ?_
 refine GL.nil (GE.thenN (GC.seq ?_))
 refine GC.hp (L2 := (⟨bq2, [(.int .u32 add)], 52, true⟩ :: ⟨bq1, [(.int .i64 sp), (.slice (some ⟨b, o, none⟩) n cap)], 24, true⟩ :: (((Rm.no bq6)).blks 39 53 52 ++ []))) (fun w h => by exact Hp.segsT (T := []) (A := [[⟨bq6, [(.slice none 0 0), (.slice none 0 0), (.slice none 0 0), (.slice none 0 0), (.slice none 0 0), (.slice none 0 0), (.slice none 0 0), (.slice none 0 0)], 39, true⟩], [⟨bq2, [(.int .u32 add)], 52, true⟩], [⟨bq1, [(.int .i64 sp), (.slice (some ⟨b, o, none⟩) n cap)], 24, true⟩]]) (idx := [1, 2, 0]) 3 [] h rfl (by decide) rfl) ?_
 refine GC.region ?_
 refine GL.mv rfl (by decide) ?_
 refine GL.val (v := (.agg #[(.int .i64 sp), (.slice (some ⟨b, o, none⟩) n cap)])) (Ex.loadA rfl T.ag24 T.sz24 (i := 1) rfl (vs := [(.int .i64 sp), (.slice (some ⟨b, o, none⟩) n cap)]) rfl rfl) (by decide) ?_
 refine GL.step (Stp.call (vs := [(.pointer (some ⟨bq6, 0, none⟩)), (.agg #[(.int .i64 sp), (.slice (some ⟨b, o, none⟩) n cap)])]) rfl rfl T.own7 (by decide) (fun wc hw => (lend w ([⟨bq2, [(.int .u32 add)], 52, true⟩] ++ ([⟨bq1, [(.int .i64 sp), (.slice (some ⟨b, o, none⟩) n cap)], 24, true⟩] ++ [])) sp bq6 n cap (some ⟨b, o, none⟩) ps wc hps.a hn hnb (by exact Hp.segsT (T := []) (A := [[⟨bq2, [(.int .u32 add)], 52, true⟩], [⟨bq1, [(.int .i64 sp), (.slice (some ⟨b, o, none⟩) n cap)], 24, true⟩], ((Rm.no bq6)).blks 39 53 52]) (idx := [2, 0, 1]) 3 [] hw rfl (by decide) rfl)).mono fun e w' ⟨x, he, hp, h⟩ => ⟨x, he, hp, (by exact Hp.segsT (T := []) (A := [lentB 75 ps x, x.1.blks 39 53 52, [⟨bq2, [(.int .u32 add)], 52, true⟩], [⟨bq1, [(.int .i64 sp), (.slice (some ⟨b, o, none⟩) n cap)], 24, true⟩]]) (idx := [2, 3, 0, 1]) 4 [] h rfl (by decide) rfl)⟩)) (fun xq7 hq8 => ?_)
 have hXl : xq7.1.its.length = ps.length := hq8.2.2.2.trans hn
 have hlk : (lpl xq7.1.its ps).map Pn.k = ps.map Pn.k := lpl_k hXl
 have hll : n = (lpl xq7.1.its ps).length := by rw [lpl_len]; exact hq8.2.2.2.symm
 obtain ⟨W', H', hok'⟩ := chkP_zero (show chkP sp (lpl xq7.1.its ps) = 0 by rw [chkP_k hlk]; exact hok.chk)
 refine GL.step (Stp.alloc T.zr24 (by decide)) (fun bq9 _ => ?_)
 refine GL.step (Stp.st0 (cs' := [(.int .i64 sp), (.slice (some ⟨xq7.2, 0, none⟩) n (n + 5))]) rfl rfl rfl T.sz24 rfl rfl rfl) (fun _ _ => ?_)
 refine GL.nil (GE.thenN (GC.seq (GC.region ?_)))
 refine GL.step (Stp.alloc T.zr53 (by decide)) (fun bq10 _ => ?_)
 refine GL.nil (GE.thenN (GC.seq ?_))
 refine GC.hp (L2 := (⟨bq9, [(.int .i64 sp), (.slice (some ⟨xq7.2, 0, none⟩) n (n + 5))], 24, true⟩ :: ⟨bq1, [(.int .i64 sp), (.slice (some ⟨b, o, none⟩) n cap)], 24, true⟩ :: ((Aw.no.ask bq10 53 52) ++ ((addB bq2 add 52 ++ (lentB 75 ps xq7 ++ xq7.1.blks 39 53 52)) ++ [])))) (fun w h => by have h2 : Hp _ _ (flatT [[⟨bq9, [(.int .i64 sp), (.slice (some ⟨xq7.2, 0, none⟩) n (n + 5))], 24, true⟩], [⟨bq1, [(.int .i64 sp), (.slice (some ⟨b, o, none⟩) n cap)], 24, true⟩], [⟨bq10, [(.slice none 0 0)], 53, true⟩], [⟨bq2, [(.int .u32 add)], 52, true⟩], lentB 75 ps xq7, xq7.1.blks 39 53 52] []) w := Hp.segsT (T := []) (A := [[⟨bq10, [(.slice none 0 0)], 53, true⟩], [⟨bq9, [(.int .i64 sp), (.slice (some ⟨xq7.2, 0, none⟩) n (n + 5))], 24, true⟩], [⟨bq2, [(.int .u32 add)], 52, true⟩], [⟨bq1, [(.int .i64 sp), (.slice (some ⟨b, o, none⟩) n cap)], 24, true⟩], lentB 75 ps xq7, xq7.1.blks 39 53 52]) (idx := [1, 3, 0, 2, 4, 5]) 6 [] h rfl (by decide) rfl; simpa [flatT, List.append_assoc, Aw.ask, Aw.row, Aw.no, Aw.ad, Aw.n, Aw.cp, addB] using h2) ?_
 have hZl : ∀ w', Hv (addB bq2 add 52 ++ (lentB 75 ps xq7 ++ xq7.1.blks 39 53 52)) w' → PnsA w' (some ⟨xq7.2, 0, none⟩) (lpl xq7.1.its ps) := fun w' h => (lent_a (its := xq7.1.its) (ob := xq7.2) hq8.2.2.1 hps.ok (fun t ht => ht) h.r.r h.r.l)
 have hZp : ∀ w', Hv (addB bq2 add 52 ++ (lentB 75 ps xq7 ++ xq7.1.blks 39 53 52)) w' → Pns w' xq7.2 0 (lpl xq7.1.its ps) := fun w' h => PnsA.addr (hZl w' h) (by rw [← hll]; omega)
 have hZa : ∀ w', Hv (addB bq2 add 52 ++ (lentB 75 ps xq7 ++ xq7.1.blks 39 53 52)) w' → w'.cell? ⟨bq2, 0, none⟩ = some (.int .u32 add) := fun w' h => Rd.of_heap (h.l ⟨bq2, [.int .u32 add], 52, true⟩ (List.mem_singleton.2 rfl)) 0 _ rfl
 refine GC.region ?_
 refine GL.val (v := (.agg #[(.int .i64 sp), (.slice (some ⟨xq7.2, 0, none⟩) n (n + 5))])) (Ex.loadA rfl T.ag24 T.sz24 (i := 0) rfl (vs := [(.int .i64 sp), (.slice (some ⟨xq7.2, 0, none⟩) n (n + 5))]) rfl rfl) (by decide) ?_
 refine GL.mv rfl (by decide) ?_
 refine GL.val (v := (.func (.func 18) #[] #[(.pointer (some ⟨bq10, 0, none⟩)), (.pointer (some ⟨bq2, 0, none⟩))])) (Ex.func (cs := [(.pointer (some ⟨bq10, 0, none⟩)), (.pointer (some ⟨bq2, 0, none⟩))]) rfl (fun _ hF => hF.evals _ _ rfl)) (by decide) ?_
 refine GL.step (Stp.call (vs := [(.agg #[(.int .i64 sp), (.slice (some ⟨xq7.2, 0, none⟩) n (n + 5))]), (.int .i64 k), (.func (.func 18) #[] #[(.pointer (some ⟨bq10, 0, none⟩)), (.pointer (some ⟨bq2, 0, none⟩))])]) rfl rfl T.own17 (by decide) (fun wc hw => (mapF_u w ([⟨bq9, [(.int .i64 sp), (.slice (some ⟨xq7.2, 0, none⟩) n (n + 5))], 24, true⟩] ++ ([⟨bq1, [(.int .i64 sp), (.slice (some ⟨b, o, none⟩) n cap)], 24, true⟩] ++ [])) (addB bq2 add 52 ++ (lentB 75 ps xq7 ++ xq7.1.blks 39 53 52)) bq10 bq2 Aw.no add sp xq7.2 0 n (n + 5) (lpl xq7.1.its ps) W' H' k wc hZp hll hok' (Or.inl rfl) (by decide) (by rw [mpA_k hlk]; exact mpA_len hok hps.ok) hZa hk (by exact Hp.segsT (T := []) (A := [[⟨bq9, [(.int .i64 sp), (.slice (some ⟨xq7.2, 0, none⟩) n (n + 5))], 24, true⟩], [⟨bq1, [(.int .i64 sp), (.slice (some ⟨b, o, none⟩) n cap)], 24, true⟩], (Aw.no.ask bq10 53 52), (addB bq2 add 52 ++ (lentB 75 ps xq7 ++ xq7.1.blks 39 53 52))]) (idx := [2, 3, 0, 1]) 4 [] hw rfl (by decide) rfl)).mono fun e w' ⟨x, he, hp, h⟩ => ⟨x, he, hp, (by exact Hp.segsT (T := []) (A := [(x.2.row 75), (x.2.qs.map (Nq.blk 52)), (x.1.ask bq10 53 52), (addB bq2 add 52 ++ (lentB 75 ps xq7 ++ xq7.1.blks 39 53 52)), [⟨bq9, [(.int .i64 sp), (.slice (some ⟨xq7.2, 0, none⟩) n (n + 5))], 24, true⟩], [⟨bq1, [(.int .i64 sp), (.slice (some ⟨b, o, none⟩) n cap)], 24, true⟩]]) (idx := [4, 5, 0, 1, 2, 3]) 6 [] h rfl (by decide) rfl)⟩)) (fun xq11 hq12 => ?_)
 refine GL.mv rfl (by decide) ?_
 refine GL.val (Ex.extract rfl rfl) (by decide) ?_
 refine GL.val (Ex.extract rfl rfl) (by decide) ?_
 refine GL.step (Stp.alloc T.zr24 (by decide)) (fun bq13 _ => ?_)
 refine GL.step (Stp.st0 (cs' := [(.int .i64 sp), (.slice xq11.2.ad xq11.2.n xq11.2.cp)]) rfl rfl rfl T.sz24 rfl rfl rfl) (fun _ _ => ?_)
 refine GL.sg rfl (by decide) ?_
 refine GL.nil (GE.thenN (GC.seq (GC.region ?_)))
 refine GL.val (v := (.agg #[(.int .i64 sp), (.slice (some ⟨b, o, none⟩) n cap)])) (Ex.loadA rfl T.ag24 T.sz24 (i := 2) rfl (vs := [(.int .i64 sp), (.slice (some ⟨b, o, none⟩) n cap)]) rfl rfl) (by decide) ?_
 refine GL.mv rfl (by decide) ?_
 refine GL.val (v := (.int .u32 add)) (Ex.loadF rfl T.ag52 (fun w hw => hZa w (Hp.seg (T := []) (A := [[_, _, _], (xq11.2.row 75), (xq11.2.qs.map (Nq.blk 52)), (xq11.1.ask bq10 53 52), (addB bq2 add 52 ++ (lentB 75 ps xq7 ++ xq7.1.blks 39 53 52))]) hw 4 rfl))) (by decide) ?_
 refine GL.step (Stp.call (vs := [(.agg #[(.int .i64 sp), (.slice (some ⟨b, o, none⟩) n cap)]), (.int .i64 k), (.int .u32 add)]) rfl rfl T.own19 (by decide) (fun wc hw => (Ret.frm (L' := fun x => (⟨bq13, [(.int .i64 sp), (.slice xq11.2.ad xq11.2.n xq11.2.cp)], 24, true⟩ :: ⟨bq9, [(.int .i64 sp), (.slice (some ⟨xq7.2, 0, none⟩) n (n + 5))], 24, true⟩ :: ⟨bq1, [(.int .i64 sp), (.slice (some ⟨b, o, none⟩) n cap)], 24, true⟩ :: ((x.2.row 75 ++ (x.1.row 52 ++ (x.2.qs.map (Nq.blk 52) ++ []))) ++ ((xq11.2.row 75) ++ ((xq11.2.qs.map (Nq.blk 52)) ++ ((xq11.1.ask bq10 53 52) ++ ((addB bq2 add 52 ++ (lentB 75 ps xq7 ++ xq7.1.blks 39 53 52)) ++ []))))))) hw (refa_ok sp b o n cap ps W H (W * H) k add wc (hps.later hw.1) hn hok rfl hok.ok.2.2.2.2 (mpA_len hok hps.ok) hk) (fun x w' _ h => by exact Hp.segsT (T := []) (A := [(x.2.row 75 ++ (x.1.row 52 ++ (x.2.qs.map (Nq.blk 52) ++ []))), [⟨bq13, [(.int .i64 sp), (.slice xq11.2.ad xq11.2.n xq11.2.cp)], 24, true⟩, ⟨bq9, [(.int .i64 sp), (.slice (some ⟨xq7.2, 0, none⟩) n (n + 5))], 24, true⟩, ⟨bq1, [(.int .i64 sp), (.slice (some ⟨b, o, none⟩) n cap)], 24, true⟩], (xq11.2.row 75), (xq11.2.qs.map (Nq.blk 52)), (xq11.1.ask bq10 53 52), (addB bq2 add 52 ++ (lentB 75 ps xq7 ++ xq7.1.blks 39 53 52))]) (idx := [1, 0, 2, 3, 4, 5]) 6 [] h rfl (by decide) rfl)))) (fun xq14 hq15 => ?_)
 have hwe : xq11.1.xs = xq14.1.xs := by rw [hq12.2.1, hq15.2.1, mpA_k hlk]; rfl
 have hde : xq11.2.ds = xq14.2.ds := by rw [hq12.2.2.2.1, hq15.2.2.2.1, mpG_k hlk]
 refine GL.mv rfl (by decide) ?_
 refine GL.val (Ex.extract rfl rfl) (by decide) ?_
 refine GL.val (Ex.extract rfl rfl) (by decide) ?_
 refine GL.val (Ex.extract rfl rfl) (by decide) ?_
 refine GL.step (Stp.alloc T.zr24 (by decide)) (fun bq16 _ => ?_)
 refine GL.step (Stp.st0 (cs' := [(.int .i64 sp), (.slice xq14.2.ad xq14.2.n xq14.2.cp)]) rfl rfl rfl T.sz24 rfl rfl rfl) (fun _ _ => ?_)
 refine GL.sg rfl (by decide) ?_
 refine GL.sg rfl (by decide) ?_
 refine GL.nil (GE.thenN (GC.seq (GC.region ?_)))
 refine GL.mv rfl (by decide) ?_
 refine GL.step (Stp.callR (vs := [(.int .i64 0)]) rfl rfl T.own20 (by decide) (fun wc hw => num 0 wc (by decide))) (fun xq17 hq18 => ?_)
 refine GL.mv rfl (by decide) ?_
 refine GL.val (v := (.bool true)) (Ex.cast (Ex.eql rfl rfl) rfl) (by decide) ?_
 refine GL.mv rfl (by decide) ?_
 refine GL.stepG (tj := 41) rfl rfl (Ex.wp (v := (.agg #[(.int .i64 sp), (.slice xq11.2.ad xq11.2.n xq11.2.cp)])) (Ex.loadA rfl T.ag24 T.sz24 (i := 1) rfl (vs := [(.int .i64 sp), (.slice xq11.2.ad xq11.2.n xq11.2.cp)]) rfl rfl) (by decide)) (fun _ _ => ?_)
 refine GL.stepG (tj := 41) rfl rfl (Ex.wp (v := (.agg #[(.int .i64 sp), (.slice xq14.2.ad xq14.2.n xq14.2.cp)])) (Ex.loadA rfl T.ag24 T.sz24 (i := 0) rfl (vs := [(.int .i64 sp), (.slice xq14.2.ad xq14.2.n xq14.2.cp)]) rfl rfl) (by decide)) (fun _ _ => ?_)
 refine GL.stepG (tj := 41) rfl rfl (Stp.callR (σ := Unit) (p := fun rz => True) (v := fun rz => (.bool true)) (N := fun rz => []) (vs := [(.agg #[(.int .i64 sp), (.slice xq11.2.ad xq11.2.n xq11.2.cp)]), (.agg #[(.int .i64 sp), (.slice xq14.2.ad xq14.2.n xq14.2.cp)])]) rfl rfl T.own21 (by decide) (fun wc hw => (by
  have e1 : xq11.2.pl.map Pn.d = xq14.2.pl.map Pn.d := by rw [Ac.pl_d, Ac.pl_d, hde]
  have e2 : xq11.2.n = xq14.2.n := by rw [← Ac.ds_len, ← Ac.ds_len, hde]
  have e3 : xq11.2.n = n := by rw [← Ac.ds_len, hq12.2.2.2.1]; simp
  have h1 : PnR wc xq11.2.ad xq11.2.pl := Ac.r2 (Tp := 75) (Tu := 52) (Hp.seg (T := []) (A := [[_, _, _, _], (xq14.2.row 75 ++ (xq14.1.row 52 ++ (xq14.2.qs.map (Nq.blk 52) ++ []))), (xq11.2.row 75), (xq11.2.qs.map (Nq.blk 52)), (xq11.1.ask bq10 53 52), (addB bq2 add 52 ++ (lentB 75 ps xq7 ++ xq7.1.blks 39 53 52))]) hw 2 rfl) (Hp.seg (T := []) (A := [[_, _, _, _], (xq14.2.row 75 ++ (xq14.1.row 52 ++ (xq14.2.qs.map (Nq.blk 52) ++ []))), (xq11.2.row 75), (xq11.2.qs.map (Nq.blk 52)), (xq11.1.ask bq10 53 52), (addB bq2 add 52 ++ (lentB 75 ps xq7 ++ xq7.1.blks 39 53 52))]) hw 3 rfl) (by have e := hde.trans hq15.2.2.2.1; exact mpG_x hok hn hps.ok e)
  have h2 : PnR wc xq14.2.ad xq14.2.pl := Ac.r2 (Tp := 75) (Tu := 52) (Hv.l (Hp.seg (T := []) (A := [[_, _, _, _], (xq14.2.row 75 ++ (xq14.1.row 52 ++ (xq14.2.qs.map (Nq.blk 52) ++ []))), (xq11.2.row 75), (xq11.2.qs.map (Nq.blk 52)), (xq11.1.ask bq10 53 52), (addB bq2 add 52 ++ (lentB 75 ps xq7 ++ xq7.1.blks 39 53 52))]) hw 1 rfl)) (Hv.l (Hv.r (Hv.r (Hp.seg (T := []) (A := [[_, _, _, _], (xq14.2.row 75 ++ (xq14.1.row 52 ++ (xq14.2.qs.map (Nq.blk 52) ++ []))), (xq11.2.row 75), (xq11.2.qs.map (Nq.blk 52)), (xq11.1.ask bq10 53 52), (addB bq2 add 52 ++ (lentB 75 ps xq7 ++ xq7.1.blks 39 53 52))]) hw 1 rfl)))) (mpG_x hok hn hps.ok hq15.2.2.2.1)
  rw [← e2]
  exact pic_eq sp xq11.2.ad xq14.2.ad xq11.2.n xq11.2.cp xq14.2.cp xq11.2.pl xq14.2.pl wc (Ac.pl_len _).symm (by omega) e1 h1 h2))) (fun xq19 hq20 => ?_)
 refine GL.val (v := (.bool true)) (Ex.pickT rfl rfl) (by decide) ?_
 refine GL.mv rfl (by decide) ?_
 refine GL.stepG (tj := 46) rfl rfl (Ex.wp (v := (.slice xq11.1.ad xq11.1.n xq11.1.cp)) (Ex.loadF rfl T.ag53 (fun w hw => Rd.of_heap ((Hp.seg (T := []) (A := [[_, _, _, _], (xq14.2.row 75 ++ (xq14.1.row 52 ++ (xq14.2.qs.map (Nq.blk 52) ++ []))), (xq11.2.row 75), (xq11.2.qs.map (Nq.blk 52)), (xq11.1.ask bq10 53 52), (addB bq2 add 52 ++ (lentB 75 ps xq7 ++ xq7.1.blks 39 53 52))]) hw 4 rfl) _ (List.mem_cons_self ..)) 0 _ rfl)) (by decide)) (fun _ _ => ?_)
 refine GL.stepG (tj := 46) rfl rfl (Ex.wp (v := (.slice xq14.1.ad xq14.1.n xq14.1.cp)) (Ex.move rfl) (by decide)) (fun _ _ => ?_)
 refine GL.stepG (tj := 46) rfl rfl (Stp.callR (σ := Unit) (p := fun rz => True) (v := fun rz => (.bool true)) (N := fun rz => []) (vs := [(.slice xq11.1.ad xq11.1.n xq11.1.cp), (.slice xq14.1.ad xq14.1.n xq14.1.cp)]) rfl rfl T.own22 (by decide) (fun wc hw => (by
  have e2 : xq11.1.n = xq14.1.n := congrArg List.length hwe
  have h1 : LsR wc xq11.1.ad xq11.1.n xq11.1.xs := Aw.r (T := 52) (fun k hk => (Hp.seg (T := []) (A := [[_, _, _, _], (xq14.2.row 75 ++ (xq14.1.row 52 ++ (xq14.2.qs.map (Nq.blk 52) ++ []))), (xq11.2.row 75), (xq11.2.qs.map (Nq.blk 52)), (xq11.1.ask bq10 53 52), (addB bq2 add 52 ++ (lentB 75 ps xq7 ++ xq7.1.blks 39 53 52))]) hw 4 rfl) k (List.mem_cons_of_mem _ hk))
  have h2 : LsR wc xq14.1.ad xq14.1.n xq14.1.xs := Aw.r (T := 52) (Hv.l (Hv.r (Hp.seg (T := []) (A := [[_, _, _, _], (xq14.2.row 75 ++ (xq14.1.row 52 ++ (xq14.2.qs.map (Nq.blk 52) ++ []))), (xq11.2.row 75), (xq11.2.qs.map (Nq.blk 52)), (xq11.1.ask bq10 53 52), (addB bq2 add 52 ++ (lentB 75 ps xq7 ++ xq7.1.blks 39 53 52))]) hw 1 rfl)))
  rw [← hwe, ← e2] at h2
  rw [← e2]
  have hb : xq11.1.n ≤ 35184372087808 := by rw [e2]; show xq14.1.xs.length ≤ _; rw [hq15.2.1]; have h4 := asks_len (mpA_len (k := k) hok hps.ok) n; have h5 := hok.n4; have h6 : n * 65536 ≤ 4 * 65536 := Nat.mul_le_mul_right _ (by omega); omega
  exact words xq11.1.ad xq14.1.ad xq11.1.n xq11.1.cp xq14.1.cp xq11.1.xs wc h1 h2 hb))) (fun xq21 hq22 => ?_)
 refine GL.val (v := (.bool true)) (Ex.pickT rfl rfl) (by decide) ?_
 refine GL.mv rfl (by decide) ?_
 refine GL.stepG (tj := 51) rfl rfl (Ex.wp (v := (.pointer (some ⟨bq6, 0, none⟩))) (Ex.move rfl) (by decide)) (fun _ _ => ?_)
 refine GL.stepG (tj := 51) rfl rfl (Stp.callR (σ := Unit) (p := fun rz => True) (v := fun rz => (.bool true)) (N := fun rz => []) (vs := [(.pointer (some ⟨bq6, 0, none⟩))]) rfl rfl T.own16 (by decide) (fun wc hw => (by exact rm_hold xq7.1 wc bq6 hq8.2.1 hq8.1 (by rw [hq8.2.2.2]; omega) (Hv.r (Hv.r (Hp.seg (T := []) (A := [[_, _, _, _], (xq14.2.row 75 ++ (xq14.1.row 52 ++ (xq14.2.qs.map (Nq.blk 52) ++ []))), (xq11.2.row 75), (xq11.2.qs.map (Nq.blk 52)), (xq11.1.ask bq10 53 52), (addB bq2 add 52 ++ (lentB 75 ps xq7 ++ xq7.1.blks 39 53 52))]) hw 5 rfl)))))) (fun xq23 hq24 => ?_)
 refine GL.val (v := (.bool true)) (Ex.pickT rfl rfl) (by decide) ?_
 refine GL.sg rfl (by decide) ?_
 refine GL.nil (GE.thenN (GC.ret ?_))
 refine GC.ret1 rfl (Rv.tmp rfl) (fun wN HN => ?_)
 exact HN.ret () trivial rfl (List.nil_sublist _) rfl

theorem maps (sp : Int) (ad : Option Addr) (n cap : Nat) (ps : List Pn) (k add : Int) (w : World) (hps : PnsA w ad ps) (hn : n = ps.length) (hnb : n ≤ 3600000000000) : Calls Tryz.prog 4 #[(.agg #[(.int .i64 sp), (.slice ad n cap)]), .int .i64 k, .int .u32 add] w (Ret w (fun _ : Unit => True) (fun _ => .bool true) (fun _ => [])) := by
 by_cases hc : chkP sp ps = 0
 ·obtain ⟨W, H, hok⟩ := chkP_zero hc
  obtain ⟨b, o, rfl, hp⟩ := hps.at hok.n0
  by_cases hk : k = -1 ∨ (0 ≤ k ∧ k < ((n : Nat) : Int))
  ·exact maps_ok sp b o n cap ps W H k add w hp hn hok hnb hk
  ·exact maps_out sp b o n cap ps W H k add w hp hn hok hnb hk
 ·exact maps_bad sp ad n cap ps k add w hps hn hnb hc

end Go.Proofs.YtiikkhbmhojbaaaGreat.C
