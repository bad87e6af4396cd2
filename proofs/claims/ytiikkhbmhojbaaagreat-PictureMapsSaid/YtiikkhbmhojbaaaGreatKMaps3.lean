/- PictureMaps: what its code does, walked. -/
import Derived.Test.YtiikkhbmhojbaaaGreatKMaps2
namespace Go.Proofs.YtiikkhbmhojbaaaGreat.C
open Go Go.RowKit Sx
set_option linter.unusedVariables false
set_option maxRecDepth 100000
set_option maxHeartbeats 1000000
theorem triples_ok (sp : Int) (b o n cap : Nat) (ps : List Pn) (W H : Nat) (A : Nat) (fid : FuncId) (caps : Array Value) (f : Int → Int → Int → Int × Int × Int) (w : World) (hps : Pns w b o ps) (hn : n = ps.length) (hok : OkPic sp ps W H) (hA : A = W * H) (hn3 : 3 ≤ n) (hf : FnS3 Tryz.prog w fid caps (pAt ps 0).xs (pAt ps 1).xs (pAt ps 2).xs f) :
  Calls Tryz.prog 52 #[(.agg #[(.int .i64 sp), (.slice (some ⟨b, o, none⟩) n cap)]), (.func (.func fid) #[] caps)] w (Ret w (fun r : Ac => r.qs ≠ [] ∧ r.ds = ((List.range n).map (trD f ps A)) ∧ r.Ok ∧ ∀ q ∈ r.qs, q.Ok) (fun r => .tuple #[(.agg #[(.int .i64 sp), (.slice r.ad r.n r.cp)]), .int .i64 0]) (fun r => r.blks 75 52)) := by
 have hAb := hok.ok.2.2.2.2
 refine enter (M := None) (L := []) (n := 70) (l := [(0, (.agg #[(.int .i64 sp), (.slice (some ⟨b, o, none⟩) n cap)])), (1, (.func (.func fid) #[] caps))]) Tryz.func52 rfl rfl (Args.cons rfl (Args.cons rfl (Args.nil _))) (Hp.start _ _) ?_
 refine GC.seq (GC.region ?_)
 refine GL.step (Stp.box (cs := [(.int .i64 sp), (.slice (some ⟨b, o, none⟩) n cap)]) rfl rfl (by decide)) (fun bq1 _ => ?_)
 refine GL.step (Stp.alloc T.zr24 (by decide)) (fun bq2 _ => ?_)
 refine GL.sg rfl (by decide) ?_
 refine GL.nil (GE.thenN (GC.seq (GC.region ?_)))
 refine GL.val (v := (.agg #[(.int .i64 sp), (.slice (some ⟨b, o, none⟩) n cap)])) (Ex.loadA rfl T.ag24 T.sz24 (i := 1) rfl (vs := [(.int .i64 sp), (.slice (some ⟨b, o, none⟩) n cap)]) rfl rfl) (by decide) ?_
 refine GL.step (Stp.call (vs := [(.agg #[(.int .i64 sp), (.slice (some ⟨b, o, none⟩) n cap)]), (.func (.func 93) #[] #[])]) rfl rfl T.own36 (by decide) (fun wc hw => (Ret.frm (L' := fun x => (⟨bq2, [(.int .i64 0), (.slice none 0 0)], 24, true⟩ :: ⟨bq1, [(.int .i64 sp), (.slice (some ⟨b, o, none⟩) n cap)], 24, true⟩ :: (x.blks 75 52 ++ []))) hw (every_ok sp b o n cap ps W H 93 #[] (fun i => (pAt ps i).d) wc (hps.later hw.1) hn hok ⟨T.own93, fun i hi w' hk' => triples1 i W H (pAt ps i) w' hok.ok (hok.at hi) ((hps.ok _ (pAt_mem hi)).later (hw.1.trans hk' (fun _ _ h => h)))⟩) (fun x w' _ h => by exact Hp.segsD (A := [x.blks 75 52, [⟨bq2, [(.int .i64 0), (.slice none 0 0)], 24, true⟩, ⟨bq1, [(.int .i64 sp), (.slice (some ⟨b, o, none⟩) n cap)], 24, true⟩]]) (idx := [1, 0]) 2 [] h rfl (by decide) rfl)))) (fun xq3 hq4 => ?_)
 refine GL.mv rfl (by decide) ?_
 refine GL.val (Ex.extract rfl rfl) (by decide) ?_
 refine GL.val (Ex.extract rfl rfl) (by decide) ?_
 refine GL.step (Stp.alloc T.zr24 (by decide)) (fun bq5 _ => ?_)
 refine GL.step (Stp.st0 (cs' := [(.int .i64 sp), (.slice xq3.ad xq3.n xq3.cp)]) rfl rfl rfl T.sz24 rfl rfl rfl) (fun _ _ => ?_)
 refine GL.sg rfl (by decide) ?_
 refine GL.nil (GE.thenN (GC.seq (GC.seq (GC.region ?_))))
 refine GL.mv rfl (by decide) ?_
 refine GL.val (v := (.bool false)) (Ex.cast (Ex.neq rfl rfl) rfl) (by decide) ?_
 refine GL.nil (GE.thenN ?_)
 refine GC.cond rfl (fun hq6 => by cases hq6) (fun _ => ?_)
 refine GC.skip (GE.thenN (GC.seq ?_))
 have hnx : xq3.n = n := by rw [← Ac.ds_len, hq4.2.1]; simp
 rw [hnx]
 have hx0 : (pAt ps 0).xs.length = A := by rw [hA]; exact ((hps.ok _ (pAt_mem (show 0 < ps.length by omega))).1.1).trans (hok.at (by omega)).2.2
 have hx1 : (pAt ps 1).xs.length = A := by rw [hA]; exact ((hps.ok _ (pAt_mem (show 1 < ps.length by omega))).1.1).trans (hok.at (by omega)).2.2
 have hx2 : (pAt ps 2).xs.length = A := by rw [hA]; exact ((hps.ok _ (pAt_mem (show 2 < ps.length by omega))).1.1).trans (hok.at (by omega)).2.2
 obtain ⟨q0, q1, q2, rs, e3, d0, d1, d2, d3⟩ := three hq4.2.1 hn3
 obtain ⟨qs0, xb, xc, xsp⟩ := xq3
 dsimp only at e3
 subst e3
 obtain ⟨w0, h0, x0, b0, c0, s0⟩ := q0
 obtain ⟨ew0, eh0, ex0⟩ := Nq.d_eq d0
 dsimp only at ew0 eh0 ex0
 subst ew0 eh0 ex0
 obtain ⟨w1, h1, x1, b1, c1, s1⟩ := q1
 obtain ⟨ew1, eh1, ex1⟩ := Nq.d_eq d1
 dsimp only at ew1 eh1 ex1
 subst ew1 eh1 ex1
 obtain ⟨w2, h2, x2, b2, c2, s2⟩ := q2
 obtain ⟨ew2, eh2, ex2⟩ := Nq.d_eq d2
 dsimp only at ew2 eh2 ex2
 subst ew2 eh2 ex2
 have hrow : pcs ((⟨(pAt ps 0).W, (pAt ps 0).H, (pAt ps 0).xs, b0, c0, s0⟩ :: ⟨(pAt ps 1).W, (pAt ps 1).H, (pAt ps 1).xs, b1, c1, s1⟩ :: ⟨(pAt ps 2).W, (pAt ps 2).H, (pAt ps 2).xs, b2, c2, s2⟩ :: rs : List Nq).map Nq.pn) ++ xsp = [(.int .i64 ((pAt ps 0).W)), (.int .i64 ((pAt ps 0).H)), (.slice (some ⟨b0, 0, none⟩) A c0), (.int .i64 ((pAt ps 1).W)), (.int .i64 ((pAt ps 1).H)), (.slice (some ⟨b1, 0, none⟩) A c1), (.int .i64 ((pAt ps 2).W)), (.int .i64 ((pAt ps 2).H)), (.slice (some ⟨b2, 0, none⟩) A c2)] ++ (pcs (rs.map Nq.pn) ++ xsp) := by simp [pcs, Pn.cs, Nq.pn, hx0, hx1, hx2]
 refine GC.hp (L2 := (⟨bq5, [(.int .i64 sp), (.slice (some ⟨xb, 0, none⟩) n xc)], 24, true⟩ :: ⟨bq2, [(.int .i64 0), (.slice none 0 0)], 24, true⟩ :: ⟨bq1, [(.int .i64 sp), (.slice (some ⟨b, o, none⟩) n cap)], 24, true⟩ :: ⟨xb, [(.int .i64 ((pAt ps 0).W)), (.int .i64 ((pAt ps 0).H)), (.slice (some ⟨b0, 0, none⟩) A c0), (.int .i64 ((pAt ps 1).W)), (.int .i64 ((pAt ps 1).H)), (.slice (some ⟨b1, 0, none⟩) A c1), (.int .i64 ((pAt ps 2).W)), (.int .i64 ((pAt ps 2).H)), (.slice (some ⟨b2, 0, none⟩) A c2)] ++ (pcs (rs.map Nq.pn) ++ xsp), 75, true⟩ :: ⟨b0, (trL (fun k => (trF f ps k).1) (pAt ps 0).xs 0).map u32 ++ s0, 52, true⟩ :: ⟨b1, (trL (fun k => (trF f ps k).2.1) (pAt ps 1).xs 0).map u32 ++ s1, 52, true⟩ :: ⟨b2, (trL (fun k => (trF f ps k).2.2) (pAt ps 2).xs 0).map u32 ++ s2, 52, true⟩ :: (((rs.map (Nq.blk 52)) ++ []) ++ []))) (fun w h' => by rw [← hrow, trL_zero, trL_zero, trL_zero]; exact h') ?_
 refine GC.sub (l' := [(1, (.func (.func fid) #[] caps)), (4, (.pointer (some ⟨bq2, 0, none⟩))), (6, (.pointer (some ⟨bq5, 0, none⟩)))]) ((sub_cons rfl ((sub_cons rfl ((sub_cons rfl ((sub_nil _)))))))) ulR ?_
 refine GC.drawP (⟨bq5, [(.int .i64 sp), (.slice (some ⟨xb, 0, none⟩) n xc)], 24, true⟩ :: ⟨bq2, [(.int .i64 0), (.slice none 0 0)], 24, true⟩ :: ⟨bq1, [(.int .i64 sp), (.slice (some ⟨b, o, none⟩) n cap)], 24, true⟩ :: ⟨xb, [(.int .i64 ((pAt ps 0).W)), (.int .i64 ((pAt ps 0).H)), (.slice (some ⟨b0, 0, none⟩) A c0), (.int .i64 ((pAt ps 1).W)), (.int .i64 ((pAt ps 1).H)), (.slice (some ⟨b1, 0, none⟩) A c1), (.int .i64 ((pAt ps 2).W)), (.int .i64 ((pAt ps 2).H)), (.slice (some ⟨b2, 0, none⟩) A c2)] ++ (pcs (rs.map Nq.pn) ++ xsp), 75, true⟩ :: ⟨b0, (trL (fun k => (trF f ps k).1) (pAt ps 0).xs 0).map u32 ++ s0, 52, true⟩ :: ⟨b1, (trL (fun k => (trF f ps k).2.1) (pAt ps 1).xs 0).map u32 ++ s1, 52, true⟩ :: ⟨b2, (trL (fun k => (trF f ps k).2.2) (pAt ps 2).xs 0).map u32 ++ s2, 52, true⟩ :: (((rs.map (Nq.blk 52)) ++ []) ++ [])) T.mixed (by kernel_rfl) (by kernel_rfl) (fuel := 17) rfl rfl ?_
 refine GH.tk 0 (v := (.pointer (some ⟨bq5, 1, none⟩))) rfl (by kernel_rfl) (fun _ _ _ h => h) (Ex.cast (Ex.fieldAddr rfl Tryz.underlying24 rfl T.sz22 (by decide)) rfl) (ulC (ulC (ulC (ulC (ulC (ulC (ulC ulR))))))) (by decide) ?_
 refine GH.tk 1 (v := (.slice (some ⟨xb, 0, none⟩) n xc)) rfl (by kernel_rfl) (fun _ _ _ h => h) (Ex.load rfl T.ag22 (i := 0) rfl rfl) (ulC (ulC (ulC (ulC (ulC (ulC (ulC ulR))))))) (by decide) ?_
 refine GH.tk 2 (v := (.pointer (some ⟨xb, 0, none⟩))) rfl (by kernel_rfl) (fun _ _ _ h => h) (Ex.cast (Ex.indexAddr rfl rfl Tryz.underlying22 T.sz75 (by omega) (by omega)) rfl) (ulC (ulC (ulC (ulC (ulC (ulC (ulC ulR))))))) (by decide) ?_
 refine GH.tk 3 (v := (.pointer (some ⟨xb, 2, none⟩))) rfl (by kernel_rfl) (fun _ _ _ h => h) (Ex.cast (Ex.fieldAddr rfl Tryz.underlying75 rfl T.sz53 (by decide)) rfl) (ulC (ulC (ulC (ulC (ulC (ulC (ulC ulR))))))) (by decide) ?_
 refine GH.tk 4 (v := (.slice (some ⟨b0, 0, none⟩) A c0)) rfl (by kernel_rfl) (fun _ _ _ h => h) (Ex.load rfl T.ag53 (i := 3) rfl rfl) (ulC (ulC (ulC (ulC (ulC (ulC (ulC ulR))))))) (by decide) ?_
 refine GH.tk 5 (v := (.pointer (some ⟨bq5, 1, none⟩))) rfl (by kernel_rfl) (fun _ _ _ h => h) (Ex.cast (Ex.fieldAddr rfl Tryz.underlying24 rfl T.sz22 (by decide)) rfl) (ulC (ulC (ulC (ulC (ulC (ulC (ulC ulR))))))) (by decide) ?_
 refine GH.tk 6 (v := (.slice (some ⟨xb, 0, none⟩) n xc)) rfl (by kernel_rfl) (fun _ _ _ h => h) (Ex.load rfl T.ag22 (i := 0) rfl rfl) (ulC (ulC (ulC (ulC (ulC (ulC (ulC ulR))))))) (by decide) ?_
 refine GH.tk 7 (v := (.pointer (some ⟨xb, 3, none⟩))) rfl (by kernel_rfl) (fun _ _ _ h => h) (Ex.cast (Ex.indexAddr rfl rfl Tryz.underlying22 T.sz75 (by omega) (by omega)) rfl) (ulC (ulC (ulC (ulC (ulC (ulC (ulC ulR))))))) (by decide) ?_
 refine GH.tk 8 (v := (.pointer (some ⟨xb, 5, none⟩))) rfl (by kernel_rfl) (fun _ _ _ h => h) (Ex.cast (Ex.fieldAddr rfl Tryz.underlying75 rfl T.sz53 (by decide)) rfl) (ulC (ulC (ulC (ulC (ulC (ulC (ulC ulR))))))) (by decide) ?_
 refine GH.tk 9 (v := (.slice (some ⟨b1, 0, none⟩) A c1)) rfl (by kernel_rfl) (fun _ _ _ h => h) (Ex.load rfl T.ag53 (i := 3) rfl rfl) (ulC (ulC (ulC (ulC (ulC (ulC (ulC ulR))))))) (by decide) ?_
 refine GH.tk 10 (v := (.pointer (some ⟨bq5, 1, none⟩))) rfl (by kernel_rfl) (fun _ _ _ h => h) (Ex.cast (Ex.fieldAddr rfl Tryz.underlying24 rfl T.sz22 (by decide)) rfl) (ulC (ulC (ulC (ulC (ulC (ulC (ulC ulR))))))) (by decide) ?_
 refine GH.tk 11 (v := (.slice (some ⟨xb, 0, none⟩) n xc)) rfl (by kernel_rfl) (fun _ _ _ h => h) (Ex.load rfl T.ag22 (i := 0) rfl rfl) (ulC (ulC (ulC (ulC (ulC (ulC (ulC ulR))))))) (by decide) ?_
 refine GH.tk 12 (v := (.pointer (some ⟨xb, 6, none⟩))) rfl (by kernel_rfl) (fun _ _ _ h => h) (Ex.cast (Ex.indexAddr rfl rfl Tryz.underlying22 T.sz75 (by omega) (by omega)) rfl) (ulC (ulC (ulC (ulC (ulC (ulC (ulC ulR))))))) (by decide) ?_
 refine GH.tk 13 (v := (.pointer (some ⟨xb, 8, none⟩))) rfl (by kernel_rfl) (fun _ _ _ h => h) (Ex.cast (Ex.fieldAddr rfl Tryz.underlying75 rfl T.sz53 (by decide)) rfl) (ulC (ulC (ulC (ulC (ulC (ulC (ulC ulR))))))) (by decide) ?_
 refine GH.tk 14 (v := (.slice (some ⟨b2, 0, none⟩) A c2)) rfl (by kernel_rfl) (fun _ _ _ h => h) (Ex.load rfl T.ag53 (i := 3) rfl rfl) (ulC (ulC (ulC (ulC (ulC (ulC (ulC ulR))))))) (by decide) ?_
 refine GH.tk 15 (v := (.slice (some ⟨b0, 0, none⟩) A c0)) rfl (by kernel_rfl) (fun _ _ _ h => h) (Ex.assign rfl) (ulC (ulC (ulC (ulC (ulC (ulC (ulC ulR))))))) (by decide) ?_
 refine GH.tk 16 (v := (.slice (some ⟨b1, 0, none⟩) A c1)) rfl (by kernel_rfl) (fun _ _ _ h => h) (Ex.assign rfl) (ulC (ulC (ulC (ulC (ulC (ulC (ulC ulR))))))) (by decide) ?_
 refine GH.done (by kernel_rfl) ?_
 refine GE.thenN ?_
 refine GE.tail rfl (Ex.wp (v := (.slice (some ⟨b2, 0, none⟩) A c2)) (Ex.assign rfl) (by decide)) (fun _ _ => ?_)
 refine GE.thenN (GC.seq (GC.seq (GC.region ?_)))
 refine GL.mv rfl (by decide) ?_
 refine GL.val (v := (.int .i64 ((A : Int)))) (Ex.len rfl Tryz.underlying53) (by decide) ?_
 refine GL.mv rfl (by decide) ?_
 refine GL.nil (GE.thenN (GC.block ?_))
 refine GC.loop (σ := Nat) (fun k => k ≤ A) (fun k => [(1, (.func (.func fid) #[] caps)), (4, (.pointer (some ⟨bq2, 0, none⟩))), (6, (.pointer (some ⟨bq5, 0, none⟩))), (8, (.slice (some ⟨b0, 0, none⟩) A c0)), (9, (.slice (some ⟨b1, 0, none⟩) A c1)), (10, (.slice (some ⟨b2, 0, none⟩) A c2)), (37, (.int .i64 ((A : Int)))), (38, (.int .i64 (((k : Nat) : Int))))]) (fun k => (⟨bq5, [(.int .i64 sp), (.slice (some ⟨xb, 0, none⟩) n xc)], 24, true⟩ :: ⟨bq2, [(.int .i64 0), (.slice none 0 0)], 24, true⟩ :: ⟨bq1, [(.int .i64 sp), (.slice (some ⟨b, o, none⟩) n cap)], 24, true⟩ :: ⟨xb, [(.int .i64 ((pAt ps 0).W)), (.int .i64 ((pAt ps 0).H)), (.slice (some ⟨b0, 0, none⟩) A c0), (.int .i64 ((pAt ps 1).W)), (.int .i64 ((pAt ps 1).H)), (.slice (some ⟨b1, 0, none⟩) A c1), (.int .i64 ((pAt ps 2).W)), (.int .i64 ((pAt ps 2).H)), (.slice (some ⟨b2, 0, none⟩) A c2)] ++ (pcs (rs.map Nq.pn) ++ xsp), 75, true⟩ :: ⟨b0, (trL (fun k => (trF f ps k).1) (pAt ps 0).xs k).map u32 ++ s0, 52, true⟩ :: ⟨b1, (trL (fun k => (trF f ps k).2.1) (pAt ps 1).xs k).map u32 ++ s1, 52, true⟩ :: ⟨b2, (trL (fun k => (trF f ps k).2.2) (pAt ps 2).xs k).map u32 ++ s2, 52, true⟩ :: (((rs.map (Nq.blk 52)) ++ []) ++ []))) (fun k => A - k) (0) (Nat.zero_le _) ((sub_cons rfl ((sub_cons rfl ((sub_cons rfl ((sub_cons rfl ((sub_cons rfl ((sub_cons rfl ((sub_cons rfl ((sub_cons rfl ((sub_nil _)))))))))))))))))) (ulC (ulC (ulC (ulC (ulC (ulC (ulC ulR))))))) (fun k hp => ?_)
 refine GC.seq (GC.region ?_)
 refine GL.val (v := (.bool (decide ((((k : Nat) : Int)) < ((A : Int)))))) (Ex.lss rfl rfl) (by decide) ?_
 refine GL.nil (GE.thenN (GC.seq ?_))
 refine GC.cond rfl (fun hq7 => ?_) (fun hq7 => ?_)
 ·replace hq7 := of_decide_eq_true hq7
  refine GC.skip (GE.thenN (GC.seq (GC.block (GC.seq (GC.region ?_)))))
  refine GL.mv rfl (by decide) ?_
  refine GL.sg rfl (by decide) ?_
  refine GL.nil (GE.thenN ?_)
  refine GC.join (σ := Unit) (fun j => True) (fun j => [(1, (.func (.func fid) #[] caps)), (4, (.pointer (some ⟨bq2, 0, none⟩))), (6, (.pointer (some ⟨bq5, 0, none⟩))), (8, (.slice (some ⟨b0, 0, none⟩) A c0)), (9, (.slice (some ⟨b1, 0, none⟩) A c1)), (10, (.slice (some ⟨b2, 0, none⟩) A c2)), (37, (.int .i64 ((A : Int)))), (38, (.int .i64 (((k : Nat) : Int)))), (39, (.bool (decide ((((k : Nat) : Int)) < ((A : Int)))))), (40, (.int .i64 (((k : Nat) : Int))))]) (fun j => (⟨bq5, [(.int .i64 sp), (.slice (some ⟨xb, 0, none⟩) n xc)], 24, true⟩ :: ⟨bq2, [(.int .i64 0), (.slice none 0 0)], 24, true⟩ :: ⟨bq1, [(.int .i64 sp), (.slice (some ⟨b, o, none⟩) n cap)], 24, true⟩ :: ⟨xb, [(.int .i64 ((pAt ps 0).W)), (.int .i64 ((pAt ps 0).H)), (.slice (some ⟨b0, 0, none⟩) A c0), (.int .i64 ((pAt ps 1).W)), (.int .i64 ((pAt ps 1).H)), (.slice (some ⟨b1, 0, none⟩) A c1), (.int .i64 ((pAt ps 2).W)), (.int .i64 ((pAt ps 2).H)), (.slice (some ⟨b2, 0, none⟩) A c2)] ++ (pcs (rs.map Nq.pn) ++ xsp), 75, true⟩ :: ⟨b0, (trL (fun k => (trF f ps k).1) (pAt ps 0).xs (k + 1)).map u32 ++ s0, 52, true⟩ :: ⟨b1, (trL (fun k => (trF f ps k).2.1) (pAt ps 1).xs (k + 1)).map u32 ++ s1, 52, true⟩ :: ⟨b2, (trL (fun k => (trF f ps k).2.2) (pAt ps 2).xs (k + 1)).map u32 ++ s2, 52, true⟩ :: (((rs.map (Nq.blk 52)) ++ []) ++ []))) ?_ (fun j20 hj => ?_)
  ·refine GC.drawP (⟨bq5, [(.int .i64 sp), (.slice (some ⟨xb, 0, none⟩) n xc)], 24, true⟩ :: ⟨bq2, [(.int .i64 0), (.slice none 0 0)], 24, true⟩ :: ⟨bq1, [(.int .i64 sp), (.slice (some ⟨b, o, none⟩) n cap)], 24, true⟩ :: ⟨xb, [(.int .i64 ((pAt ps 0).W)), (.int .i64 ((pAt ps 0).H)), (.slice (some ⟨b0, 0, none⟩) A c0), (.int .i64 ((pAt ps 1).W)), (.int .i64 ((pAt ps 1).H)), (.slice (some ⟨b1, 0, none⟩) A c1), (.int .i64 ((pAt ps 2).W)), (.int .i64 ((pAt ps 2).H)), (.slice (some ⟨b2, 0, none⟩) A c2)] ++ (pcs (rs.map Nq.pn) ++ xsp), 75, true⟩ :: (((rs.map (Nq.blk 52)) ++ []) ++ [])) T.mixed (by kernel_rfl) (by kernel_rfl) (fuel := 29) rfl rfl ?_
   refine GH.tk 0 (v := (.slice (some ⟨b0, 0, none⟩) A c0)) rfl (by kernel_rfl) (fun _ _ _ h => h) (Ex.move rfl) (ulC (ulC (ulC (ulC (ulS (ulS (ulS ulR))))))) (by decide) ?_
   refine GH.tk 1 (v := (.int .i64 (((k : Nat) : Int)))) rfl (by kernel_rfl) (fun _ _ _ h => h) (Ex.move rfl) (ulC (ulC (ulC (ulC (ulS (ulS (ulS ulR))))))) (by decide) ?_
   refine GH.tk 2 (v := (.slice (some ⟨b1, 0, none⟩) A c1)) rfl (by kernel_rfl) (fun _ _ _ h => h) (Ex.move rfl) (ulC (ulC (ulC (ulC (ulS (ulS (ulS ulR))))))) (by decide) ?_
   refine GH.tk 3 (v := (.int .i64 (((k : Nat) : Int)))) rfl (by kernel_rfl) (fun _ _ _ h => h) (Ex.move rfl) (ulC (ulC (ulC (ulC (ulS (ulS (ulS ulR))))))) (by decide) ?_
   refine GH.tk 4 (v := (.slice (some ⟨b2, 0, none⟩) A c2)) rfl (by kernel_rfl) (fun _ _ _ h => h) (Ex.move rfl) (ulC (ulC (ulC (ulC (ulS (ulS (ulS ulR))))))) (by decide) ?_
   refine GH.tk 5 (v := (.int .i64 (((k : Nat) : Int)))) rfl (by kernel_rfl) (fun _ _ _ h => h) (Ex.move rfl) (ulC (ulC (ulC (ulC (ulS (ulS (ulS ulR))))))) (by decide) ?_
   refine GH.tk 6 (v := (.func (.func fid) #[] caps)) rfl (by kernel_rfl) (fun _ _ _ h => h) (Ex.move rfl) (ulC (ulC (ulC (ulC (ulS (ulS (ulS ulR))))))) (by decide) ?_
   refine GH.tk 7 (v := (.slice (some ⟨b0, 0, none⟩) A c0)) rfl (by kernel_rfl) (fun _ _ _ h => h) (Ex.move rfl) (ulC (ulC (ulC (ulC (ulS (ulS (ulS ulR))))))) (by decide) ?_
   refine GH.tk 8 (v := (.int .i64 (((k : Nat) : Int)))) rfl (by kernel_rfl) (fun _ _ _ h => h) (Ex.move rfl) (ulC (ulC (ulC (ulC (ulS (ulS (ulS ulR))))))) (by decide) ?_
   refine GH.tk 9 (v := (.pointer (some ⟨b0, k, none⟩))) rfl (by kernel_rfl) (fun _ _ _ h => h) (Ex.cast (Ex.indexAddr rfl rfl Tryz.underlying53 T.sz52 (by omega) (by omega)) (by simp)) (ulC (ulC (ulC (ulC (ulS (ulS (ulS ulR))))))) (by decide) ?_
   refine GH.tk 11 (v := (.slice (some ⟨b1, 0, none⟩) A c1)) rfl (by kernel_rfl) (fun _ _ _ h => h) (Ex.move rfl) (ulC (ulC (ulC (ulC (ulS (ulS (ulS ulR))))))) (by decide) ?_
   refine GH.tk 12 (v := (.int .i64 (((k : Nat) : Int)))) rfl (by kernel_rfl) (fun _ _ _ h => h) (Ex.move rfl) (ulC (ulC (ulC (ulC (ulS (ulS (ulS ulR))))))) (by decide) ?_
   refine GH.tk 13 (v := (.pointer (some ⟨b1, k, none⟩))) rfl (by kernel_rfl) (fun _ _ _ h => h) (Ex.cast (Ex.indexAddr rfl rfl Tryz.underlying53 T.sz52 (by omega) (by omega)) (by simp)) (ulC (ulC (ulC (ulC (ulS (ulS (ulS ulR))))))) (by decide) ?_
   refine GH.tk 15 (v := (.slice (some ⟨b2, 0, none⟩) A c2)) rfl (by kernel_rfl) (fun _ _ _ h => h) (Ex.move rfl) (ulC (ulC (ulC (ulC (ulS (ulS (ulS ulR))))))) (by decide) ?_
   refine GH.tk 16 (v := (.int .i64 (((k : Nat) : Int)))) rfl (by kernel_rfl) (fun _ _ _ h => h) (Ex.move rfl) (ulC (ulC (ulC (ulC (ulS (ulS (ulS ulR))))))) (by decide) ?_
   refine GH.tk 17 (v := (.pointer (some ⟨b2, k, none⟩))) rfl (by kernel_rfl) (fun _ _ _ h => h) (Ex.cast (Ex.indexAddr rfl rfl Tryz.underlying53 T.sz52 (by omega) (by omega)) (by simp)) (ulC (ulC (ulC (ulC (ulS (ulS (ulS ulR))))))) (by decide) ?_
   refine GH.many (rs := [10, 14, 18]) (by kernel_rfl) (by simp) ?_
   refine GHs.cons rfl (Ex.wp (v := (.int .u32 (((pAt ps 0).xs.getD k 0)))) (Ex.load rfl T.ag52 (i := 4) rfl (trL_at _ _ k _ (by omega))) (by decide)) (fun _ => (ulC (ulC (ulC (ulC (ulS (ulS (ulS ulR)))))))) (fun _ _ => ?_) ?_
   ·refine GH.many (rs := [14, 18]) (by kernel_rfl) (by simp) ?_
    refine GHs.cons rfl (Ex.wp (v := (.int .u32 (((pAt ps 1).xs.getD k 0)))) (Ex.load rfl T.ag52 (i := 5) rfl (trL_at _ _ k _ (by omega))) (by decide)) (fun _ => (ulC (ulC (ulC (ulC (ulS (ulS (ulS ulR)))))))) (fun _ _ => ?_) ?_
    ·refine GH.one 18 rfl (by kernel_rfl) (Ex.wp (v := (.int .u32 (((pAt ps 2).xs.getD k 0)))) (Ex.load rfl T.ag52 (i := 6) rfl (trL_at _ _ k _ (by omega))) (by decide)) (fun _ => (ulC (ulC (ulC (ulC (ulS (ulS (ulS ulR)))))))) (fun _ _ => ?_)
     refine GH.one 19 rfl (by kernel_rfl) (Stp.callR (vs := [(.int .u32 (((pAt ps 0).xs.getD k 0))), (.int .u32 (((pAt ps 1).xs.getD k 0))), (.int .u32 (((pAt ps 2).xs.getD k 0)))]) rfl rfl hf.1 (by decide) (fun wc hw => hf.2 _ (getD_mem (by omega)) _ (getD_mem (by omega)) _ (getD_mem (by omega)) wc hw.1)) (fun _ => (ulC (ulC (ulC (ulC (ulS (ulS (ulS ulR)))))))) (fun xq21 hq22 => ?_)
     refine GH.tk 20 (v := (.tuple #[(.int .u32 ((trF f ps k).1)), (.int .u32 ((trF f ps k).2.1)), (.int .u32 ((trF f ps k).2.2))])) rfl (by kernel_rfl) (fun _ _ _ h => h) (Ex.move rfl) (ulC (ulC (ulC (ulC (ulS (ulS (ulS ulR))))))) (by decide) ?_
     refine GH.tk 21 (v := (.int .u32 ((trF f ps k).1))) rfl (by kernel_rfl) (fun _ _ _ h => h) (Ex.extract rfl rfl) (ulC (ulC (ulC (ulC (ulS (ulS (ulS ulR))))))) (by decide) ?_
     refine GH.tk 22 (v := (.int .u32 ((trF f ps k).2.1))) rfl (by kernel_rfl) (fun _ _ _ h => h) (Ex.extract rfl rfl) (ulC (ulC (ulC (ulC (ulS (ulS (ulS ulR))))))) (by decide) ?_
     refine GH.tk 23 (v := (.int .u32 ((trF f ps k).2.2))) rfl (by kernel_rfl) (fun _ _ _ h => h) (Ex.extract rfl rfl) (ulC (ulC (ulC (ulC (ulS (ulS (ulS ulR))))))) (by decide) ?_
     refine GH.tk 24 (v := (.pointer (some ⟨b0, k, none⟩))) rfl (by kernel_rfl) (fun _ _ _ h => h) (Ex.cast (Ex.indexAddr rfl rfl Tryz.underlying53 T.sz52 (by omega) (by omega)) (by simp)) (ulC (ulC (ulC (ulC (ulS (ulS (ulS ulR))))))) (by decide) ?_
     refine GH.one 25 rfl (by kernel_rfl) (Stp.storeL (i := 4) (cs := (trL (fun k => (trF f ps k).1) (pAt ps 0).xs k).map u32 ++ s0) (vs := [(.int .u32 ((trF f ps k).1))]) (o := k) (L1 := (⟨bq5, [(.int .i64 sp), (.slice (some ⟨xb, 0, none⟩) n xc)], 24, true⟩ :: ⟨bq2, [(.int .i64 0), (.slice none 0 0)], 24, true⟩ :: ⟨bq1, [(.int .i64 sp), (.slice (some ⟨b, o, none⟩) n cap)], 24, true⟩ :: ⟨xb, [(.int .i64 ((pAt ps 0).W)), (.int .i64 ((pAt ps 0).H)), (.slice (some ⟨b0, 0, none⟩) A c0), (.int .i64 ((pAt ps 1).W)), (.int .i64 ((pAt ps 1).H)), (.slice (some ⟨b1, 0, none⟩) A c1), (.int .i64 ((pAt ps 2).W)), (.int .i64 ((pAt ps 2).H)), (.slice (some ⟨b2, 0, none⟩) A c2)] ++ (pcs (rs.map Nq.pn) ++ xsp), 75, true⟩ :: ⟨b0, (trL (fun k => (trF f ps k).1) (pAt ps 0).xs (k + 1)).map u32 ++ s0, 52, true⟩ :: ⟨b1, (trL (fun k => (trF f ps k).2.1) (pAt ps 1).xs k).map u32 ++ s1, 52, true⟩ :: ⟨b2, (trL (fun k => (trF f ps k).2.2) (pAt ps 2).xs k).map u32 ++ s2, 52, true⟩ :: (((rs.map (Nq.blk 52)) ++ []) ++ []))) rfl rfl rfl T.sz52 rfl (Nat.ble_eq_true_of_le (by rw [List.length_append, List.length_map, trL_len]; simp; omega)) rfl (by rw [show splice ((trL (fun k => (trF f ps k).1) (pAt ps 0).xs k).map u32 ++ s0) k [(.int .u32 ((trF f ps k).1))] = (trL (fun k => (trF f ps k).1) (pAt ps 0).xs (k + 1)).map u32 ++ s0 from trL_put (fun k => (trF f ps k).1) (pAt ps 0).xs k s0 (by omega)]; rfl)) (fun _ => (ulC (ulC (ulC (ulC (ulS (ulS (ulS ulR)))))))) (fun _ _ => ?_)
     refine GH.tk 26 (v := (.pointer (some ⟨b1, k, none⟩))) rfl (by kernel_rfl) (fun _ _ _ h => h) (Ex.cast (Ex.indexAddr rfl rfl Tryz.underlying53 T.sz52 (by omega) (by omega)) (by simp)) (ulC (ulC (ulC (ulC (ulS (ulS (ulS ulR))))))) (by decide) ?_
     refine GH.one 27 rfl (by kernel_rfl) (Stp.storeL (i := 5) (cs := (trL (fun k => (trF f ps k).2.1) (pAt ps 1).xs k).map u32 ++ s1) (vs := [(.int .u32 ((trF f ps k).2.1))]) (o := k) (L1 := (⟨bq5, [(.int .i64 sp), (.slice (some ⟨xb, 0, none⟩) n xc)], 24, true⟩ :: ⟨bq2, [(.int .i64 0), (.slice none 0 0)], 24, true⟩ :: ⟨bq1, [(.int .i64 sp), (.slice (some ⟨b, o, none⟩) n cap)], 24, true⟩ :: ⟨xb, [(.int .i64 ((pAt ps 0).W)), (.int .i64 ((pAt ps 0).H)), (.slice (some ⟨b0, 0, none⟩) A c0), (.int .i64 ((pAt ps 1).W)), (.int .i64 ((pAt ps 1).H)), (.slice (some ⟨b1, 0, none⟩) A c1), (.int .i64 ((pAt ps 2).W)), (.int .i64 ((pAt ps 2).H)), (.slice (some ⟨b2, 0, none⟩) A c2)] ++ (pcs (rs.map Nq.pn) ++ xsp), 75, true⟩ :: ⟨b0, (trL (fun k => (trF f ps k).1) (pAt ps 0).xs (k + 1)).map u32 ++ s0, 52, true⟩ :: ⟨b1, (trL (fun k => (trF f ps k).2.1) (pAt ps 1).xs (k + 1)).map u32 ++ s1, 52, true⟩ :: ⟨b2, (trL (fun k => (trF f ps k).2.2) (pAt ps 2).xs k).map u32 ++ s2, 52, true⟩ :: (((rs.map (Nq.blk 52)) ++ []) ++ []))) rfl rfl rfl T.sz52 rfl (Nat.ble_eq_true_of_le (by rw [List.length_append, List.length_map, trL_len]; simp; omega)) rfl (by rw [show splice ((trL (fun k => (trF f ps k).2.1) (pAt ps 1).xs k).map u32 ++ s1) k [(.int .u32 ((trF f ps k).2.1))] = (trL (fun k => (trF f ps k).2.1) (pAt ps 1).xs (k + 1)).map u32 ++ s1 from trL_put (fun k => (trF f ps k).2.1) (pAt ps 1).xs k s1 (by omega)]; rfl)) (fun _ => (ulC (ulC (ulC (ulC (ulS (ulS (ulS ulR)))))))) (fun _ _ => ?_)
     refine GH.tk 28 (v := (.pointer (some ⟨b2, k, none⟩))) rfl (by kernel_rfl) (fun _ _ _ h => h) (Ex.cast (Ex.indexAddr rfl rfl Tryz.underlying53 T.sz52 (by omega) (by omega)) (by simp)) (ulC (ulC (ulC (ulC (ulS (ulS (ulS ulR))))))) (by decide) ?_
     refine GH.done (by kernel_rfl) ?_
     refine GE.thenN ?_
     refine GE.tail rfl (Stp.storeL (i := 6) (cs := (trL (fun k => (trF f ps k).2.2) (pAt ps 2).xs k).map u32 ++ s2) (vs := [(.int .u32 ((trF f ps k).2.2))]) (o := k) (L1 := (⟨bq5, [(.int .i64 sp), (.slice (some ⟨xb, 0, none⟩) n xc)], 24, true⟩ :: ⟨bq2, [(.int .i64 0), (.slice none 0 0)], 24, true⟩ :: ⟨bq1, [(.int .i64 sp), (.slice (some ⟨b, o, none⟩) n cap)], 24, true⟩ :: ⟨xb, [(.int .i64 ((pAt ps 0).W)), (.int .i64 ((pAt ps 0).H)), (.slice (some ⟨b0, 0, none⟩) A c0), (.int .i64 ((pAt ps 1).W)), (.int .i64 ((pAt ps 1).H)), (.slice (some ⟨b1, 0, none⟩) A c1), (.int .i64 ((pAt ps 2).W)), (.int .i64 ((pAt ps 2).H)), (.slice (some ⟨b2, 0, none⟩) A c2)] ++ (pcs (rs.map Nq.pn) ++ xsp), 75, true⟩ :: ⟨b0, (trL (fun k => (trF f ps k).1) (pAt ps 0).xs (k + 1)).map u32 ++ s0, 52, true⟩ :: ⟨b1, (trL (fun k => (trF f ps k).2.1) (pAt ps 1).xs (k + 1)).map u32 ++ s1, 52, true⟩ :: ⟨b2, (trL (fun k => (trF f ps k).2.2) (pAt ps 2).xs (k + 1)).map u32 ++ s2, 52, true⟩ :: (((rs.map (Nq.blk 52)) ++ []) ++ []))) rfl rfl rfl T.sz52 rfl (Nat.ble_eq_true_of_le (by rw [List.length_append, List.length_map, trL_len]; simp; omega)) rfl (by rw [show splice ((trL (fun k => (trF f ps k).2.2) (pAt ps 2).xs k).map u32 ++ s2) k [(.int .u32 ((trF f ps k).2.2))] = (trL (fun k => (trF f ps k).2.2) (pAt ps 2).xs (k + 1)).map u32 ++ s2 from trL_put (fun k => (trF f ps k).2.2) (pAt ps 2).xs k s2 (by omega)]; rfl)) (fun _ _ => ?_)
     refine GE.thenN ?_
     exact St.hp (()) trivial ((sub_cons rfl ((sub_cons rfl ((sub_cons rfl ((sub_cons rfl ((sub_cons rfl ((sub_cons rfl ((sub_cons rfl ((sub_cons rfl ((sub_cons rfl ((sub_cons rfl ((sub_nil _)))))))))))))))))))))) (fun w h => by exact Hp.segsT (T := []) (A := [[⟨bq5, [(.int .i64 sp), (.slice (some ⟨xb, 0, none⟩) n xc)], 24, true⟩], [⟨bq2, [(.int .i64 0), (.slice none 0 0)], 24, true⟩], [⟨bq1, [(.int .i64 sp), (.slice (some ⟨b, o, none⟩) n cap)], 24, true⟩], [⟨xb, [(.int .i64 ((pAt ps 0).W)), (.int .i64 ((pAt ps 0).H)), (.slice (some ⟨b0, 0, none⟩) A c0), (.int .i64 ((pAt ps 1).W)), (.int .i64 ((pAt ps 1).H)), (.slice (some ⟨b1, 0, none⟩) A c1), (.int .i64 ((pAt ps 2).W)), (.int .i64 ((pAt ps 2).H)), (.slice (some ⟨b2, 0, none⟩) A c2)] ++ (pcs (rs.map Nq.pn) ++ xsp), 75, true⟩], [⟨b0, (trL (fun k => (trF f ps k).1) (pAt ps 0).xs (k + 1)).map u32 ++ s0, 52, true⟩], [⟨b1, (trL (fun k => (trF f ps k).2.1) (pAt ps 1).xs (k + 1)).map u32 ++ s1, 52, true⟩], [⟨b2, (trL (fun k => (trF f ps k).2.2) (pAt ps 2).xs (k + 1)).map u32 ++ s2, 52, true⟩], ((rs.map (Nq.blk 52)) ++ [])]) (idx := [0, 1, 2, 3, 4, 5, 6, 7]) 8 [] h rfl (by decide) rfl)
    refine GHs.cons rfl (Ex.wp (v := (.int .u32 (((pAt ps 2).xs.getD k 0)))) (Ex.load rfl T.ag52 (i := 6) rfl (trL_at _ _ k _ (by omega))) (by decide)) (fun _ => (ulC (ulC (ulC (ulC (ulS (ulS (ulS ulR)))))))) (fun _ _ => ?_) ?_
    ·refine GH.one 14 rfl (by kernel_rfl) (Ex.wp (v := (.int .u32 (((pAt ps 1).xs.getD k 0)))) (Ex.load rfl T.ag52 (i := 5) rfl (trL_at _ _ k _ (by omega))) (by decide)) (fun _ => (ulC (ulC (ulC (ulC (ulS (ulS (ulS ulR)))))))) (fun _ _ => ?_)
     refine GH.one 19 rfl (by kernel_rfl) (Stp.callR (vs := [(.int .u32 (((pAt ps 0).xs.getD k 0))), (.int .u32 (((pAt ps 1).xs.getD k 0))), (.int .u32 (((pAt ps 2).xs.getD k 0)))]) rfl rfl hf.1 (by decide) (fun wc hw => hf.2 _ (getD_mem (by omega)) _ (getD_mem (by omega)) _ (getD_mem (by omega)) wc hw.1)) (fun _ => (ulC (ulC (ulC (ulC (ulS (ulS (ulS ulR)))))))) (fun xq23 hq24 => ?_)
     refine GH.tk 20 (v := (.tuple #[(.int .u32 ((trF f ps k).1)), (.int .u32 ((trF f ps k).2.1)), (.int .u32 ((trF f ps k).2.2))])) rfl (by kernel_rfl) (fun _ _ _ h => h) (Ex.move rfl) (ulC (ulC (ulC (ulC (ulS (ulS (ulS ulR))))))) (by decide) ?_
     refine GH.tk 21 (v := (.int .u32 ((trF f ps k).1))) rfl (by kernel_rfl) (fun _ _ _ h => h) (Ex.extract rfl rfl) (ulC (ulC (ulC (ulC (ulS (ulS (ulS ulR))))))) (by decide) ?_
     refine GH.tk 22 (v := (.int .u32 ((trF f ps k).2.1))) rfl (by kernel_rfl) (fun _ _ _ h => h) (Ex.extract rfl rfl) (ulC (ulC (ulC (ulC (ulS (ulS (ulS ulR))))))) (by decide) ?_
     refine GH.tk 23 (v := (.int .u32 ((trF f ps k).2.2))) rfl (by kernel_rfl) (fun _ _ _ h => h) (Ex.extract rfl rfl) (ulC (ulC (ulC (ulC (ulS (ulS (ulS ulR))))))) (by decide) ?_
     refine GH.tk 24 (v := (.pointer (some ⟨b0, k, none⟩))) rfl (by kernel_rfl) (fun _ _ _ h => h) (Ex.cast (Ex.indexAddr rfl rfl Tryz.underlying53 T.sz52 (by omega) (by omega)) (by simp)) (ulC (ulC (ulC (ulC (ulS (ulS (ulS ulR))))))) (by decide) ?_
     refine GH.one 25 rfl (by kernel_rfl) (Stp.storeL (i := 4) (cs := (trL (fun k => (trF f ps k).1) (pAt ps 0).xs k).map u32 ++ s0) (vs := [(.int .u32 ((trF f ps k).1))]) (o := k) (L1 := (⟨bq5, [(.int .i64 sp), (.slice (some ⟨xb, 0, none⟩) n xc)], 24, true⟩ :: ⟨bq2, [(.int .i64 0), (.slice none 0 0)], 24, true⟩ :: ⟨bq1, [(.int .i64 sp), (.slice (some ⟨b, o, none⟩) n cap)], 24, true⟩ :: ⟨xb, [(.int .i64 ((pAt ps 0).W)), (.int .i64 ((pAt ps 0).H)), (.slice (some ⟨b0, 0, none⟩) A c0), (.int .i64 ((pAt ps 1).W)), (.int .i64 ((pAt ps 1).H)), (.slice (some ⟨b1, 0, none⟩) A c1), (.int .i64 ((pAt ps 2).W)), (.int .i64 ((pAt ps 2).H)), (.slice (some ⟨b2, 0, none⟩) A c2)] ++ (pcs (rs.map Nq.pn) ++ xsp), 75, true⟩ :: ⟨b0, (trL (fun k => (trF f ps k).1) (pAt ps 0).xs (k + 1)).map u32 ++ s0, 52, true⟩ :: ⟨b1, (trL (fun k => (trF f ps k).2.1) (pAt ps 1).xs k).map u32 ++ s1, 52, true⟩ :: ⟨b2, (trL (fun k => (trF f ps k).2.2) (pAt ps 2).xs k).map u32 ++ s2, 52, true⟩ :: (((rs.map (Nq.blk 52)) ++ []) ++ []))) rfl rfl rfl T.sz52 rfl (Nat.ble_eq_true_of_le (by rw [List.length_append, List.length_map, trL_len]; simp; omega)) rfl (by rw [show splice ((trL (fun k => (trF f ps k).1) (pAt ps 0).xs k).map u32 ++ s0) k [(.int .u32 ((trF f ps k).1))] = (trL (fun k => (trF f ps k).1) (pAt ps 0).xs (k + 1)).map u32 ++ s0 from trL_put (fun k => (trF f ps k).1) (pAt ps 0).xs k s0 (by omega)]; rfl)) (fun _ => (ulC (ulC (ulC (ulC (ulS (ulS (ulS ulR)))))))) (fun _ _ => ?_)
     refine GH.tk 26 (v := (.pointer (some ⟨b1, k, none⟩))) rfl (by kernel_rfl) (fun _ _ _ h => h) (Ex.cast (Ex.indexAddr rfl rfl Tryz.underlying53 T.sz52 (by omega) (by omega)) (by simp)) (ulC (ulC (ulC (ulC (ulS (ulS (ulS ulR))))))) (by decide) ?_
     refine GH.one 27 rfl (by kernel_rfl) (Stp.storeL (i := 5) (cs := (trL (fun k => (trF f ps k).2.1) (pAt ps 1).xs k).map u32 ++ s1) (vs := [(.int .u32 ((trF f ps k).2.1))]) (o := k) (L1 := (⟨bq5, [(.int .i64 sp), (.slice (some ⟨xb, 0, none⟩) n xc)], 24, true⟩ :: ⟨bq2, [(.int .i64 0), (.slice none 0 0)], 24, true⟩ :: ⟨bq1, [(.int .i64 sp), (.slice (some ⟨b, o, none⟩) n cap)], 24, true⟩ :: ⟨xb, [(.int .i64 ((pAt ps 0).W)), (.int .i64 ((pAt ps 0).H)), (.slice (some ⟨b0, 0, none⟩) A c0), (.int .i64 ((pAt ps 1).W)), (.int .i64 ((pAt ps 1).H)), (.slice (some ⟨b1, 0, none⟩) A c1), (.int .i64 ((pAt ps 2).W)), (.int .i64 ((pAt ps 2).H)), (.slice (some ⟨b2, 0, none⟩) A c2)] ++ (pcs (rs.map Nq.pn) ++ xsp), 75, true⟩ :: ⟨b0, (trL (fun k => (trF f ps k).1) (pAt ps 0).xs (k + 1)).map u32 ++ s0, 52, true⟩ :: ⟨b1, (trL (fun k => (trF f ps k).2.1) (pAt ps 1).xs (k + 1)).map u32 ++ s1, 52, true⟩ :: ⟨b2, (trL (fun k => (trF f ps k).2.2) (pAt ps 2).xs k).map u32 ++ s2, 52, true⟩ :: (((rs.map (Nq.blk 52)) ++ []) ++ []))) rfl rfl rfl T.sz52 rfl (Nat.ble_eq_true_of_le (by rw [List.length_append, List.length_map, trL_len]; simp; omega)) rfl (by rw [show splice ((trL (fun k => (trF f ps k).2.1) (pAt ps 1).xs k).map u32 ++ s1) k [(.int .u32 ((trF f ps k).2.1))] = (trL (fun k => (trF f ps k).2.1) (pAt ps 1).xs (k + 1)).map u32 ++ s1 from trL_put (fun k => (trF f ps k).2.1) (pAt ps 1).xs k s1 (by omega)]; rfl)) (fun _ => (ulC (ulC (ulC (ulC (ulS (ulS (ulS ulR)))))))) (fun _ _ => ?_)
     refine GH.tk 28 (v := (.pointer (some ⟨b2, k, none⟩))) rfl (by kernel_rfl) (fun _ _ _ h => h) (Ex.cast (Ex.indexAddr rfl rfl Tryz.underlying53 T.sz52 (by omega) (by omega)) (by simp)) (ulC (ulC (ulC (ulC (ulS (ulS (ulS ulR))))))) (by decide) ?_
     refine GH.done (by kernel_rfl) ?_
     refine GE.thenN ?_
     refine GE.tail rfl (Stp.storeL (i := 6) (cs := (trL (fun k => (trF f ps k).2.2) (pAt ps 2).xs k).map u32 ++ s2) (vs := [(.int .u32 ((trF f ps k).2.2))]) (o := k) (L1 := (⟨bq5, [(.int .i64 sp), (.slice (some ⟨xb, 0, none⟩) n xc)], 24, true⟩ :: ⟨bq2, [(.int .i64 0), (.slice none 0 0)], 24, true⟩ :: ⟨bq1, [(.int .i64 sp), (.slice (some ⟨b, o, none⟩) n cap)], 24, true⟩ :: ⟨xb, [(.int .i64 ((pAt ps 0).W)), (.int .i64 ((pAt ps 0).H)), (.slice (some ⟨b0, 0, none⟩) A c0), (.int .i64 ((pAt ps 1).W)), (.int .i64 ((pAt ps 1).H)), (.slice (some ⟨b1, 0, none⟩) A c1), (.int .i64 ((pAt ps 2).W)), (.int .i64 ((pAt ps 2).H)), (.slice (some ⟨b2, 0, none⟩) A c2)] ++ (pcs (rs.map Nq.pn) ++ xsp), 75, true⟩ :: ⟨b0, (trL (fun k => (trF f ps k).1) (pAt ps 0).xs (k + 1)).map u32 ++ s0, 52, true⟩ :: ⟨b1, (trL (fun k => (trF f ps k).2.1) (pAt ps 1).xs (k + 1)).map u32 ++ s1, 52, true⟩ :: ⟨b2, (trL (fun k => (trF f ps k).2.2) (pAt ps 2).xs (k + 1)).map u32 ++ s2, 52, true⟩ :: (((rs.map (Nq.blk 52)) ++ []) ++ []))) rfl rfl rfl T.sz52 rfl (Nat.ble_eq_true_of_le (by rw [List.length_append, List.length_map, trL_len]; simp; omega)) rfl (by rw [show splice ((trL (fun k => (trF f ps k).2.2) (pAt ps 2).xs k).map u32 ++ s2) k [(.int .u32 ((trF f ps k).2.2))] = (trL (fun k => (trF f ps k).2.2) (pAt ps 2).xs (k + 1)).map u32 ++ s2 from trL_put (fun k => (trF f ps k).2.2) (pAt ps 2).xs k s2 (by omega)]; rfl)) (fun _ _ => ?_)
     refine GE.thenN ?_
     exact St.hp (()) trivial ((sub_cons rfl ((sub_cons rfl ((sub_cons rfl ((sub_cons rfl ((sub_cons rfl ((sub_cons rfl ((sub_cons rfl ((sub_cons rfl ((sub_cons rfl ((sub_cons rfl ((sub_nil _)))))))))))))))))))))) (fun w h => by exact Hp.segsT (T := []) (A := [[⟨bq5, [(.int .i64 sp), (.slice (some ⟨xb, 0, none⟩) n xc)], 24, true⟩], [⟨bq2, [(.int .i64 0), (.slice none 0 0)], 24, true⟩], [⟨bq1, [(.int .i64 sp), (.slice (some ⟨b, o, none⟩) n cap)], 24, true⟩], [⟨xb, [(.int .i64 ((pAt ps 0).W)), (.int .i64 ((pAt ps 0).H)), (.slice (some ⟨b0, 0, none⟩) A c0), (.int .i64 ((pAt ps 1).W)), (.int .i64 ((pAt ps 1).H)), (.slice (some ⟨b1, 0, none⟩) A c1), (.int .i64 ((pAt ps 2).W)), (.int .i64 ((pAt ps 2).H)), (.slice (some ⟨b2, 0, none⟩) A c2)] ++ (pcs (rs.map Nq.pn) ++ xsp), 75, true⟩], [⟨b0, (trL (fun k => (trF f ps k).1) (pAt ps 0).xs (k + 1)).map u32 ++ s0, 52, true⟩], [⟨b1, (trL (fun k => (trF f ps k).2.1) (pAt ps 1).xs (k + 1)).map u32 ++ s1, 52, true⟩], [⟨b2, (trL (fun k => (trF f ps k).2.2) (pAt ps 2).xs (k + 1)).map u32 ++ s2, 52, true⟩], ((rs.map (Nq.blk 52)) ++ [])]) (idx := [0, 1, 2, 3, 4, 5, 6, 7]) 8 [] h rfl (by decide) rfl)
    exact GHs.nil
   refine GHs.cons rfl (Ex.wp (v := (.int .u32 (((pAt ps 1).xs.getD k 0)))) (Ex.load rfl T.ag52 (i := 5) rfl (trL_at _ _ k _ (by omega))) (by decide)) (fun _ => (ulC (ulC (ulC (ulC (ulS (ulS (ulS ulR)))))))) (fun _ _ => ?_) ?_
   ·refine GH.many (rs := [10, 18]) (by kernel_rfl) (by simp) ?_
    refine GHs.cons rfl (Ex.wp (v := (.int .u32 (((pAt ps 0).xs.getD k 0)))) (Ex.load rfl T.ag52 (i := 4) rfl (trL_at _ _ k _ (by omega))) (by decide)) (fun _ => (ulC (ulC (ulC (ulC (ulS (ulS (ulS ulR)))))))) (fun _ _ => ?_) ?_
    ·refine GH.one 18 rfl (by kernel_rfl) (Ex.wp (v := (.int .u32 (((pAt ps 2).xs.getD k 0)))) (Ex.load rfl T.ag52 (i := 6) rfl (trL_at _ _ k _ (by omega))) (by decide)) (fun _ => (ulC (ulC (ulC (ulC (ulS (ulS (ulS ulR)))))))) (fun _ _ => ?_)
     refine GH.one 19 rfl (by kernel_rfl) (Stp.callR (vs := [(.int .u32 (((pAt ps 0).xs.getD k 0))), (.int .u32 (((pAt ps 1).xs.getD k 0))), (.int .u32 (((pAt ps 2).xs.getD k 0)))]) rfl rfl hf.1 (by decide) (fun wc hw => hf.2 _ (getD_mem (by omega)) _ (getD_mem (by omega)) _ (getD_mem (by omega)) wc hw.1)) (fun _ => (ulC (ulC (ulC (ulC (ulS (ulS (ulS ulR)))))))) (fun xq25 hq26 => ?_)
     refine GH.tk 20 (v := (.tuple #[(.int .u32 ((trF f ps k).1)), (.int .u32 ((trF f ps k).2.1)), (.int .u32 ((trF f ps k).2.2))])) rfl (by kernel_rfl) (fun _ _ _ h => h) (Ex.move rfl) (ulC (ulC (ulC (ulC (ulS (ulS (ulS ulR))))))) (by decide) ?_
     refine GH.tk 21 (v := (.int .u32 ((trF f ps k).1))) rfl (by kernel_rfl) (fun _ _ _ h => h) (Ex.extract rfl rfl) (ulC (ulC (ulC (ulC (ulS (ulS (ulS ulR))))))) (by decide) ?_
     refine GH.tk 22 (v := (.int .u32 ((trF f ps k).2.1))) rfl (by kernel_rfl) (fun _ _ _ h => h) (Ex.extract rfl rfl) (ulC (ulC (ulC (ulC (ulS (ulS (ulS ulR))))))) (by decide) ?_
     refine GH.tk 23 (v := (.int .u32 ((trF f ps k).2.2))) rfl (by kernel_rfl) (fun _ _ _ h => h) (Ex.extract rfl rfl) (ulC (ulC (ulC (ulC (ulS (ulS (ulS ulR))))))) (by decide) ?_
     refine GH.tk 24 (v := (.pointer (some ⟨b0, k, none⟩))) rfl (by kernel_rfl) (fun _ _ _ h => h) (Ex.cast (Ex.indexAddr rfl rfl Tryz.underlying53 T.sz52 (by omega) (by omega)) (by simp)) (ulC (ulC (ulC (ulC (ulS (ulS (ulS ulR))))))) (by decide) ?_
     refine GH.one 25 rfl (by kernel_rfl) (Stp.storeL (i := 4) (cs := (trL (fun k => (trF f ps k).1) (pAt ps 0).xs k).map u32 ++ s0) (vs := [(.int .u32 ((trF f ps k).1))]) (o := k) (L1 := (⟨bq5, [(.int .i64 sp), (.slice (some ⟨xb, 0, none⟩) n xc)], 24, true⟩ :: ⟨bq2, [(.int .i64 0), (.slice none 0 0)], 24, true⟩ :: ⟨bq1, [(.int .i64 sp), (.slice (some ⟨b, o, none⟩) n cap)], 24, true⟩ :: ⟨xb, [(.int .i64 ((pAt ps 0).W)), (.int .i64 ((pAt ps 0).H)), (.slice (some ⟨b0, 0, none⟩) A c0), (.int .i64 ((pAt ps 1).W)), (.int .i64 ((pAt ps 1).H)), (.slice (some ⟨b1, 0, none⟩) A c1), (.int .i64 ((pAt ps 2).W)), (.int .i64 ((pAt ps 2).H)), (.slice (some ⟨b2, 0, none⟩) A c2)] ++ (pcs (rs.map Nq.pn) ++ xsp), 75, true⟩ :: ⟨b0, (trL (fun k => (trF f ps k).1) (pAt ps 0).xs (k + 1)).map u32 ++ s0, 52, true⟩ :: ⟨b1, (trL (fun k => (trF f ps k).2.1) (pAt ps 1).xs k).map u32 ++ s1, 52, true⟩ :: ⟨b2, (trL (fun k => (trF f ps k).2.2) (pAt ps 2).xs k).map u32 ++ s2, 52, true⟩ :: (((rs.map (Nq.blk 52)) ++ []) ++ []))) rfl rfl rfl T.sz52 rfl (Nat.ble_eq_true_of_le (by rw [List.length_append, List.length_map, trL_len]; simp; omega)) rfl (by rw [show splice ((trL (fun k => (trF f ps k).1) (pAt ps 0).xs k).map u32 ++ s0) k [(.int .u32 ((trF f ps k).1))] = (trL (fun k => (trF f ps k).1) (pAt ps 0).xs (k + 1)).map u32 ++ s0 from trL_put (fun k => (trF f ps k).1) (pAt ps 0).xs k s0 (by omega)]; rfl)) (fun _ => (ulC (ulC (ulC (ulC (ulS (ulS (ulS ulR)))))))) (fun _ _ => ?_)
     refine GH.tk 26 (v := (.pointer (some ⟨b1, k, none⟩))) rfl (by kernel_rfl) (fun _ _ _ h => h) (Ex.cast (Ex.indexAddr rfl rfl Tryz.underlying53 T.sz52 (by omega) (by omega)) (by simp)) (ulC (ulC (ulC (ulC (ulS (ulS (ulS ulR))))))) (by decide) ?_
     refine GH.one 27 rfl (by kernel_rfl) (Stp.storeL (i := 5) (cs := (trL (fun k => (trF f ps k).2.1) (pAt ps 1).xs k).map u32 ++ s1) (vs := [(.int .u32 ((trF f ps k).2.1))]) (o := k) (L1 := (⟨bq5, [(.int .i64 sp), (.slice (some ⟨xb, 0, none⟩) n xc)], 24, true⟩ :: ⟨bq2, [(.int .i64 0), (.slice none 0 0)], 24, true⟩ :: ⟨bq1, [(.int .i64 sp), (.slice (some ⟨b, o, none⟩) n cap)], 24, true⟩ :: ⟨xb, [(.int .i64 ((pAt ps 0).W)), (.int .i64 ((pAt ps 0).H)), (.slice (some ⟨b0, 0, none⟩) A c0), (.int .i64 ((pAt ps 1).W)), (.int .i64 ((pAt ps 1).H)), (.slice (some ⟨b1, 0, none⟩) A c1), (.int .i64 ((pAt ps 2).W)), (.int .i64 ((pAt ps 2).H)), (.slice (some ⟨b2, 0, none⟩) A c2)] ++ (pcs (rs.map Nq.pn) ++ xsp), 75, true⟩ :: ⟨b0, (trL (fun k => (trF f ps k).1) (pAt ps 0).xs (k + 1)).map u32 ++ s0, 52, true⟩ :: ⟨b1, (trL (fun k => (trF f ps k).2.1) (pAt ps 1).xs (k + 1)).map u32 ++ s1, 52, true⟩ :: ⟨b2, (trL (fun k => (trF f ps k).2.2) (pAt ps 2).xs k).map u32 ++ s2, 52, true⟩ :: (((rs.map (Nq.blk 52)) ++ []) ++ []))) rfl rfl rfl T.sz52 rfl (Nat.ble_eq_true_of_le (by rw [List.length_append, List.length_map, trL_len]; simp; omega)) rfl (by rw [show splice ((trL (fun k => (trF f ps k).2.1) (pAt ps 1).xs k).map u32 ++ s1) k [(.int .u32 ((trF f ps k).2.1))] = (trL (fun k => (trF f ps k).2.1) (pAt ps 1).xs (k + 1)).map u32 ++ s1 from trL_put (fun k => (trF f ps k).2.1) (pAt ps 1).xs k s1 (by omega)]; rfl)) (fun _ => (ulC (ulC (ulC (ulC (ulS (ulS (ulS ulR)))))))) (fun _ _ => ?_)
     refine GH.tk 28 (v := (.pointer (some ⟨b2, k, none⟩))) rfl (by kernel_rfl) (fun _ _ _ h => h) (Ex.cast (Ex.indexAddr rfl rfl Tryz.underlying53 T.sz52 (by omega) (by omega)) (by simp)) (ulC (ulC (ulC (ulC (ulS (ulS (ulS ulR))))))) (by decide) ?_
     refine GH.done (by kernel_rfl) ?_
     refine GE.thenN ?_
     refine GE.tail rfl (Stp.storeL (i := 6) (cs := (trL (fun k => (trF f ps k).2.2) (pAt ps 2).xs k).map u32 ++ s2) (vs := [(.int .u32 ((trF f ps k).2.2))]) (o := k) (L1 := (⟨bq5, [(.int .i64 sp), (.slice (some ⟨xb, 0, none⟩) n xc)], 24, true⟩ :: ⟨bq2, [(.int .i64 0), (.slice none 0 0)], 24, true⟩ :: ⟨bq1, [(.int .i64 sp), (.slice (some ⟨b, o, none⟩) n cap)], 24, true⟩ :: ⟨xb, [(.int .i64 ((pAt ps 0).W)), (.int .i64 ((pAt ps 0).H)), (.slice (some ⟨b0, 0, none⟩) A c0), (.int .i64 ((pAt ps 1).W)), (.int .i64 ((pAt ps 1).H)), (.slice (some ⟨b1, 0, none⟩) A c1), (.int .i64 ((pAt ps 2).W)), (.int .i64 ((pAt ps 2).H)), (.slice (some ⟨b2, 0, none⟩) A c2)] ++ (pcs (rs.map Nq.pn) ++ xsp), 75, true⟩ :: ⟨b0, (trL (fun k => (trF f ps k).1) (pAt ps 0).xs (k + 1)).map u32 ++ s0, 52, true⟩ :: ⟨b1, (trL (fun k => (trF f ps k).2.1) (pAt ps 1).xs (k + 1)).map u32 ++ s1, 52, true⟩ :: ⟨b2, (trL (fun k => (trF f ps k).2.2) (pAt ps 2).xs (k + 1)).map u32 ++ s2, 52, true⟩ :: (((rs.map (Nq.blk 52)) ++ []) ++ []))) rfl rfl rfl T.sz52 rfl (Nat.ble_eq_true_of_le (by rw [List.length_append, List.length_map, trL_len]; simp; omega)) rfl (by rw [show splice ((trL (fun k => (trF f ps k).2.2) (pAt ps 2).xs k).map u32 ++ s2) k [(.int .u32 ((trF f ps k).2.2))] = (trL (fun k => (trF f ps k).2.2) (pAt ps 2).xs (k + 1)).map u32 ++ s2 from trL_put (fun k => (trF f ps k).2.2) (pAt ps 2).xs k s2 (by omega)]; rfl)) (fun _ _ => ?_)
     refine GE.thenN ?_
     exact St.hp (()) trivial ((sub_cons rfl ((sub_cons rfl ((sub_cons rfl ((sub_cons rfl ((sub_cons rfl ((sub_cons rfl ((sub_cons rfl ((sub_cons rfl ((sub_cons rfl ((sub_cons rfl ((sub_nil _)))))))))))))))))))))) (fun w h => by exact Hp.segsT (T := []) (A := [[⟨bq5, [(.int .i64 sp), (.slice (some ⟨xb, 0, none⟩) n xc)], 24, true⟩], [⟨bq2, [(.int .i64 0), (.slice none 0 0)], 24, true⟩], [⟨bq1, [(.int .i64 sp), (.slice (some ⟨b, o, none⟩) n cap)], 24, true⟩], [⟨xb, [(.int .i64 ((pAt ps 0).W)), (.int .i64 ((pAt ps 0).H)), (.slice (some ⟨b0, 0, none⟩) A c0), (.int .i64 ((pAt ps 1).W)), (.int .i64 ((pAt ps 1).H)), (.slice (some ⟨b1, 0, none⟩) A c1), (.int .i64 ((pAt ps 2).W)), (.int .i64 ((pAt ps 2).H)), (.slice (some ⟨b2, 0, none⟩) A c2)] ++ (pcs (rs.map Nq.pn) ++ xsp), 75, true⟩], [⟨b0, (trL (fun k => (trF f ps k).1) (pAt ps 0).xs (k + 1)).map u32 ++ s0, 52, true⟩], [⟨b1, (trL (fun k => (trF f ps k).2.1) (pAt ps 1).xs (k + 1)).map u32 ++ s1, 52, true⟩], [⟨b2, (trL (fun k => (trF f ps k).2.2) (pAt ps 2).xs (k + 1)).map u32 ++ s2, 52, true⟩], ((rs.map (Nq.blk 52)) ++ [])]) (idx := [0, 1, 2, 3, 4, 5, 6, 7]) 8 [] h rfl (by decide) rfl)
    refine GHs.cons rfl (Ex.wp (v := (.int .u32 (((pAt ps 2).xs.getD k 0)))) (Ex.load rfl T.ag52 (i := 6) rfl (trL_at _ _ k _ (by omega))) (by decide)) (fun _ => (ulC (ulC (ulC (ulC (ulS (ulS (ulS ulR)))))))) (fun _ _ => ?_) ?_
    ·refine GH.one 10 rfl (by kernel_rfl) (Ex.wp (v := (.int .u32 (((pAt ps 0).xs.getD k 0)))) (Ex.load rfl T.ag52 (i := 4) rfl (trL_at _ _ k _ (by omega))) (by decide)) (fun _ => (ulC (ulC (ulC (ulC (ulS (ulS (ulS ulR)))))))) (fun _ _ => ?_)
     refine GH.one 19 rfl (by kernel_rfl) (Stp.callR (vs := [(.int .u32 (((pAt ps 0).xs.getD k 0))), (.int .u32 (((pAt ps 1).xs.getD k 0))), (.int .u32 (((pAt ps 2).xs.getD k 0)))]) rfl rfl hf.1 (by decide) (fun wc hw => hf.2 _ (getD_mem (by omega)) _ (getD_mem (by omega)) _ (getD_mem (by omega)) wc hw.1)) (fun _ => (ulC (ulC (ulC (ulC (ulS (ulS (ulS ulR)))))))) (fun xq27 hq28 => ?_)
     refine GH.tk 20 (v := (.tuple #[(.int .u32 ((trF f ps k).1)), (.int .u32 ((trF f ps k).2.1)), (.int .u32 ((trF f ps k).2.2))])) rfl (by kernel_rfl) (fun _ _ _ h => h) (Ex.move rfl) (ulC (ulC (ulC (ulC (ulS (ulS (ulS ulR))))))) (by decide) ?_
     refine GH.tk 21 (v := (.int .u32 ((trF f ps k).1))) rfl (by kernel_rfl) (fun _ _ _ h => h) (Ex.extract rfl rfl) (ulC (ulC (ulC (ulC (ulS (ulS (ulS ulR))))))) (by decide) ?_
     refine GH.tk 22 (v := (.int .u32 ((trF f ps k).2.1))) rfl (by kernel_rfl) (fun _ _ _ h => h) (Ex.extract rfl rfl) (ulC (ulC (ulC (ulC (ulS (ulS (ulS ulR))))))) (by decide) ?_
     refine GH.tk 23 (v := (.int .u32 ((trF f ps k).2.2))) rfl (by kernel_rfl) (fun _ _ _ h => h) (Ex.extract rfl rfl) (ulC (ulC (ulC (ulC (ulS (ulS (ulS ulR))))))) (by decide) ?_
     refine GH.tk 24 (v := (.pointer (some ⟨b0, k, none⟩))) rfl (by kernel_rfl) (fun _ _ _ h => h) (Ex.cast (Ex.indexAddr rfl rfl Tryz.underlying53 T.sz52 (by omega) (by omega)) (by simp)) (ulC (ulC (ulC (ulC (ulS (ulS (ulS ulR))))))) (by decide) ?_
     refine GH.one 25 rfl (by kernel_rfl) (Stp.storeL (i := 4) (cs := (trL (fun k => (trF f ps k).1) (pAt ps 0).xs k).map u32 ++ s0) (vs := [(.int .u32 ((trF f ps k).1))]) (o := k) (L1 := (⟨bq5, [(.int .i64 sp), (.slice (some ⟨xb, 0, none⟩) n xc)], 24, true⟩ :: ⟨bq2, [(.int .i64 0), (.slice none 0 0)], 24, true⟩ :: ⟨bq1, [(.int .i64 sp), (.slice (some ⟨b, o, none⟩) n cap)], 24, true⟩ :: ⟨xb, [(.int .i64 ((pAt ps 0).W)), (.int .i64 ((pAt ps 0).H)), (.slice (some ⟨b0, 0, none⟩) A c0), (.int .i64 ((pAt ps 1).W)), (.int .i64 ((pAt ps 1).H)), (.slice (some ⟨b1, 0, none⟩) A c1), (.int .i64 ((pAt ps 2).W)), (.int .i64 ((pAt ps 2).H)), (.slice (some ⟨b2, 0, none⟩) A c2)] ++ (pcs (rs.map Nq.pn) ++ xsp), 75, true⟩ :: ⟨b0, (trL (fun k => (trF f ps k).1) (pAt ps 0).xs (k + 1)).map u32 ++ s0, 52, true⟩ :: ⟨b1, (trL (fun k => (trF f ps k).2.1) (pAt ps 1).xs k).map u32 ++ s1, 52, true⟩ :: ⟨b2, (trL (fun k => (trF f ps k).2.2) (pAt ps 2).xs k).map u32 ++ s2, 52, true⟩ :: (((rs.map (Nq.blk 52)) ++ []) ++ []))) rfl rfl rfl T.sz52 rfl (Nat.ble_eq_true_of_le (by rw [List.length_append, List.length_map, trL_len]; simp; omega)) rfl (by rw [show splice ((trL (fun k => (trF f ps k).1) (pAt ps 0).xs k).map u32 ++ s0) k [(.int .u32 ((trF f ps k).1))] = (trL (fun k => (trF f ps k).1) (pAt ps 0).xs (k + 1)).map u32 ++ s0 from trL_put (fun k => (trF f ps k).1) (pAt ps 0).xs k s0 (by omega)]; rfl)) (fun _ => (ulC (ulC (ulC (ulC (ulS (ulS (ulS ulR)))))))) (fun _ _ => ?_)
     refine GH.tk 26 (v := (.pointer (some ⟨b1, k, none⟩))) rfl (by kernel_rfl) (fun _ _ _ h => h) (Ex.cast (Ex.indexAddr rfl rfl Tryz.underlying53 T.sz52 (by omega) (by omega)) (by simp)) (ulC (ulC (ulC (ulC (ulS (ulS (ulS ulR))))))) (by decide) ?_
     refine GH.one 27 rfl (by kernel_rfl) (Stp.storeL (i := 5) (cs := (trL (fun k => (trF f ps k).2.1) (pAt ps 1).xs k).map u32 ++ s1) (vs := [(.int .u32 ((trF f ps k).2.1))]) (o := k) (L1 := (⟨bq5, [(.int .i64 sp), (.slice (some ⟨xb, 0, none⟩) n xc)], 24, true⟩ :: ⟨bq2, [(.int .i64 0), (.slice none 0 0)], 24, true⟩ :: ⟨bq1, [(.int .i64 sp), (.slice (some ⟨b, o, none⟩) n cap)], 24, true⟩ :: ⟨xb, [(.int .i64 ((pAt ps 0).W)), (.int .i64 ((pAt ps 0).H)), (.slice (some ⟨b0, 0, none⟩) A c0), (.int .i64 ((pAt ps 1).W)), (.int .i64 ((pAt ps 1).H)), (.slice (some ⟨b1, 0, none⟩) A c1), (.int .i64 ((pAt ps 2).W)), (.int .i64 ((pAt ps 2).H)), (.slice (some ⟨b2, 0, none⟩) A c2)] ++ (pcs (rs.map Nq.pn) ++ xsp), 75, true⟩ :: ⟨b0, (trL (fun k => (trF f ps k).1) (pAt ps 0).xs (k + 1)).map u32 ++ s0, 52, true⟩ :: ⟨b1, (trL (fun k => (trF f ps k).2.1) (pAt ps 1).xs (k + 1)).map u32 ++ s1, 52, true⟩ :: ⟨b2, (trL (fun k => (trF f ps k).2.2) (pAt ps 2).xs k).map u32 ++ s2, 52, true⟩ :: (((rs.map (Nq.blk 52)) ++ []) ++ []))) rfl rfl rfl T.sz52 rfl (Nat.ble_eq_true_of_le (by rw [List.length_append, List.length_map, trL_len]; simp; omega)) rfl (by rw [show splice ((trL (fun k => (trF f ps k).2.1) (pAt ps 1).xs k).map u32 ++ s1) k [(.int .u32 ((trF f ps k).2.1))] = (trL (fun k => (trF f ps k).2.1) (pAt ps 1).xs (k + 1)).map u32 ++ s1 from trL_put (fun k => (trF f ps k).2.1) (pAt ps 1).xs k s1 (by omega)]; rfl)) (fun _ => (ulC (ulC (ulC (ulC (ulS (ulS (ulS ulR)))))))) (fun _ _ => ?_)
     refine GH.tk 28 (v := (.pointer (some ⟨b2, k, none⟩))) rfl (by kernel_rfl) (fun _ _ _ h => h) (Ex.cast (Ex.indexAddr rfl rfl Tryz.underlying53 T.sz52 (by omega) (by omega)) (by simp)) (ulC (ulC (ulC (ulC (ulS (ulS (ulS ulR))))))) (by decide) ?_
     refine GH.done (by kernel_rfl) ?_
     refine GE.thenN ?_
     refine GE.tail rfl (Stp.storeL (i := 6) (cs := (trL (fun k => (trF f ps k).2.2) (pAt ps 2).xs k).map u32 ++ s2) (vs := [(.int .u32 ((trF f ps k).2.2))]) (o := k) (L1 := (⟨bq5, [(.int .i64 sp), (.slice (some ⟨xb, 0, none⟩) n xc)], 24, true⟩ :: ⟨bq2, [(.int .i64 0), (.slice none 0 0)], 24, true⟩ :: ⟨bq1, [(.int .i64 sp), (.slice (some ⟨b, o, none⟩) n cap)], 24, true⟩ :: ⟨xb, [(.int .i64 ((pAt ps 0).W)), (.int .i64 ((pAt ps 0).H)), (.slice (some ⟨b0, 0, none⟩) A c0), (.int .i64 ((pAt ps 1).W)), (.int .i64 ((pAt ps 1).H)), (.slice (some ⟨b1, 0, none⟩) A c1), (.int .i64 ((pAt ps 2).W)), (.int .i64 ((pAt ps 2).H)), (.slice (some ⟨b2, 0, none⟩) A c2)] ++ (pcs (rs.map Nq.pn) ++ xsp), 75, true⟩ :: ⟨b0, (trL (fun k => (trF f ps k).1) (pAt ps 0).xs (k + 1)).map u32 ++ s0, 52, true⟩ :: ⟨b1, (trL (fun k => (trF f ps k).2.1) (pAt ps 1).xs (k + 1)).map u32 ++ s1, 52, true⟩ :: ⟨b2, (trL (fun k => (trF f ps k).2.2) (pAt ps 2).xs (k + 1)).map u32 ++ s2, 52, true⟩ :: (((rs.map (Nq.blk 52)) ++ []) ++ []))) rfl rfl rfl T.sz52 rfl (Nat.ble_eq_true_of_le (by rw [List.length_append, List.length_map, trL_len]; simp; omega)) rfl (by rw [show splice ((trL (fun k => (trF f ps k).2.2) (pAt ps 2).xs k).map u32 ++ s2) k [(.int .u32 ((trF f ps k).2.2))] = (trL (fun k => (trF f ps k).2.2) (pAt ps 2).xs (k + 1)).map u32 ++ s2 from trL_put (fun k => (trF f ps k).2.2) (pAt ps 2).xs k s2 (by omega)]; rfl)) (fun _ _ => ?_)
     refine GE.thenN ?_
     exact St.hp (()) trivial ((sub_cons rfl ((sub_cons rfl ((sub_cons rfl ((sub_cons rfl ((sub_cons rfl ((sub_cons rfl ((sub_cons rfl ((sub_cons rfl ((sub_cons rfl ((sub_cons rfl ((sub_nil _)))))))))))))))))))))) (fun w h => by exact Hp.segsT (T := []) (A := [[⟨bq5, [(.int .i64 sp), (.slice (some ⟨xb, 0, none⟩) n xc)], 24, true⟩], [⟨bq2, [(.int .i64 0), (.slice none 0 0)], 24, true⟩], [⟨bq1, [(.int .i64 sp), (.slice (some ⟨b, o, none⟩) n cap)], 24, true⟩], [⟨xb, [(.int .i64 ((pAt ps 0).W)), (.int .i64 ((pAt ps 0).H)), (.slice (some ⟨b0, 0, none⟩) A c0), (.int .i64 ((pAt ps 1).W)), (.int .i64 ((pAt ps 1).H)), (.slice (some ⟨b1, 0, none⟩) A c1), (.int .i64 ((pAt ps 2).W)), (.int .i64 ((pAt ps 2).H)), (.slice (some ⟨b2, 0, none⟩) A c2)] ++ (pcs (rs.map Nq.pn) ++ xsp), 75, true⟩], [⟨b0, (trL (fun k => (trF f ps k).1) (pAt ps 0).xs (k + 1)).map u32 ++ s0, 52, true⟩], [⟨b1, (trL (fun k => (trF f ps k).2.1) (pAt ps 1).xs (k + 1)).map u32 ++ s1, 52, true⟩], [⟨b2, (trL (fun k => (trF f ps k).2.2) (pAt ps 2).xs (k + 1)).map u32 ++ s2, 52, true⟩], ((rs.map (Nq.blk 52)) ++ [])]) (idx := [0, 1, 2, 3, 4, 5, 6, 7]) 8 [] h rfl (by decide) rfl)
    exact GHs.nil
   refine GHs.cons rfl (Ex.wp (v := (.int .u32 (((pAt ps 2).xs.getD k 0)))) (Ex.load rfl T.ag52 (i := 6) rfl (trL_at _ _ k _ (by omega))) (by decide)) (fun _ => (ulC (ulC (ulC (ulC (ulS (ulS (ulS ulR)))))))) (fun _ _ => ?_) ?_
   ·refine GH.many (rs := [10, 14]) (by kernel_rfl) (by simp) ?_
    refine GHs.cons rfl (Ex.wp (v := (.int .u32 (((pAt ps 0).xs.getD k 0)))) (Ex.load rfl T.ag52 (i := 4) rfl (trL_at _ _ k _ (by omega))) (by decide)) (fun _ => (ulC (ulC (ulC (ulC (ulS (ulS (ulS ulR)))))))) (fun _ _ => ?_) ?_
    ·refine GH.one 14 rfl (by kernel_rfl) (Ex.wp (v := (.int .u32 (((pAt ps 1).xs.getD k 0)))) (Ex.load rfl T.ag52 (i := 5) rfl (trL_at _ _ k _ (by omega))) (by decide)) (fun _ => (ulC (ulC (ulC (ulC (ulS (ulS (ulS ulR)))))))) (fun _ _ => ?_)
     refine GH.one 19 rfl (by kernel_rfl) (Stp.callR (vs := [(.int .u32 (((pAt ps 0).xs.getD k 0))), (.int .u32 (((pAt ps 1).xs.getD k 0))), (.int .u32 (((pAt ps 2).xs.getD k 0)))]) rfl rfl hf.1 (by decide) (fun wc hw => hf.2 _ (getD_mem (by omega)) _ (getD_mem (by omega)) _ (getD_mem (by omega)) wc hw.1)) (fun _ => (ulC (ulC (ulC (ulC (ulS (ulS (ulS ulR)))))))) (fun xq29 hq30 => ?_)
     refine GH.tk 20 (v := (.tuple #[(.int .u32 ((trF f ps k).1)), (.int .u32 ((trF f ps k).2.1)), (.int .u32 ((trF f ps k).2.2))])) rfl (by kernel_rfl) (fun _ _ _ h => h) (Ex.move rfl) (ulC (ulC (ulC (ulC (ulS (ulS (ulS ulR))))))) (by decide) ?_
     refine GH.tk 21 (v := (.int .u32 ((trF f ps k).1))) rfl (by kernel_rfl) (fun _ _ _ h => h) (Ex.extract rfl rfl) (ulC (ulC (ulC (ulC (ulS (ulS (ulS ulR))))))) (by decide) ?_
     refine GH.tk 22 (v := (.int .u32 ((trF f ps k).2.1))) rfl (by kernel_rfl) (fun _ _ _ h => h) (Ex.extract rfl rfl) (ulC (ulC (ulC (ulC (ulS (ulS (ulS ulR))))))) (by decide) ?_
     refine GH.tk 23 (v := (.int .u32 ((trF f ps k).2.2))) rfl (by kernel_rfl) (fun _ _ _ h => h) (Ex.extract rfl rfl) (ulC (ulC (ulC (ulC (ulS (ulS (ulS ulR))))))) (by decide) ?_
     refine GH.tk 24 (v := (.pointer (some ⟨b0, k, none⟩))) rfl (by kernel_rfl) (fun _ _ _ h => h) (Ex.cast (Ex.indexAddr rfl rfl Tryz.underlying53 T.sz52 (by omega) (by omega)) (by simp)) (ulC (ulC (ulC (ulC (ulS (ulS (ulS ulR))))))) (by decide) ?_
     refine GH.one 25 rfl (by kernel_rfl) (Stp.storeL (i := 4) (cs := (trL (fun k => (trF f ps k).1) (pAt ps 0).xs k).map u32 ++ s0) (vs := [(.int .u32 ((trF f ps k).1))]) (o := k) (L1 := (⟨bq5, [(.int .i64 sp), (.slice (some ⟨xb, 0, none⟩) n xc)], 24, true⟩ :: ⟨bq2, [(.int .i64 0), (.slice none 0 0)], 24, true⟩ :: ⟨bq1, [(.int .i64 sp), (.slice (some ⟨b, o, none⟩) n cap)], 24, true⟩ :: ⟨xb, [(.int .i64 ((pAt ps 0).W)), (.int .i64 ((pAt ps 0).H)), (.slice (some ⟨b0, 0, none⟩) A c0), (.int .i64 ((pAt ps 1).W)), (.int .i64 ((pAt ps 1).H)), (.slice (some ⟨b1, 0, none⟩) A c1), (.int .i64 ((pAt ps 2).W)), (.int .i64 ((pAt ps 2).H)), (.slice (some ⟨b2, 0, none⟩) A c2)] ++ (pcs (rs.map Nq.pn) ++ xsp), 75, true⟩ :: ⟨b0, (trL (fun k => (trF f ps k).1) (pAt ps 0).xs (k + 1)).map u32 ++ s0, 52, true⟩ :: ⟨b1, (trL (fun k => (trF f ps k).2.1) (pAt ps 1).xs k).map u32 ++ s1, 52, true⟩ :: ⟨b2, (trL (fun k => (trF f ps k).2.2) (pAt ps 2).xs k).map u32 ++ s2, 52, true⟩ :: (((rs.map (Nq.blk 52)) ++ []) ++ []))) rfl rfl rfl T.sz52 rfl (Nat.ble_eq_true_of_le (by rw [List.length_append, List.length_map, trL_len]; simp; omega)) rfl (by rw [show splice ((trL (fun k => (trF f ps k).1) (pAt ps 0).xs k).map u32 ++ s0) k [(.int .u32 ((trF f ps k).1))] = (trL (fun k => (trF f ps k).1) (pAt ps 0).xs (k + 1)).map u32 ++ s0 from trL_put (fun k => (trF f ps k).1) (pAt ps 0).xs k s0 (by omega)]; rfl)) (fun _ => (ulC (ulC (ulC (ulC (ulS (ulS (ulS ulR)))))))) (fun _ _ => ?_)
     refine GH.tk 26 (v := (.pointer (some ⟨b1, k, none⟩))) rfl (by kernel_rfl) (fun _ _ _ h => h) (Ex.cast (Ex.indexAddr rfl rfl Tryz.underlying53 T.sz52 (by omega) (by omega)) (by simp)) (ulC (ulC (ulC (ulC (ulS (ulS (ulS ulR))))))) (by decide) ?_
     refine GH.one 27 rfl (by kernel_rfl) (Stp.storeL (i := 5) (cs := (trL (fun k => (trF f ps k).2.1) (pAt ps 1).xs k).map u32 ++ s1) (vs := [(.int .u32 ((trF f ps k).2.1))]) (o := k) (L1 := (⟨bq5, [(.int .i64 sp), (.slice (some ⟨xb, 0, none⟩) n xc)], 24, true⟩ :: ⟨bq2, [(.int .i64 0), (.slice none 0 0)], 24, true⟩ :: ⟨bq1, [(.int .i64 sp), (.slice (some ⟨b, o, none⟩) n cap)], 24, true⟩ :: ⟨xb, [(.int .i64 ((pAt ps 0).W)), (.int .i64 ((pAt ps 0).H)), (.slice (some ⟨b0, 0, none⟩) A c0), (.int .i64 ((pAt ps 1).W)), (.int .i64 ((pAt ps 1).H)), (.slice (some ⟨b1, 0, none⟩) A c1), (.int .i64 ((pAt ps 2).W)), (.int .i64 ((pAt ps 2).H)), (.slice (some ⟨b2, 0, none⟩) A c2)] ++ (pcs (rs.map Nq.pn) ++ xsp), 75, true⟩ :: ⟨b0, (trL (fun k => (trF f ps k).1) (pAt ps 0).xs (k + 1)).map u32 ++ s0, 52, true⟩ :: ⟨b1, (trL (fun k => (trF f ps k).2.1) (pAt ps 1).xs (k + 1)).map u32 ++ s1, 52, true⟩ :: ⟨b2, (trL (fun k => (trF f ps k).2.2) (pAt ps 2).xs k).map u32 ++ s2, 52, true⟩ :: (((rs.map (Nq.blk 52)) ++ []) ++ []))) rfl rfl rfl T.sz52 rfl (Nat.ble_eq_true_of_le (by rw [List.length_append, List.length_map, trL_len]; simp; omega)) rfl (by rw [show splice ((trL (fun k => (trF f ps k).2.1) (pAt ps 1).xs k).map u32 ++ s1) k [(.int .u32 ((trF f ps k).2.1))] = (trL (fun k => (trF f ps k).2.1) (pAt ps 1).xs (k + 1)).map u32 ++ s1 from trL_put (fun k => (trF f ps k).2.1) (pAt ps 1).xs k s1 (by omega)]; rfl)) (fun _ => (ulC (ulC (ulC (ulC (ulS (ulS (ulS ulR)))))))) (fun _ _ => ?_)
     refine GH.tk 28 (v := (.pointer (some ⟨b2, k, none⟩))) rfl (by kernel_rfl) (fun _ _ _ h => h) (Ex.cast (Ex.indexAddr rfl rfl Tryz.underlying53 T.sz52 (by omega) (by omega)) (by simp)) (ulC (ulC (ulC (ulC (ulS (ulS (ulS ulR))))))) (by decide) ?_
     refine GH.done (by kernel_rfl) ?_
     refine GE.thenN ?_
     refine GE.tail rfl (Stp.storeL (i := 6) (cs := (trL (fun k => (trF f ps k).2.2) (pAt ps 2).xs k).map u32 ++ s2) (vs := [(.int .u32 ((trF f ps k).2.2))]) (o := k) (L1 := (⟨bq5, [(.int .i64 sp), (.slice (some ⟨xb, 0, none⟩) n xc)], 24, true⟩ :: ⟨bq2, [(.int .i64 0), (.slice none 0 0)], 24, true⟩ :: ⟨bq1, [(.int .i64 sp), (.slice (some ⟨b, o, none⟩) n cap)], 24, true⟩ :: ⟨xb, [(.int .i64 ((pAt ps 0).W)), (.int .i64 ((pAt ps 0).H)), (.slice (some ⟨b0, 0, none⟩) A c0), (.int .i64 ((pAt ps 1).W)), (.int .i64 ((pAt ps 1).H)), (.slice (some ⟨b1, 0, none⟩) A c1), (.int .i64 ((pAt ps 2).W)), (.int .i64 ((pAt ps 2).H)), (.slice (some ⟨b2, 0, none⟩) A c2)] ++ (pcs (rs.map Nq.pn) ++ xsp), 75, true⟩ :: ⟨b0, (trL (fun k => (trF f ps k).1) (pAt ps 0).xs (k + 1)).map u32 ++ s0, 52, true⟩ :: ⟨b1, (trL (fun k => (trF f ps k).2.1) (pAt ps 1).xs (k + 1)).map u32 ++ s1, 52, true⟩ :: ⟨b2, (trL (fun k => (trF f ps k).2.2) (pAt ps 2).xs (k + 1)).map u32 ++ s2, 52, true⟩ :: (((rs.map (Nq.blk 52)) ++ []) ++ []))) rfl rfl rfl T.sz52 rfl (Nat.ble_eq_true_of_le (by rw [List.length_append, List.length_map, trL_len]; simp; omega)) rfl (by rw [show splice ((trL (fun k => (trF f ps k).2.2) (pAt ps 2).xs k).map u32 ++ s2) k [(.int .u32 ((trF f ps k).2.2))] = (trL (fun k => (trF f ps k).2.2) (pAt ps 2).xs (k + 1)).map u32 ++ s2 from trL_put (fun k => (trF f ps k).2.2) (pAt ps 2).xs k s2 (by omega)]; rfl)) (fun _ _ => ?_)
     refine GE.thenN ?_
     exact St.hp (()) trivial ((sub_cons rfl ((sub_cons rfl ((sub_cons rfl ((sub_cons rfl ((sub_cons rfl ((sub_cons rfl ((sub_cons rfl ((sub_cons rfl ((sub_cons rfl ((sub_cons rfl ((sub_nil _)))))))))))))))))))))) (fun w h => by exact Hp.segsT (T := []) (A := [[⟨bq5, [(.int .i64 sp), (.slice (some ⟨xb, 0, none⟩) n xc)], 24, true⟩], [⟨bq2, [(.int .i64 0), (.slice none 0 0)], 24, true⟩], [⟨bq1, [(.int .i64 sp), (.slice (some ⟨b, o, none⟩) n cap)], 24, true⟩], [⟨xb, [(.int .i64 ((pAt ps 0).W)), (.int .i64 ((pAt ps 0).H)), (.slice (some ⟨b0, 0, none⟩) A c0), (.int .i64 ((pAt ps 1).W)), (.int .i64 ((pAt ps 1).H)), (.slice (some ⟨b1, 0, none⟩) A c1), (.int .i64 ((pAt ps 2).W)), (.int .i64 ((pAt ps 2).H)), (.slice (some ⟨b2, 0, none⟩) A c2)] ++ (pcs (rs.map Nq.pn) ++ xsp), 75, true⟩], [⟨b0, (trL (fun k => (trF f ps k).1) (pAt ps 0).xs (k + 1)).map u32 ++ s0, 52, true⟩], [⟨b1, (trL (fun k => (trF f ps k).2.1) (pAt ps 1).xs (k + 1)).map u32 ++ s1, 52, true⟩], [⟨b2, (trL (fun k => (trF f ps k).2.2) (pAt ps 2).xs (k + 1)).map u32 ++ s2, 52, true⟩], ((rs.map (Nq.blk 52)) ++ [])]) (idx := [0, 1, 2, 3, 4, 5, 6, 7]) 8 [] h rfl (by decide) rfl)
    refine GHs.cons rfl (Ex.wp (v := (.int .u32 (((pAt ps 1).xs.getD k 0)))) (Ex.load rfl T.ag52 (i := 5) rfl (trL_at _ _ k _ (by omega))) (by decide)) (fun _ => (ulC (ulC (ulC (ulC (ulS (ulS (ulS ulR)))))))) (fun _ _ => ?_) ?_
    ·refine GH.one 10 rfl (by kernel_rfl) (Ex.wp (v := (.int .u32 (((pAt ps 0).xs.getD k 0)))) (Ex.load rfl T.ag52 (i := 4) rfl (trL_at _ _ k _ (by omega))) (by decide)) (fun _ => (ulC (ulC (ulC (ulC (ulS (ulS (ulS ulR)))))))) (fun _ _ => ?_)
     refine GH.one 19 rfl (by kernel_rfl) (Stp.callR (vs := [(.int .u32 (((pAt ps 0).xs.getD k 0))), (.int .u32 (((pAt ps 1).xs.getD k 0))), (.int .u32 (((pAt ps 2).xs.getD k 0)))]) rfl rfl hf.1 (by decide) (fun wc hw => hf.2 _ (getD_mem (by omega)) _ (getD_mem (by omega)) _ (getD_mem (by omega)) wc hw.1)) (fun _ => (ulC (ulC (ulC (ulC (ulS (ulS (ulS ulR)))))))) (fun xq31 hq32 => ?_)
     refine GH.tk 20 (v := (.tuple #[(.int .u32 ((trF f ps k).1)), (.int .u32 ((trF f ps k).2.1)), (.int .u32 ((trF f ps k).2.2))])) rfl (by kernel_rfl) (fun _ _ _ h => h) (Ex.move rfl) (ulC (ulC (ulC (ulC (ulS (ulS (ulS ulR))))))) (by decide) ?_
     refine GH.tk 21 (v := (.int .u32 ((trF f ps k).1))) rfl (by kernel_rfl) (fun _ _ _ h => h) (Ex.extract rfl rfl) (ulC (ulC (ulC (ulC (ulS (ulS (ulS ulR))))))) (by decide) ?_
     refine GH.tk 22 (v := (.int .u32 ((trF f ps k).2.1))) rfl (by kernel_rfl) (fun _ _ _ h => h) (Ex.extract rfl rfl) (ulC (ulC (ulC (ulC (ulS (ulS (ulS ulR))))))) (by decide) ?_
     refine GH.tk 23 (v := (.int .u32 ((trF f ps k).2.2))) rfl (by kernel_rfl) (fun _ _ _ h => h) (Ex.extract rfl rfl) (ulC (ulC (ulC (ulC (ulS (ulS (ulS ulR))))))) (by decide) ?_
     refine GH.tk 24 (v := (.pointer (some ⟨b0, k, none⟩))) rfl (by kernel_rfl) (fun _ _ _ h => h) (Ex.cast (Ex.indexAddr rfl rfl Tryz.underlying53 T.sz52 (by omega) (by omega)) (by simp)) (ulC (ulC (ulC (ulC (ulS (ulS (ulS ulR))))))) (by decide) ?_
     refine GH.one 25 rfl (by kernel_rfl) (Stp.storeL (i := 4) (cs := (trL (fun k => (trF f ps k).1) (pAt ps 0).xs k).map u32 ++ s0) (vs := [(.int .u32 ((trF f ps k).1))]) (o := k) (L1 := (⟨bq5, [(.int .i64 sp), (.slice (some ⟨xb, 0, none⟩) n xc)], 24, true⟩ :: ⟨bq2, [(.int .i64 0), (.slice none 0 0)], 24, true⟩ :: ⟨bq1, [(.int .i64 sp), (.slice (some ⟨b, o, none⟩) n cap)], 24, true⟩ :: ⟨xb, [(.int .i64 ((pAt ps 0).W)), (.int .i64 ((pAt ps 0).H)), (.slice (some ⟨b0, 0, none⟩) A c0), (.int .i64 ((pAt ps 1).W)), (.int .i64 ((pAt ps 1).H)), (.slice (some ⟨b1, 0, none⟩) A c1), (.int .i64 ((pAt ps 2).W)), (.int .i64 ((pAt ps 2).H)), (.slice (some ⟨b2, 0, none⟩) A c2)] ++ (pcs (rs.map Nq.pn) ++ xsp), 75, true⟩ :: ⟨b0, (trL (fun k => (trF f ps k).1) (pAt ps 0).xs (k + 1)).map u32 ++ s0, 52, true⟩ :: ⟨b1, (trL (fun k => (trF f ps k).2.1) (pAt ps 1).xs k).map u32 ++ s1, 52, true⟩ :: ⟨b2, (trL (fun k => (trF f ps k).2.2) (pAt ps 2).xs k).map u32 ++ s2, 52, true⟩ :: (((rs.map (Nq.blk 52)) ++ []) ++ []))) rfl rfl rfl T.sz52 rfl (Nat.ble_eq_true_of_le (by rw [List.length_append, List.length_map, trL_len]; simp; omega)) rfl (by rw [show splice ((trL (fun k => (trF f ps k).1) (pAt ps 0).xs k).map u32 ++ s0) k [(.int .u32 ((trF f ps k).1))] = (trL (fun k => (trF f ps k).1) (pAt ps 0).xs (k + 1)).map u32 ++ s0 from trL_put (fun k => (trF f ps k).1) (pAt ps 0).xs k s0 (by omega)]; rfl)) (fun _ => (ulC (ulC (ulC (ulC (ulS (ulS (ulS ulR)))))))) (fun _ _ => ?_)
     refine GH.tk 26 (v := (.pointer (some ⟨b1, k, none⟩))) rfl (by kernel_rfl) (fun _ _ _ h => h) (Ex.cast (Ex.indexAddr rfl rfl Tryz.underlying53 T.sz52 (by omega) (by omega)) (by simp)) (ulC (ulC (ulC (ulC (ulS (ulS (ulS ulR))))))) (by decide) ?_
     refine GH.one 27 rfl (by kernel_rfl) (Stp.storeL (i := 5) (cs := (trL (fun k => (trF f ps k).2.1) (pAt ps 1).xs k).map u32 ++ s1) (vs := [(.int .u32 ((trF f ps k).2.1))]) (o := k) (L1 := (⟨bq5, [(.int .i64 sp), (.slice (some ⟨xb, 0, none⟩) n xc)], 24, true⟩ :: ⟨bq2, [(.int .i64 0), (.slice none 0 0)], 24, true⟩ :: ⟨bq1, [(.int .i64 sp), (.slice (some ⟨b, o, none⟩) n cap)], 24, true⟩ :: ⟨xb, [(.int .i64 ((pAt ps 0).W)), (.int .i64 ((pAt ps 0).H)), (.slice (some ⟨b0, 0, none⟩) A c0), (.int .i64 ((pAt ps 1).W)), (.int .i64 ((pAt ps 1).H)), (.slice (some ⟨b1, 0, none⟩) A c1), (.int .i64 ((pAt ps 2).W)), (.int .i64 ((pAt ps 2).H)), (.slice (some ⟨b2, 0, none⟩) A c2)] ++ (pcs (rs.map Nq.pn) ++ xsp), 75, true⟩ :: ⟨b0, (trL (fun k => (trF f ps k).1) (pAt ps 0).xs (k + 1)).map u32 ++ s0, 52, true⟩ :: ⟨b1, (trL (fun k => (trF f ps k).2.1) (pAt ps 1).xs (k + 1)).map u32 ++ s1, 52, true⟩ :: ⟨b2, (trL (fun k => (trF f ps k).2.2) (pAt ps 2).xs k).map u32 ++ s2, 52, true⟩ :: (((rs.map (Nq.blk 52)) ++ []) ++ []))) rfl rfl rfl T.sz52 rfl (Nat.ble_eq_true_of_le (by rw [List.length_append, List.length_map, trL_len]; simp; omega)) rfl (by rw [show splice ((trL (fun k => (trF f ps k).2.1) (pAt ps 1).xs k).map u32 ++ s1) k [(.int .u32 ((trF f ps k).2.1))] = (trL (fun k => (trF f ps k).2.1) (pAt ps 1).xs (k + 1)).map u32 ++ s1 from trL_put (fun k => (trF f ps k).2.1) (pAt ps 1).xs k s1 (by omega)]; rfl)) (fun _ => (ulC (ulC (ulC (ulC (ulS (ulS (ulS ulR)))))))) (fun _ _ => ?_)
     refine GH.tk 28 (v := (.pointer (some ⟨b2, k, none⟩))) rfl (by kernel_rfl) (fun _ _ _ h => h) (Ex.cast (Ex.indexAddr rfl rfl Tryz.underlying53 T.sz52 (by omega) (by omega)) (by simp)) (ulC (ulC (ulC (ulC (ulS (ulS (ulS ulR))))))) (by decide) ?_
     refine GH.done (by kernel_rfl) ?_
     refine GE.thenN ?_
     refine GE.tail rfl (Stp.storeL (i := 6) (cs := (trL (fun k => (trF f ps k).2.2) (pAt ps 2).xs k).map u32 ++ s2) (vs := [(.int .u32 ((trF f ps k).2.2))]) (o := k) (L1 := (⟨bq5, [(.int .i64 sp), (.slice (some ⟨xb, 0, none⟩) n xc)], 24, true⟩ :: ⟨bq2, [(.int .i64 0), (.slice none 0 0)], 24, true⟩ :: ⟨bq1, [(.int .i64 sp), (.slice (some ⟨b, o, none⟩) n cap)], 24, true⟩ :: ⟨xb, [(.int .i64 ((pAt ps 0).W)), (.int .i64 ((pAt ps 0).H)), (.slice (some ⟨b0, 0, none⟩) A c0), (.int .i64 ((pAt ps 1).W)), (.int .i64 ((pAt ps 1).H)), (.slice (some ⟨b1, 0, none⟩) A c1), (.int .i64 ((pAt ps 2).W)), (.int .i64 ((pAt ps 2).H)), (.slice (some ⟨b2, 0, none⟩) A c2)] ++ (pcs (rs.map Nq.pn) ++ xsp), 75, true⟩ :: ⟨b0, (trL (fun k => (trF f ps k).1) (pAt ps 0).xs (k + 1)).map u32 ++ s0, 52, true⟩ :: ⟨b1, (trL (fun k => (trF f ps k).2.1) (pAt ps 1).xs (k + 1)).map u32 ++ s1, 52, true⟩ :: ⟨b2, (trL (fun k => (trF f ps k).2.2) (pAt ps 2).xs (k + 1)).map u32 ++ s2, 52, true⟩ :: (((rs.map (Nq.blk 52)) ++ []) ++ []))) rfl rfl rfl T.sz52 rfl (Nat.ble_eq_true_of_le (by rw [List.length_append, List.length_map, trL_len]; simp; omega)) rfl (by rw [show splice ((trL (fun k => (trF f ps k).2.2) (pAt ps 2).xs k).map u32 ++ s2) k [(.int .u32 ((trF f ps k).2.2))] = (trL (fun k => (trF f ps k).2.2) (pAt ps 2).xs (k + 1)).map u32 ++ s2 from trL_put (fun k => (trF f ps k).2.2) (pAt ps 2).xs k s2 (by omega)]; rfl)) (fun _ _ => ?_)
     refine GE.thenN ?_
     exact St.hp (()) trivial ((sub_cons rfl ((sub_cons rfl ((sub_cons rfl ((sub_cons rfl ((sub_cons rfl ((sub_cons rfl ((sub_cons rfl ((sub_cons rfl ((sub_cons rfl ((sub_cons rfl ((sub_nil _)))))))))))))))))))))) (fun w h => by exact Hp.segsT (T := []) (A := [[⟨bq5, [(.int .i64 sp), (.slice (some ⟨xb, 0, none⟩) n xc)], 24, true⟩], [⟨bq2, [(.int .i64 0), (.slice none 0 0)], 24, true⟩], [⟨bq1, [(.int .i64 sp), (.slice (some ⟨b, o, none⟩) n cap)], 24, true⟩], [⟨xb, [(.int .i64 ((pAt ps 0).W)), (.int .i64 ((pAt ps 0).H)), (.slice (some ⟨b0, 0, none⟩) A c0), (.int .i64 ((pAt ps 1).W)), (.int .i64 ((pAt ps 1).H)), (.slice (some ⟨b1, 0, none⟩) A c1), (.int .i64 ((pAt ps 2).W)), (.int .i64 ((pAt ps 2).H)), (.slice (some ⟨b2, 0, none⟩) A c2)] ++ (pcs (rs.map Nq.pn) ++ xsp), 75, true⟩], [⟨b0, (trL (fun k => (trF f ps k).1) (pAt ps 0).xs (k + 1)).map u32 ++ s0, 52, true⟩], [⟨b1, (trL (fun k => (trF f ps k).2.1) (pAt ps 1).xs (k + 1)).map u32 ++ s1, 52, true⟩], [⟨b2, (trL (fun k => (trF f ps k).2.2) (pAt ps 2).xs (k + 1)).map u32 ++ s2, 52, true⟩], ((rs.map (Nq.blk 52)) ++ [])]) (idx := [0, 1, 2, 3, 4, 5, 6, 7]) 8 [] h rfl (by decide) rfl)
    exact GHs.nil
   exact GHs.nil
  refine GE.blockN (GE.thenN (GC.region ?_))
  refine GL.val (v := (.int .i64 (((k + 1 : Nat) : Int)))) (Ex.add rfl rfl (Z := ((k + 1 : Nat) : Int)) (by rw [w64 (by omega)]; rfl)) (by decide) ?_
  refine GL.mv rfl (by decide) ?_
  refine GL.nil (GE.thenN ?_)
  exact Head.mk (k + 1) (by omega) (by omega) ((sub_cons rfl ((sub_cons rfl ((sub_cons rfl ((sub_cons rfl ((sub_cons rfl ((sub_cons rfl ((sub_cons rfl ((sub_cons rfl ((sub_nil _)))))))))))))))))) (ulC (ulC (ulC (ulC (ulC (ulC (ulC ulR)))))))
 ·replace hq7 := of_decide_eq_false hq7
  refine GC.exit (GE.thenE (GE.thenE (GE.blockE (GE.thenN (GC.seq ?_)))))
  have hrow2 : pcs ((⟨(pAt ps 0).W, (pAt ps 0).H, (List.range A).map (fun k => (trF f ps k).1), b0, c0, s0⟩ :: ⟨(pAt ps 1).W, (pAt ps 1).H, (List.range A).map (fun k => (trF f ps k).2.1), b1, c1, s1⟩ :: ⟨(pAt ps 2).W, (pAt ps 2).H, (List.range A).map (fun k => (trF f ps k).2.2), b2, c2, s2⟩ :: rs : List Nq).map Nq.pn) ++ xsp = [(.int .i64 ((pAt ps 0).W)), (.int .i64 ((pAt ps 0).H)), (.slice (some ⟨b0, 0, none⟩) A c0), (.int .i64 ((pAt ps 1).W)), (.int .i64 ((pAt ps 1).H)), (.slice (some ⟨b1, 0, none⟩) A c1), (.int .i64 ((pAt ps 2).W)), (.int .i64 ((pAt ps 2).H)), (.slice (some ⟨b2, 0, none⟩) A c2)] ++ (pcs (rs.map Nq.pn) ++ xsp) := by simp [pcs, Pn.cs, Nq.pn]
  have hkA : k = A := by omega
  refine GC.hp (L2 := (⟨bq5, [(.int .i64 sp), (.slice (some ⟨xb, 0, none⟩) n xc)], 24, true⟩ :: ⟨bq2, [(.int .i64 0), (.slice none 0 0)], 24, true⟩ :: ⟨bq1, [(.int .i64 sp), (.slice (some ⟨b, o, none⟩) n cap)], 24, true⟩ :: ⟨xb, pcs ((⟨(pAt ps 0).W, (pAt ps 0).H, (List.range A).map (fun k => (trF f ps k).1), b0, c0, s0⟩ :: ⟨(pAt ps 1).W, (pAt ps 1).H, (List.range A).map (fun k => (trF f ps k).2.1), b1, c1, s1⟩ :: ⟨(pAt ps 2).W, (pAt ps 2).H, (List.range A).map (fun k => (trF f ps k).2.2), b2, c2, s2⟩ :: rs : List Nq).map Nq.pn) ++ xsp, 75, true⟩ :: ⟨b0, ((List.range A).map (fun k => (trF f ps k).1)).map u32 ++ s0, 52, true⟩ :: ⟨b1, ((List.range A).map (fun k => (trF f ps k).2.1)).map u32 ++ s1, 52, true⟩ :: ⟨b2, ((List.range A).map (fun k => (trF f ps k).2.2)).map u32 ++ s2, 52, true⟩ :: (((rs.map (Nq.blk 52)) ++ []) ++ []))) (fun w h' => by rw [hkA, trL_full hx0, trL_full hx1, trL_full hx2, ← hrow2] at h'; exact h') ?_
  refine GC.region ?_
  refine GL.val (v := (.agg #[(.int .i64 sp), (.slice (some ⟨xb, 0, none⟩) n xc)])) (Ex.loadA rfl T.ag24 T.sz24 (i := 0) rfl (vs := [(.int .i64 sp), (.slice (some ⟨xb, 0, none⟩) n xc)]) rfl rfl) (by decide) ?_
  refine GL.step (Stp.st1 (cs' := [(.int .i64 sp), (.slice (some ⟨xb, 0, none⟩) n xc)]) rfl rfl rfl T.sz24 rfl rfl rfl) (fun _ _ => ?_)
  refine GL.sg rfl (by decide) ?_
  refine GL.nil (GE.thenN (GC.ret ?_))
  refine GC.ret2 rfl (Rv.cellA rfl T.ag24 T.sz24 (L := _) (i := 1) rfl (vs := [(.int .i64 sp), (.slice (some ⟨xb, 0, none⟩) n xc)]) rfl rfl) (Rv.tmp rfl) (fun wN HN => ?_)
  have htr := Ac.tri (y0 := (List.range A).map (fun k => (trF f ps k).1)) (y1 := (List.range A).map (fun k => (trF f ps k).2.1)) (y2 := (List.range A).map (fun k => (trF f ps k).2.2)) hq4.2.2.1 hq4.2.2.2 (by simp [hx0]) (by simp [hx1]) (by simp [hx2])
  exact HN.ret (⟨⟨(pAt ps 0).W, (pAt ps 0).H, (List.range A).map (fun k => (trF f ps k).1), b0, c0, s0⟩ :: ⟨(pAt ps 1).W, (pAt ps 1).H, (List.range A).map (fun k => (trF f ps k).2.1), b1, c1, s1⟩ :: ⟨(pAt ps 2).W, (pAt ps 2).H, (List.range A).map (fun k => (trF f ps k).2.2), b2, c2, s2⟩ :: rs, xb, xc, xsp⟩ : Ac) ⟨List.cons_ne_nil _ _, tr_ds (ps := ps) (A := A) (f := f) hn3 rfl rfl rfl d3, htr.1, htr.2⟩ (by rw [← hnx]; rfl) (by rw [List.append_nil]; exact ((ulS (ulS (ulS (ulC (ulC (ulC (ulC ulR))))))))) (Ac.blks_own _ _ _)

theorem q63_1 (w : World) :
  Calls Tryz.prog 63 #[(.int .u32 0)] w (Ret w (fun _ : Unit => True) (fun rz => (.float .f64 0)) (fun rz => [])) := by
 refine enter (M := None) (L := []) (n := 6) (l := [(0, (.int .u32 0))]) Tryz.func63 rfl rfl (Args.cons rfl (Args.nil _)) (Hp.start _ _) ?_
 refine GC.seq (GC.region ?_)
 refine GL.sg rfl (by decide) ?_
 refine GL.nil (GE.thenN (GC.seq (GC.region ?_)))
 refine GL.mv rfl (by decide) ?_
 refine GL.val (v := (.float .f32 0)) (Ex.ext (vs := [(.int .u32 0)]) rfl rfl T.ext103 (fun _ => by first | rfl | kernel_rfl)) (by decide) ?_
 refine GL.val (v := (.float .f64 0)) (Ex.cff (r := 0) rfl Tryz.underlying145 Tryz.underlying108 (by kernel_rfl)) (by decide) ?_
 refine GL.sg rfl (by decide) ?_
 refine GL.nil (GE.thenN (GC.ret ?_))
 refine GC.ret1 rfl (Rv.tmp rfl) (fun wN HN => ?_)
 exact HN.ret () trivial rfl ulN rfl

theorem q63_2 (w : World) :
  Calls Tryz.prog 63 #[(.int .u32 1065353216)] w (Ret w (fun _ : Unit => True) (fun rz => (.float .f64 4607182418800017408)) (fun rz => [])) := by
 refine enter (M := None) (L := []) (n := 6) (l := [(0, (.int .u32 1065353216))]) Tryz.func63 rfl rfl (Args.cons rfl (Args.nil _)) (Hp.start _ _) ?_
 refine GC.seq (GC.region ?_)
 refine GL.sg rfl (by decide) ?_
 refine GL.nil (GE.thenN (GC.seq (GC.region ?_)))
 refine GL.mv rfl (by decide) ?_
 refine GL.val (v := (.float .f32 1065353216)) (Ex.ext (vs := [(.int .u32 1065353216)]) rfl rfl T.ext103 (fun _ => by first | rfl | kernel_rfl)) (by decide) ?_
 refine GL.val (v := (.float .f64 4607182418800017408)) (Ex.cff (r := 4607182418800017408) rfl Tryz.underlying145 Tryz.underlying108 (by kernel_rfl)) (by decide) ?_
 refine GL.sg rfl (by decide) ?_
 refine GL.nil (GE.thenN (GC.ret ?_))
 refine GC.ret1 rfl (Rv.tmp rfl) (fun wN HN => ?_)
 exact HN.ret () trivial rfl ulN rfl

theorem matrix_sw (sp : Int) (b o n cap : Nat) (ps : List Pn) (W H : Nat) (A : Nat) (f : Int → Int → Int → Int × Int × Int) (w : World) (hps : Pns w b o ps) (hn : n = ps.length) (hok : OkPic sp ps W H) (hA : A = W * H) (hn3 : 3 ≤ n) (hm : ∀ (bR : Nat) (w' : World), Has w' [⟨bR, [(.float .f64 0), (.float .f64 0), (.float .f64 4607182418800017408), (.float .f64 0), (.float .f64 4607182418800017408), (.float .f64 0), (.float .f64 4607182418800017408), (.float .f64 0), (.float .f64 0)], 110, false⟩] → ∀ x ∈ (pAt ps 0).xs, ∀ y ∈ (pAt ps 1).xs, ∀ z ∈ (pAt ps 2).xs, Calls Tryz.prog 64 #[.int .u32 x, .int .u32 y, .int .u32 z, .pointer (some ⟨bR, 0, none⟩)] w' (Ret w' (fun _ : Unit => True) (fun _ => .tuple #[.int .u32 (f x y z).1, .int .u32 (f x y z).2.1, .int .u32 (f x y z).2.2]) (fun _ => []))) :
  Calls Tryz.prog 27 #[(.agg #[(.int .i64 sp), (.slice (some ⟨b, o, none⟩) n cap)]), (.agg #[(.int .u32 0), (.int .u32 0), (.int .u32 1065353216), (.int .u32 0), (.int .u32 1065353216), (.int .u32 0), (.int .u32 1065353216), (.int .u32 0), (.int .u32 0)])] w (Ret w (fun r : Ac => r.qs ≠ [] ∧ r.ds = ((List.range n).map (trD f ps A)) ∧ r.Ok ∧ ∀ q ∈ r.qs, q.Ok) (fun r => .tuple #[(.agg #[(.int .i64 sp), (.slice r.ad r.n r.cp)]), .int .i64 0]) (fun r => r.blks 75 52)) := by
 refine enter (M := None) (L := []) (n := 40) (l := [(0, (.agg #[(.int .i64 sp), (.slice (some ⟨b, o, none⟩) n cap)])), (1, (.agg #[(.int .u32 0), (.int .u32 0), (.int .u32 1065353216), (.int .u32 0), (.int .u32 1065353216), (.int .u32 0), (.int .u32 1065353216), (.int .u32 0), (.int .u32 0)]))]) Tryz.func27 rfl rfl (Args.cons rfl (Args.cons rfl (Args.nil _))) (Hp.start _ _) ?_
 refine GC.seq (GC.region ?_)
 refine GL.step (Stp.box (cs := [(.int .i64 sp), (.slice (some ⟨b, o, none⟩) n cap)]) rfl rfl (by decide)) (fun bq1 _ => ?_)
 refine GL.step (Stp.box (cs := [(.int .u32 0), (.int .u32 0), (.int .u32 1065353216), (.int .u32 0), (.int .u32 1065353216), (.int .u32 0), (.int .u32 1065353216), (.int .u32 0), (.int .u32 0)]) rfl rfl (by decide)) (fun bq2 _ => ?_)
 refine GL.step (Stp.alloc T.zr24 (by decide)) (fun bq3 _ => ?_)
 refine GL.sg rfl (by decide) ?_
 refine GL.nil (GE.thenN (GC.seq (GC.seq (GC.region ?_))))
 refine GL.val (v := (.agg #[(.int .i64 sp), (.slice (some ⟨b, o, none⟩) n cap)])) (Ex.loadA rfl T.ag24 T.sz24 (i := 2) rfl (vs := [(.int .i64 sp), (.slice (some ⟨b, o, none⟩) n cap)]) rfl rfl) (by decide) ?_
 refine GL.step (Stp.callR (σ := Unit) (p := fun rz => True) (v := fun rz => (.int .i64 0)) (N := fun rz => []) (vs := [(.agg #[(.int .i64 sp), (.slice (some ⟨b, o, none⟩) n cap)])]) rfl rfl T.own48 (by decide) (fun wc hw => (by have h := chk_p sp b o n cap ps wc (hps.later hw.1) hn (by have := hok.n4; omega); rw [hok.chk] at h; exact h))) (fun xq4 hq5 => ?_)
 refine GL.sg rfl (by decide) ?_
 refine GL.nil (GE.thenN (GC.seq (GC.region ?_)))
 refine GL.mv rfl (by decide) ?_
 refine GL.val (v := (.bool false)) (Ex.cast (Ex.neq rfl rfl) rfl) (by decide) ?_
 refine GL.nil (GE.thenN ?_)
 refine GC.cond rfl (fun hq6 => by cases hq6) (fun _ => ?_)
 refine GC.skip (GE.thenN (GC.seq (GC.seq (GC.region ?_))))
 refine GL.val (v := (.pointer (some ⟨bq1, 1, none⟩))) (Ex.cast (Ex.fieldAddr rfl Tryz.underlying24 rfl T.sz22 (by decide)) rfl) (by decide) ?_
 refine GL.val (Ex.load rfl T.ag22 (i := 2) rfl rfl) (by decide) ?_
 refine GL.val (v := (.int .i64 ((n : Int)))) (Ex.len rfl Tryz.underlying22) (by decide) ?_
 refine GL.val (v := (.bool false)) (Ex.cast (Ex.lss rfl rfl) (congrArg Value.bool (decide_eq_false (by omega)))) (by decide) ?_
 refine GL.nil (GE.thenN ?_)
 refine GC.cond rfl (fun hq7 => by cases hq7) (fun _ => ?_)
 refine GC.skip (GE.thenN (GC.seq (GC.region ?_)))
 refine GL.step (Stp.alloc T.zr110 (by decide)) (fun bq8 _ => ?_)
 refine GL.nil (GE.thenN (GC.seq (GC.seq (GC.region ?_))))
 refine GL.val (v := (.agg #[(.int .u32 0), (.int .u32 0), (.int .u32 1065353216), (.int .u32 0), (.int .u32 1065353216), (.int .u32 0), (.int .u32 1065353216), (.int .u32 0), (.int .u32 0)])) (Ex.loadA rfl T.ag62 T.sz62 (i := 2) rfl (vs := [(.int .u32 0), (.int .u32 0), (.int .u32 1065353216), (.int .u32 0), (.int .u32 1065353216), (.int .u32 0), (.int .u32 1065353216), (.int .u32 0), (.int .u32 0)]) rfl rfl) (by decide) ?_
 refine GL.mv rfl (by decide) ?_
 refine GL.nil (GE.thenN (GC.block ?_))
 refine GC.unroll 10 ?_
 refine GE.round (GC.seq (GC.region ?_))
 refine GL.val (v := (.bool true)) (Ex.cast (Ex.lss rfl rfl) rfl) (by decide) ?_
 refine GL.nil (GE.thenN (GC.seq ?_))
 refine GC.cond rfl (fun _ => ?_) (fun hq9 => by cases hq9)
 refine GC.skip (GE.thenN (GC.seq (GC.block (GC.seq (GC.region ?_)))))
 refine GL.mv rfl (by decide) ?_
 refine GL.val (v := (.int .u32 0)) (Ex.index1 rfl rfl Tryz.underlying62 T.sz52 T.ag52 (by decide) (by decide) rfl) (by decide) ?_
 refine GL.sg rfl (by decide) ?_
 refine GL.sg rfl (by decide) ?_
 refine GL.nil (GE.thenN ?_)
 refine GC.draw [⟨bq3, [(.int .i64 0), (.slice none 0 0)], 24, true⟩, ⟨bq2, [(.int .u32 0), (.int .u32 0), (.int .u32 1065353216), (.int .u32 0), (.int .u32 1065353216), (.int .u32 0), (.int .u32 1065353216), (.int .u32 0), (.int .u32 0)], 62, true⟩, ⟨bq1, [(.int .i64 sp), (.slice (some ⟨b, o, none⟩) n cap)], 24, true⟩] T.mixed (fuel := 9) rfl rfl ?_
 refine GH.tk 0 (v := (.int .i64 0)) rfl (by kernel_rfl) (fun _ _ _ h => h) (Ex.move rfl) (ulS (ulC (ulC (ulC ulN)))) (by decide) ?_
 refine GH.tk 1 (v := (.int .i64 0)) rfl (by kernel_rfl) (fun _ _ _ h => h) (Ex.quo rfl rfl (Z := 0) (by decide) (by decide)) (ulS (ulC (ulC (ulC ulN)))) (by decide) ?_
 refine GH.tk 2 (v := (.int .i64 0)) rfl (by kernel_rfl) (fun _ _ _ h => h) (Ex.move rfl) (ulS (ulC (ulC (ulC ulN)))) (by decide) ?_
 refine GH.tk 3 (v := (.int .i64 0)) rfl (by kernel_rfl) (fun _ _ _ h => h) (Ex.rem rfl rfl (Z := 0) (by decide) (by decide)) (ulS (ulC (ulC (ulC ulN)))) (by decide) ?_
 refine GH.tk 4 (v := (.int .u32 0)) rfl (by kernel_rfl) (fun _ _ _ h => h) (Ex.move rfl) (ulS (ulC (ulC (ulC ulN)))) (by decide) ?_
 refine GH.tk 6 (v := (.pointer (some ⟨bq8, 0, none⟩))) rfl (by kernel_rfl) (fun _ _ _ h => h) (Ex.cast (Ex.indexArr (m := 3) rfl rfl Tryz.underlying110 T.sz109 (by decide) (by decide)) rfl) (ulS (ulC (ulC (ulC ulN)))) (by decide) ?_
 refine GH.one 5 rfl (by kernel_rfl) (Stp.callR (vs := [(.int .u32 0)]) rfl rfl T.own63 (by decide) (fun wc hw => q63_1  wc )) (fun _ => (ulS (ulC (ulC (ulC ulN))))) (fun xq10 hq11 => ?_)
 refine GH.tk 7 (v := (.pointer (some ⟨bq8, 0, none⟩))) rfl (by kernel_rfl) (fun _ _ _ h => h) (Ex.cast (Ex.indexArr (m := 3) rfl rfl Tryz.underlying109 T.sz108 (by decide) (by decide)) rfl) (ulS (ulC (ulC (ulC ulN)))) (by decide) ?_
 refine GH.one 8 rfl (by kernel_rfl) (Stp.st0 (cs' := [(.float .f64 0), (.float .f64 0), (.float .f64 0), (.float .f64 0), (.float .f64 0), (.float .f64 0), (.float .f64 0), (.float .f64 0), (.float .f64 0)]) rfl rfl rfl T.sz108 rfl rfl rfl) (fun _ => (ulS (ulC (ulC (ulC ulN))))) (fun _ _ => ?_)
 refine GH.done (by kernel_rfl) ?_
 refine GE.blockN (GE.thenN (GC.region ?_))
 refine GL.val (v := (.int .i64 1)) (Ex.add rfl rfl (Z := 1) (by decide)) (by decide) ?_
 refine GL.mv rfl (by decide) ?_
 refine GL.nil (GE.thenN (GE.round (GC.seq (GC.region ?_))))
 refine GL.val (v := (.bool true)) (Ex.cast (Ex.lss rfl rfl) rfl) (by decide) ?_
 refine GL.nil (GE.thenN (GC.seq ?_))
 refine GC.cond rfl (fun _ => ?_) (fun hq12 => by cases hq12)
 refine GC.skip (GE.thenN (GC.seq (GC.block (GC.seq (GC.region ?_)))))
 refine GL.mv rfl (by decide) ?_
 refine GL.val (v := (.int .u32 0)) (Ex.index1 rfl rfl Tryz.underlying62 T.sz52 T.ag52 (by decide) (by decide) rfl) (by decide) ?_
 refine GL.sg rfl (by decide) ?_
 refine GL.sg rfl (by decide) ?_
 refine GL.nil (GE.thenN ?_)
 refine GC.draw [⟨bq3, [(.int .i64 0), (.slice none 0 0)], 24, true⟩, ⟨bq2, [(.int .u32 0), (.int .u32 0), (.int .u32 1065353216), (.int .u32 0), (.int .u32 1065353216), (.int .u32 0), (.int .u32 1065353216), (.int .u32 0), (.int .u32 0)], 62, true⟩, ⟨bq1, [(.int .i64 sp), (.slice (some ⟨b, o, none⟩) n cap)], 24, true⟩] T.mixed (fuel := 9) rfl rfl ?_
 refine GH.tk 0 (v := (.int .i64 1)) rfl (by kernel_rfl) (fun _ _ _ h => h) (Ex.move rfl) (ulS (ulC (ulC (ulC ulN)))) (by decide) ?_
 refine GH.tk 1 (v := (.int .i64 0)) rfl (by kernel_rfl) (fun _ _ _ h => h) (Ex.quo rfl rfl (Z := 0) (by decide) (by decide)) (ulS (ulC (ulC (ulC ulN)))) (by decide) ?_
 refine GH.tk 2 (v := (.int .i64 1)) rfl (by kernel_rfl) (fun _ _ _ h => h) (Ex.move rfl) (ulS (ulC (ulC (ulC ulN)))) (by decide) ?_
 refine GH.tk 3 (v := (.int .i64 1)) rfl (by kernel_rfl) (fun _ _ _ h => h) (Ex.rem rfl rfl (Z := 1) (by decide) (by decide)) (ulS (ulC (ulC (ulC ulN)))) (by decide) ?_
 refine GH.tk 4 (v := (.int .u32 0)) rfl (by kernel_rfl) (fun _ _ _ h => h) (Ex.move rfl) (ulS (ulC (ulC (ulC ulN)))) (by decide) ?_
 refine GH.tk 6 (v := (.pointer (some ⟨bq8, 0, none⟩))) rfl (by kernel_rfl) (fun _ _ _ h => h) (Ex.cast (Ex.indexArr (m := 3) rfl rfl Tryz.underlying110 T.sz109 (by decide) (by decide)) rfl) (ulS (ulC (ulC (ulC ulN)))) (by decide) ?_
 refine GH.one 5 rfl (by kernel_rfl) (Stp.callR (vs := [(.int .u32 0)]) rfl rfl T.own63 (by decide) (fun wc hw => q63_1  wc )) (fun _ => (ulS (ulC (ulC (ulC ulN))))) (fun xq13 hq14 => ?_)
 refine GH.tk 7 (v := (.pointer (some ⟨bq8, 1, none⟩))) rfl (by kernel_rfl) (fun _ _ _ h => h) (Ex.cast (Ex.indexArr (m := 3) rfl rfl Tryz.underlying109 T.sz108 (by decide) (by decide)) rfl) (ulS (ulC (ulC (ulC ulN)))) (by decide) ?_
 refine GH.one 8 rfl (by kernel_rfl) (Stp.st0 (cs' := [(.float .f64 0), (.float .f64 0), (.float .f64 0), (.float .f64 0), (.float .f64 0), (.float .f64 0), (.float .f64 0), (.float .f64 0), (.float .f64 0)]) rfl rfl rfl T.sz108 rfl rfl rfl) (fun _ => (ulS (ulC (ulC (ulC ulN))))) (fun _ _ => ?_)
 refine GH.done (by kernel_rfl) ?_
 refine GE.blockN (GE.thenN (GC.region ?_))
 refine GL.val (v := (.int .i64 2)) (Ex.add rfl rfl (Z := 2) (by decide)) (by decide) ?_
 refine GL.mv rfl (by decide) ?_
 refine GL.nil (GE.thenN (GE.round (GC.seq (GC.region ?_))))
 refine GL.val (v := (.bool true)) (Ex.cast (Ex.lss rfl rfl) rfl) (by decide) ?_
 refine GL.nil (GE.thenN (GC.seq ?_))
 refine GC.cond rfl (fun _ => ?_) (fun hq15 => by cases hq15)
 refine GC.skip (GE.thenN (GC.seq (GC.block (GC.seq (GC.region ?_)))))
 refine GL.mv rfl (by decide) ?_
 refine GL.val (v := (.int .u32 1065353216)) (Ex.index1 rfl rfl Tryz.underlying62 T.sz52 T.ag52 (by decide) (by decide) rfl) (by decide) ?_
 refine GL.sg rfl (by decide) ?_
 refine GL.sg rfl (by decide) ?_
 refine GL.nil (GE.thenN ?_)
 refine GC.draw [⟨bq3, [(.int .i64 0), (.slice none 0 0)], 24, true⟩, ⟨bq2, [(.int .u32 0), (.int .u32 0), (.int .u32 1065353216), (.int .u32 0), (.int .u32 1065353216), (.int .u32 0), (.int .u32 1065353216), (.int .u32 0), (.int .u32 0)], 62, true⟩, ⟨bq1, [(.int .i64 sp), (.slice (some ⟨b, o, none⟩) n cap)], 24, true⟩] T.mixed (fuel := 9) rfl rfl ?_
 refine GH.tk 0 (v := (.int .i64 2)) rfl (by kernel_rfl) (fun _ _ _ h => h) (Ex.move rfl) (ulS (ulC (ulC (ulC ulN)))) (by decide) ?_
 refine GH.tk 1 (v := (.int .i64 0)) rfl (by kernel_rfl) (fun _ _ _ h => h) (Ex.quo rfl rfl (Z := 0) (by decide) (by decide)) (ulS (ulC (ulC (ulC ulN)))) (by decide) ?_
 refine GH.tk 2 (v := (.int .i64 2)) rfl (by kernel_rfl) (fun _ _ _ h => h) (Ex.move rfl) (ulS (ulC (ulC (ulC ulN)))) (by decide) ?_
 refine GH.tk 3 (v := (.int .i64 2)) rfl (by kernel_rfl) (fun _ _ _ h => h) (Ex.rem rfl rfl (Z := 2) (by decide) (by decide)) (ulS (ulC (ulC (ulC ulN)))) (by decide) ?_
 refine GH.tk 4 (v := (.int .u32 1065353216)) rfl (by kernel_rfl) (fun _ _ _ h => h) (Ex.move rfl) (ulS (ulC (ulC (ulC ulN)))) (by decide) ?_
 refine GH.tk 6 (v := (.pointer (some ⟨bq8, 0, none⟩))) rfl (by kernel_rfl) (fun _ _ _ h => h) (Ex.cast (Ex.indexArr (m := 3) rfl rfl Tryz.underlying110 T.sz109 (by decide) (by decide)) rfl) (ulS (ulC (ulC (ulC ulN)))) (by decide) ?_
 refine GH.one 5 rfl (by kernel_rfl) (Stp.callR (vs := [(.int .u32 1065353216)]) rfl rfl T.own63 (by decide) (fun wc hw => q63_2  wc )) (fun _ => (ulS (ulC (ulC (ulC ulN))))) (fun xq16 hq17 => ?_)
 refine GH.tk 7 (v := (.pointer (some ⟨bq8, 2, none⟩))) rfl (by kernel_rfl) (fun _ _ _ h => h) (Ex.cast (Ex.indexArr (m := 3) rfl rfl Tryz.underlying109 T.sz108 (by decide) (by decide)) rfl) (ulS (ulC (ulC (ulC ulN)))) (by decide) ?_
 refine GH.one 8 rfl (by kernel_rfl) (Stp.st0 (cs' := [(.float .f64 0), (.float .f64 0), (.float .f64 4607182418800017408), (.float .f64 0), (.float .f64 0), (.float .f64 0), (.float .f64 0), (.float .f64 0), (.float .f64 0)]) rfl rfl rfl T.sz108 rfl rfl rfl) (fun _ => (ulS (ulC (ulC (ulC ulN))))) (fun _ _ => ?_)
 refine GH.done (by kernel_rfl) ?_
 refine GE.blockN (GE.thenN (GC.region ?_))
 refine GL.val (v := (.int .i64 3)) (Ex.add rfl rfl (Z := 3) (by decide)) (by decide) ?_
 refine GL.mv rfl (by decide) ?_
 refine GL.nil (GE.thenN (GE.round (GC.seq (GC.region ?_))))
 refine GL.val (v := (.bool true)) (Ex.cast (Ex.lss rfl rfl) rfl) (by decide) ?_
 refine GL.nil (GE.thenN (GC.seq ?_))
 refine GC.cond rfl (fun _ => ?_) (fun hq18 => by cases hq18)
 refine GC.skip (GE.thenN (GC.seq (GC.block (GC.seq (GC.region ?_)))))
 refine GL.mv rfl (by decide) ?_
 refine GL.val (v := (.int .u32 0)) (Ex.index1 rfl rfl Tryz.underlying62 T.sz52 T.ag52 (by decide) (by decide) rfl) (by decide) ?_
 refine GL.sg rfl (by decide) ?_
 refine GL.sg rfl (by decide) ?_
 refine GL.nil (GE.thenN ?_)
 refine GC.draw [⟨bq3, [(.int .i64 0), (.slice none 0 0)], 24, true⟩, ⟨bq2, [(.int .u32 0), (.int .u32 0), (.int .u32 1065353216), (.int .u32 0), (.int .u32 1065353216), (.int .u32 0), (.int .u32 1065353216), (.int .u32 0), (.int .u32 0)], 62, true⟩, ⟨bq1, [(.int .i64 sp), (.slice (some ⟨b, o, none⟩) n cap)], 24, true⟩] T.mixed (fuel := 9) rfl rfl ?_
 refine GH.tk 0 (v := (.int .i64 3)) rfl (by kernel_rfl) (fun _ _ _ h => h) (Ex.move rfl) (ulS (ulC (ulC (ulC ulN)))) (by decide) ?_
 refine GH.tk 1 (v := (.int .i64 1)) rfl (by kernel_rfl) (fun _ _ _ h => h) (Ex.quo rfl rfl (Z := 1) (by decide) (by decide)) (ulS (ulC (ulC (ulC ulN)))) (by decide) ?_
 refine GH.tk 2 (v := (.int .i64 3)) rfl (by kernel_rfl) (fun _ _ _ h => h) (Ex.move rfl) (ulS (ulC (ulC (ulC ulN)))) (by decide) ?_
 refine GH.tk 3 (v := (.int .i64 0)) rfl (by kernel_rfl) (fun _ _ _ h => h) (Ex.rem rfl rfl (Z := 0) (by decide) (by decide)) (ulS (ulC (ulC (ulC ulN)))) (by decide) ?_
 refine GH.tk 4 (v := (.int .u32 0)) rfl (by kernel_rfl) (fun _ _ _ h => h) (Ex.move rfl) (ulS (ulC (ulC (ulC ulN)))) (by decide) ?_
 refine GH.tk 6 (v := (.pointer (some ⟨bq8, 3, none⟩))) rfl (by kernel_rfl) (fun _ _ _ h => h) (Ex.cast (Ex.indexArr (m := 3) rfl rfl Tryz.underlying110 T.sz109 (by decide) (by decide)) rfl) (ulS (ulC (ulC (ulC ulN)))) (by decide) ?_
 refine GH.one 5 rfl (by kernel_rfl) (Stp.callR (vs := [(.int .u32 0)]) rfl rfl T.own63 (by decide) (fun wc hw => q63_1  wc )) (fun _ => (ulS (ulC (ulC (ulC ulN))))) (fun xq19 hq20 => ?_)
 refine GH.tk 7 (v := (.pointer (some ⟨bq8, 3, none⟩))) rfl (by kernel_rfl) (fun _ _ _ h => h) (Ex.cast (Ex.indexArr (m := 3) rfl rfl Tryz.underlying109 T.sz108 (by decide) (by decide)) rfl) (ulS (ulC (ulC (ulC ulN)))) (by decide) ?_
 refine GH.one 8 rfl (by kernel_rfl) (Stp.st0 (cs' := [(.float .f64 0), (.float .f64 0), (.float .f64 4607182418800017408), (.float .f64 0), (.float .f64 0), (.float .f64 0), (.float .f64 0), (.float .f64 0), (.float .f64 0)]) rfl rfl rfl T.sz108 rfl rfl rfl) (fun _ => (ulS (ulC (ulC (ulC ulN))))) (fun _ _ => ?_)
 refine GH.done (by kernel_rfl) ?_
 refine GE.blockN (GE.thenN (GC.region ?_))
 refine GL.val (v := (.int .i64 4)) (Ex.add rfl rfl (Z := 4) (by decide)) (by decide) ?_
 refine GL.mv rfl (by decide) ?_
 refine GL.nil (GE.thenN (GE.round (GC.seq (GC.region ?_))))
 refine GL.val (v := (.bool true)) (Ex.cast (Ex.lss rfl rfl) rfl) (by decide) ?_
 refine GL.nil (GE.thenN (GC.seq ?_))
 refine GC.cond rfl (fun _ => ?_) (fun hq21 => by cases hq21)
 refine GC.skip (GE.thenN (GC.seq (GC.block (GC.seq (GC.region ?_)))))
 refine GL.mv rfl (by decide) ?_
 refine GL.val (v := (.int .u32 1065353216)) (Ex.index1 rfl rfl Tryz.underlying62 T.sz52 T.ag52 (by decide) (by decide) rfl) (by decide) ?_
 refine GL.sg rfl (by decide) ?_
 refine GL.sg rfl (by decide) ?_
 refine GL.nil (GE.thenN ?_)
 refine GC.draw [⟨bq3, [(.int .i64 0), (.slice none 0 0)], 24, true⟩, ⟨bq2, [(.int .u32 0), (.int .u32 0), (.int .u32 1065353216), (.int .u32 0), (.int .u32 1065353216), (.int .u32 0), (.int .u32 1065353216), (.int .u32 0), (.int .u32 0)], 62, true⟩, ⟨bq1, [(.int .i64 sp), (.slice (some ⟨b, o, none⟩) n cap)], 24, true⟩] T.mixed (fuel := 9) rfl rfl ?_
 refine GH.tk 0 (v := (.int .i64 4)) rfl (by kernel_rfl) (fun _ _ _ h => h) (Ex.move rfl) (ulS (ulC (ulC (ulC ulN)))) (by decide) ?_
 refine GH.tk 1 (v := (.int .i64 1)) rfl (by kernel_rfl) (fun _ _ _ h => h) (Ex.quo rfl rfl (Z := 1) (by decide) (by decide)) (ulS (ulC (ulC (ulC ulN)))) (by decide) ?_
 refine GH.tk 2 (v := (.int .i64 4)) rfl (by kernel_rfl) (fun _ _ _ h => h) (Ex.move rfl) (ulS (ulC (ulC (ulC ulN)))) (by decide) ?_
 refine GH.tk 3 (v := (.int .i64 1)) rfl (by kernel_rfl) (fun _ _ _ h => h) (Ex.rem rfl rfl (Z := 1) (by decide) (by decide)) (ulS (ulC (ulC (ulC ulN)))) (by decide) ?_
 refine GH.tk 4 (v := (.int .u32 1065353216)) rfl (by kernel_rfl) (fun _ _ _ h => h) (Ex.move rfl) (ulS (ulC (ulC (ulC ulN)))) (by decide) ?_
 refine GH.tk 6 (v := (.pointer (some ⟨bq8, 3, none⟩))) rfl (by kernel_rfl) (fun _ _ _ h => h) (Ex.cast (Ex.indexArr (m := 3) rfl rfl Tryz.underlying110 T.sz109 (by decide) (by decide)) rfl) (ulS (ulC (ulC (ulC ulN)))) (by decide) ?_
 refine GH.one 5 rfl (by kernel_rfl) (Stp.callR (vs := [(.int .u32 1065353216)]) rfl rfl T.own63 (by decide) (fun wc hw => q63_2  wc )) (fun _ => (ulS (ulC (ulC (ulC ulN))))) (fun xq22 hq23 => ?_)
 refine GH.tk 7 (v := (.pointer (some ⟨bq8, 4, none⟩))) rfl (by kernel_rfl) (fun _ _ _ h => h) (Ex.cast (Ex.indexArr (m := 3) rfl rfl Tryz.underlying109 T.sz108 (by decide) (by decide)) rfl) (ulS (ulC (ulC (ulC ulN)))) (by decide) ?_
 refine GH.one 8 rfl (by kernel_rfl) (Stp.st0 (cs' := [(.float .f64 0), (.float .f64 0), (.float .f64 4607182418800017408), (.float .f64 0), (.float .f64 4607182418800017408), (.float .f64 0), (.float .f64 0), (.float .f64 0), (.float .f64 0)]) rfl rfl rfl T.sz108 rfl rfl rfl) (fun _ => (ulS (ulC (ulC (ulC ulN))))) (fun _ _ => ?_)
 refine GH.done (by kernel_rfl) ?_
 refine GE.blockN (GE.thenN (GC.region ?_))
 refine GL.val (v := (.int .i64 5)) (Ex.add rfl rfl (Z := 5) (by decide)) (by decide) ?_
 refine GL.mv rfl (by decide) ?_
 refine GL.nil (GE.thenN (GE.round (GC.seq (GC.region ?_))))
 refine GL.val (v := (.bool true)) (Ex.cast (Ex.lss rfl rfl) rfl) (by decide) ?_
 refine GL.nil (GE.thenN (GC.seq ?_))
 refine GC.cond rfl (fun _ => ?_) (fun hq24 => by cases hq24)
 refine GC.skip (GE.thenN (GC.seq (GC.block (GC.seq (GC.region ?_)))))
 refine GL.mv rfl (by decide) ?_
 refine GL.val (v := (.int .u32 0)) (Ex.index1 rfl rfl Tryz.underlying62 T.sz52 T.ag52 (by decide) (by decide) rfl) (by decide) ?_
 refine GL.sg rfl (by decide) ?_
 refine GL.sg rfl (by decide) ?_
 refine GL.nil (GE.thenN ?_)
 refine GC.draw [⟨bq3, [(.int .i64 0), (.slice none 0 0)], 24, true⟩, ⟨bq2, [(.int .u32 0), (.int .u32 0), (.int .u32 1065353216), (.int .u32 0), (.int .u32 1065353216), (.int .u32 0), (.int .u32 1065353216), (.int .u32 0), (.int .u32 0)], 62, true⟩, ⟨bq1, [(.int .i64 sp), (.slice (some ⟨b, o, none⟩) n cap)], 24, true⟩] T.mixed (fuel := 9) rfl rfl ?_
 refine GH.tk 0 (v := (.int .i64 5)) rfl (by kernel_rfl) (fun _ _ _ h => h) (Ex.move rfl) (ulS (ulC (ulC (ulC ulN)))) (by decide) ?_
 refine GH.tk 1 (v := (.int .i64 1)) rfl (by kernel_rfl) (fun _ _ _ h => h) (Ex.quo rfl rfl (Z := 1) (by decide) (by decide)) (ulS (ulC (ulC (ulC ulN)))) (by decide) ?_
 refine GH.tk 2 (v := (.int .i64 5)) rfl (by kernel_rfl) (fun _ _ _ h => h) (Ex.move rfl) (ulS (ulC (ulC (ulC ulN)))) (by decide) ?_
 refine GH.tk 3 (v := (.int .i64 2)) rfl (by kernel_rfl) (fun _ _ _ h => h) (Ex.rem rfl rfl (Z := 2) (by decide) (by decide)) (ulS (ulC (ulC (ulC ulN)))) (by decide) ?_
 refine GH.tk 4 (v := (.int .u32 0)) rfl (by kernel_rfl) (fun _ _ _ h => h) (Ex.move rfl) (ulS (ulC (ulC (ulC ulN)))) (by decide) ?_
 refine GH.tk 6 (v := (.pointer (some ⟨bq8, 3, none⟩))) rfl (by kernel_rfl) (fun _ _ _ h => h) (Ex.cast (Ex.indexArr (m := 3) rfl rfl Tryz.underlying110 T.sz109 (by decide) (by decide)) rfl) (ulS (ulC (ulC (ulC ulN)))) (by decide) ?_
 refine GH.one 5 rfl (by kernel_rfl) (Stp.callR (vs := [(.int .u32 0)]) rfl rfl T.own63 (by decide) (fun wc hw => q63_1  wc )) (fun _ => (ulS (ulC (ulC (ulC ulN))))) (fun xq25 hq26 => ?_)
 refine GH.tk 7 (v := (.pointer (some ⟨bq8, 5, none⟩))) rfl (by kernel_rfl) (fun _ _ _ h => h) (Ex.cast (Ex.indexArr (m := 3) rfl rfl Tryz.underlying109 T.sz108 (by decide) (by decide)) rfl) (ulS (ulC (ulC (ulC ulN)))) (by decide) ?_
 refine GH.one 8 rfl (by kernel_rfl) (Stp.st0 (cs' := [(.float .f64 0), (.float .f64 0), (.float .f64 4607182418800017408), (.float .f64 0), (.float .f64 4607182418800017408), (.float .f64 0), (.float .f64 0), (.float .f64 0), (.float .f64 0)]) rfl rfl rfl T.sz108 rfl rfl rfl) (fun _ => (ulS (ulC (ulC (ulC ulN))))) (fun _ _ => ?_)
 refine GH.done (by kernel_rfl) ?_
 refine GE.blockN (GE.thenN (GC.region ?_))
 refine GL.val (v := (.int .i64 6)) (Ex.add rfl rfl (Z := 6) (by decide)) (by decide) ?_
 refine GL.mv rfl (by decide) ?_
 refine GL.nil (GE.thenN (GE.round (GC.seq (GC.region ?_))))
 refine GL.val (v := (.bool true)) (Ex.cast (Ex.lss rfl rfl) rfl) (by decide) ?_
 refine GL.nil (GE.thenN (GC.seq ?_))
 refine GC.cond rfl (fun _ => ?_) (fun hq27 => by cases hq27)
 refine GC.skip (GE.thenN (GC.seq (GC.block (GC.seq (GC.region ?_)))))
 refine GL.mv rfl (by decide) ?_
 refine GL.val (v := (.int .u32 1065353216)) (Ex.index1 rfl rfl Tryz.underlying62 T.sz52 T.ag52 (by decide) (by decide) rfl) (by decide) ?_
 refine GL.sg rfl (by decide) ?_
 refine GL.sg rfl (by decide) ?_
 refine GL.nil (GE.thenN ?_)
 refine GC.draw [⟨bq3, [(.int .i64 0), (.slice none 0 0)], 24, true⟩, ⟨bq2, [(.int .u32 0), (.int .u32 0), (.int .u32 1065353216), (.int .u32 0), (.int .u32 1065353216), (.int .u32 0), (.int .u32 1065353216), (.int .u32 0), (.int .u32 0)], 62, true⟩, ⟨bq1, [(.int .i64 sp), (.slice (some ⟨b, o, none⟩) n cap)], 24, true⟩] T.mixed (fuel := 9) rfl rfl ?_
 refine GH.tk 0 (v := (.int .i64 6)) rfl (by kernel_rfl) (fun _ _ _ h => h) (Ex.move rfl) (ulS (ulC (ulC (ulC ulN)))) (by decide) ?_
 refine GH.tk 1 (v := (.int .i64 2)) rfl (by kernel_rfl) (fun _ _ _ h => h) (Ex.quo rfl rfl (Z := 2) (by decide) (by decide)) (ulS (ulC (ulC (ulC ulN)))) (by decide) ?_
 refine GH.tk 2 (v := (.int .i64 6)) rfl (by kernel_rfl) (fun _ _ _ h => h) (Ex.move rfl) (ulS (ulC (ulC (ulC ulN)))) (by decide) ?_
 refine GH.tk 3 (v := (.int .i64 0)) rfl (by kernel_rfl) (fun _ _ _ h => h) (Ex.rem rfl rfl (Z := 0) (by decide) (by decide)) (ulS (ulC (ulC (ulC ulN)))) (by decide) ?_
 refine GH.tk 4 (v := (.int .u32 1065353216)) rfl (by kernel_rfl) (fun _ _ _ h => h) (Ex.move rfl) (ulS (ulC (ulC (ulC ulN)))) (by decide) ?_
 refine GH.tk 6 (v := (.pointer (some ⟨bq8, 6, none⟩))) rfl (by kernel_rfl) (fun _ _ _ h => h) (Ex.cast (Ex.indexArr (m := 3) rfl rfl Tryz.underlying110 T.sz109 (by decide) (by decide)) rfl) (ulS (ulC (ulC (ulC ulN)))) (by decide) ?_
 refine GH.one 5 rfl (by kernel_rfl) (Stp.callR (vs := [(.int .u32 1065353216)]) rfl rfl T.own63 (by decide) (fun wc hw => q63_2  wc )) (fun _ => (ulS (ulC (ulC (ulC ulN))))) (fun xq28 hq29 => ?_)
 refine GH.tk 7 (v := (.pointer (some ⟨bq8, 6, none⟩))) rfl (by kernel_rfl) (fun _ _ _ h => h) (Ex.cast (Ex.indexArr (m := 3) rfl rfl Tryz.underlying109 T.sz108 (by decide) (by decide)) rfl) (ulS (ulC (ulC (ulC ulN)))) (by decide) ?_
 refine GH.one 8 rfl (by kernel_rfl) (Stp.st0 (cs' := [(.float .f64 0), (.float .f64 0), (.float .f64 4607182418800017408), (.float .f64 0), (.float .f64 4607182418800017408), (.float .f64 0), (.float .f64 4607182418800017408), (.float .f64 0), (.float .f64 0)]) rfl rfl rfl T.sz108 rfl rfl rfl) (fun _ => (ulS (ulC (ulC (ulC ulN))))) (fun _ _ => ?_)
 refine GH.done (by kernel_rfl) ?_
 refine GE.blockN (GE.thenN (GC.region ?_))
 refine GL.val (v := (.int .i64 7)) (Ex.add rfl rfl (Z := 7) (by decide)) (by decide) ?_
 refine GL.mv rfl (by decide) ?_
 refine GL.nil (GE.thenN (GE.round (GC.seq (GC.region ?_))))
 refine GL.val (v := (.bool true)) (Ex.cast (Ex.lss rfl rfl) rfl) (by decide) ?_
 refine GL.nil (GE.thenN (GC.seq ?_))
 refine GC.cond rfl (fun _ => ?_) (fun hq30 => by cases hq30)
 refine GC.skip (GE.thenN (GC.seq (GC.block (GC.seq (GC.region ?_)))))
 refine GL.mv rfl (by decide) ?_
 refine GL.val (v := (.int .u32 0)) (Ex.index1 rfl rfl Tryz.underlying62 T.sz52 T.ag52 (by decide) (by decide) rfl) (by decide) ?_
 refine GL.sg rfl (by decide) ?_
 refine GL.sg rfl (by decide) ?_
 refine GL.nil (GE.thenN ?_)
 refine GC.draw [⟨bq3, [(.int .i64 0), (.slice none 0 0)], 24, true⟩, ⟨bq2, [(.int .u32 0), (.int .u32 0), (.int .u32 1065353216), (.int .u32 0), (.int .u32 1065353216), (.int .u32 0), (.int .u32 1065353216), (.int .u32 0), (.int .u32 0)], 62, true⟩, ⟨bq1, [(.int .i64 sp), (.slice (some ⟨b, o, none⟩) n cap)], 24, true⟩] T.mixed (fuel := 9) rfl rfl ?_
 refine GH.tk 0 (v := (.int .i64 7)) rfl (by kernel_rfl) (fun _ _ _ h => h) (Ex.move rfl) (ulS (ulC (ulC (ulC ulN)))) (by decide) ?_
 refine GH.tk 1 (v := (.int .i64 2)) rfl (by kernel_rfl) (fun _ _ _ h => h) (Ex.quo rfl rfl (Z := 2) (by decide) (by decide)) (ulS (ulC (ulC (ulC ulN)))) (by decide) ?_
 refine GH.tk 2 (v := (.int .i64 7)) rfl (by kernel_rfl) (fun _ _ _ h => h) (Ex.move rfl) (ulS (ulC (ulC (ulC ulN)))) (by decide) ?_
 refine GH.tk 3 (v := (.int .i64 1)) rfl (by kernel_rfl) (fun _ _ _ h => h) (Ex.rem rfl rfl (Z := 1) (by decide) (by decide)) (ulS (ulC (ulC (ulC ulN)))) (by decide) ?_
 refine GH.tk 4 (v := (.int .u32 0)) rfl (by kernel_rfl) (fun _ _ _ h => h) (Ex.move rfl) (ulS (ulC (ulC (ulC ulN)))) (by decide) ?_
 refine GH.tk 6 (v := (.pointer (some ⟨bq8, 6, none⟩))) rfl (by kernel_rfl) (fun _ _ _ h => h) (Ex.cast (Ex.indexArr (m := 3) rfl rfl Tryz.underlying110 T.sz109 (by decide) (by decide)) rfl) (ulS (ulC (ulC (ulC ulN)))) (by decide) ?_
 refine GH.one 5 rfl (by kernel_rfl) (Stp.callR (vs := [(.int .u32 0)]) rfl rfl T.own63 (by decide) (fun wc hw => q63_1  wc )) (fun _ => (ulS (ulC (ulC (ulC ulN))))) (fun xq31 hq32 => ?_)
 refine GH.tk 7 (v := (.pointer (some ⟨bq8, 7, none⟩))) rfl (by kernel_rfl) (fun _ _ _ h => h) (Ex.cast (Ex.indexArr (m := 3) rfl rfl Tryz.underlying109 T.sz108 (by decide) (by decide)) rfl) (ulS (ulC (ulC (ulC ulN)))) (by decide) ?_
 refine GH.one 8 rfl (by kernel_rfl) (Stp.st0 (cs' := [(.float .f64 0), (.float .f64 0), (.float .f64 4607182418800017408), (.float .f64 0), (.float .f64 4607182418800017408), (.float .f64 0), (.float .f64 4607182418800017408), (.float .f64 0), (.float .f64 0)]) rfl rfl rfl T.sz108 rfl rfl rfl) (fun _ => (ulS (ulC (ulC (ulC ulN))))) (fun _ _ => ?_)
 refine GH.done (by kernel_rfl) ?_
 refine GE.blockN (GE.thenN (GC.region ?_))
 refine GL.val (v := (.int .i64 8)) (Ex.add rfl rfl (Z := 8) (by decide)) (by decide) ?_
 refine GL.mv rfl (by decide) ?_
 refine GL.nil (GE.thenN (GE.round (GC.seq (GC.region ?_))))
 refine GL.val (v := (.bool true)) (Ex.cast (Ex.lss rfl rfl) rfl) (by decide) ?_
 refine GL.nil (GE.thenN (GC.seq ?_))
 refine GC.cond rfl (fun _ => ?_) (fun hq33 => by cases hq33)
 refine GC.skip (GE.thenN (GC.seq (GC.block (GC.seq (GC.region ?_)))))
 refine GL.mv rfl (by decide) ?_
 refine GL.val (v := (.int .u32 0)) (Ex.index1 rfl rfl Tryz.underlying62 T.sz52 T.ag52 (by decide) (by decide) rfl) (by decide) ?_
 refine GL.sg rfl (by decide) ?_
 refine GL.sg rfl (by decide) ?_
 refine GL.nil (GE.thenN ?_)
 refine GC.draw [⟨bq3, [(.int .i64 0), (.slice none 0 0)], 24, true⟩, ⟨bq2, [(.int .u32 0), (.int .u32 0), (.int .u32 1065353216), (.int .u32 0), (.int .u32 1065353216), (.int .u32 0), (.int .u32 1065353216), (.int .u32 0), (.int .u32 0)], 62, true⟩, ⟨bq1, [(.int .i64 sp), (.slice (some ⟨b, o, none⟩) n cap)], 24, true⟩] T.mixed (fuel := 9) rfl rfl ?_
 refine GH.tk 0 (v := (.int .i64 8)) rfl (by kernel_rfl) (fun _ _ _ h => h) (Ex.move rfl) (ulS (ulC (ulC (ulC ulN)))) (by decide) ?_
 refine GH.tk 1 (v := (.int .i64 2)) rfl (by kernel_rfl) (fun _ _ _ h => h) (Ex.quo rfl rfl (Z := 2) (by decide) (by decide)) (ulS (ulC (ulC (ulC ulN)))) (by decide) ?_
 refine GH.tk 2 (v := (.int .i64 8)) rfl (by kernel_rfl) (fun _ _ _ h => h) (Ex.move rfl) (ulS (ulC (ulC (ulC ulN)))) (by decide) ?_
 refine GH.tk 3 (v := (.int .i64 2)) rfl (by kernel_rfl) (fun _ _ _ h => h) (Ex.rem rfl rfl (Z := 2) (by decide) (by decide)) (ulS (ulC (ulC (ulC ulN)))) (by decide) ?_
 refine GH.tk 4 (v := (.int .u32 0)) rfl (by kernel_rfl) (fun _ _ _ h => h) (Ex.move rfl) (ulS (ulC (ulC (ulC ulN)))) (by decide) ?_
 refine GH.tk 6 (v := (.pointer (some ⟨bq8, 6, none⟩))) rfl (by kernel_rfl) (fun _ _ _ h => h) (Ex.cast (Ex.indexArr (m := 3) rfl rfl Tryz.underlying110 T.sz109 (by decide) (by decide)) rfl) (ulS (ulC (ulC (ulC ulN)))) (by decide) ?_
 refine GH.one 5 rfl (by kernel_rfl) (Stp.callR (vs := [(.int .u32 0)]) rfl rfl T.own63 (by decide) (fun wc hw => q63_1  wc )) (fun _ => (ulS (ulC (ulC (ulC ulN))))) (fun xq34 hq35 => ?_)
 refine GH.tk 7 (v := (.pointer (some ⟨bq8, 8, none⟩))) rfl (by kernel_rfl) (fun _ _ _ h => h) (Ex.cast (Ex.indexArr (m := 3) rfl rfl Tryz.underlying109 T.sz108 (by decide) (by decide)) rfl) (ulS (ulC (ulC (ulC ulN)))) (by decide) ?_
 refine GH.one 8 rfl (by kernel_rfl) (Stp.st0 (cs' := [(.float .f64 0), (.float .f64 0), (.float .f64 4607182418800017408), (.float .f64 0), (.float .f64 4607182418800017408), (.float .f64 0), (.float .f64 4607182418800017408), (.float .f64 0), (.float .f64 0)]) rfl rfl rfl T.sz108 rfl rfl rfl) (fun _ => (ulS (ulC (ulC (ulC ulN))))) (fun _ _ => ?_)
 refine GH.done (by kernel_rfl) ?_
 refine GE.blockN (GE.thenN (GC.region ?_))
 refine GL.val (v := (.int .i64 9)) (Ex.add rfl rfl (Z := 9) (by decide)) (by decide) ?_
 refine GL.mv rfl (by decide) ?_
 refine GL.nil (GE.thenN (GE.round (GC.seq (GC.region ?_))))
 refine GL.val (v := (.bool false)) (Ex.cast (Ex.lss rfl rfl) rfl) (by decide) ?_
 refine GL.nil (GE.thenN (GC.seq ?_))
 refine GC.cond rfl (fun hq36 => by cases hq36) (fun _ => ?_)
 refine GC.exit (GE.thenE (GE.thenE (GE.blockE (GE.thenN (GC.seq (GC.region ?_))))))
 refine GL.val (v := (.agg #[(.int .i64 sp), (.slice (some ⟨b, o, none⟩) n cap)])) (Ex.loadA rfl T.ag24 T.sz24 (i := 3) rfl (vs := [(.int .i64 sp), (.slice (some ⟨b, o, none⟩) n cap)]) rfl rfl) (by decide) ?_
 refine GL.val (v := (.func (.func 64) #[] #[(.pointer (some ⟨bq8, 0, none⟩))])) (Ex.func (cs := [(.pointer (some ⟨bq8, 0, none⟩))]) rfl (fun _ hF => hF.evals _ _ rfl)) (by decide) ?_
 refine GL.step (Stp.call (vs := [(.agg #[(.int .i64 sp), (.slice (some ⟨b, o, none⟩) n cap)]), (.func (.func 64) #[] #[(.pointer (some ⟨bq8, 0, none⟩))])]) rfl rfl T.own52 (by decide) (fun wc hw => (Ret.frm (L' := fun x => (⟨bq8, [(.float .f64 0), (.float .f64 0), (.float .f64 4607182418800017408), (.float .f64 0), (.float .f64 4607182418800017408), (.float .f64 0), (.float .f64 4607182418800017408), (.float .f64 0), (.float .f64 0)], 110, true⟩ :: ⟨bq3, [(.int .i64 0), (.slice none 0 0)], 24, true⟩ :: ⟨bq2, [(.int .u32 0), (.int .u32 0), (.int .u32 1065353216), (.int .u32 0), (.int .u32 1065353216), (.int .u32 0), (.int .u32 1065353216), (.int .u32 0), (.int .u32 0)], 62, true⟩ :: ⟨bq1, [(.int .i64 sp), (.slice (some ⟨b, o, none⟩) n cap)], 24, true⟩ :: (x.blks 75 52 ++ []))) hw (triples_ok sp b o n cap ps W H A 64 #[.pointer (some ⟨bq8, 0, none⟩)] f wc (hps.later hw.1) hn hok hA hn3 ⟨T.own64, fun x hx y hy z hz w' hk' => hm bq8 w' ((Has.cons (hw.hasOf (i := 0) rfl) (Has.nil _) : Has wc [⟨bq8, [(.float .f64 0), (.float .f64 0), (.float .f64 4607182418800017408), (.float .f64 0), (.float .f64 4607182418800017408), (.float .f64 0), (.float .f64 4607182418800017408), (.float .f64 0), (.float .f64 0)], 110, false⟩]).later hk') x hx y hy z hz⟩) (fun x w' _ h => by exact Hp.segsD (A := [x.blks 75 52, [⟨bq8, [(.float .f64 0), (.float .f64 0), (.float .f64 4607182418800017408), (.float .f64 0), (.float .f64 4607182418800017408), (.float .f64 0), (.float .f64 4607182418800017408), (.float .f64 0), (.float .f64 0)], 110, true⟩, ⟨bq3, [(.int .i64 0), (.slice none 0 0)], 24, true⟩, ⟨bq2, [(.int .u32 0), (.int .u32 0), (.int .u32 1065353216), (.int .u32 0), (.int .u32 1065353216), (.int .u32 0), (.int .u32 1065353216), (.int .u32 0), (.int .u32 0)], 62, true⟩, ⟨bq1, [(.int .i64 sp), (.slice (some ⟨b, o, none⟩) n cap)], 24, true⟩]]) (idx := [1, 0]) 2 [] h rfl (by decide) rfl)))) (fun xq37 hq38 => ?_)
 refine GL.val (Ex.extract rfl rfl) (by decide) ?_
 refine GL.val (Ex.extract rfl rfl) (by decide) ?_
 refine GL.step (Stp.st1 (cs' := [(.int .i64 sp), (.slice xq37.ad xq37.n xq37.cp)]) rfl rfl rfl T.sz24 rfl rfl rfl) (fun _ _ => ?_)
 refine GL.sg rfl (by decide) ?_
 refine GL.nil (GE.thenN (GC.ret ?_))
 refine GC.ret2 rfl (Rv.cellA rfl T.ag24 T.sz24 (L := _) (i := 1) rfl (vs := [(.int .i64 sp), (.slice xq37.ad xq37.n xq37.cp)]) rfl rfl) (Rv.tmp rfl) (fun wN HN => ?_)
 exact HN.ret xq37 hq38 rfl (by rw [List.append_nil]; exact ((ulS (ulS (ulS (ulS ulR)))))) (Ac.blks_own _ _ _)

theorem place (sp : Int) (b o n cap : Nat) (ls : List Int) (w : World) (hn : n = ls.length) (h0 : 0 < n) (h4 : n ≤ 4) (hr : Rd w b o (ls.map u32)) :
  Calls Tryz.prog 33 #[(.int .i64 sp), (.slice (some ⟨b, o, none⟩) n cap)] w (Ret w (fun r : Ac => r.qs ≠ [] ∧ r.ds = onesD ls ∧ r.Ok ∧ ∀ q ∈ r.qs, q.Ok) (fun r => .agg #[.int .i64 sp, .slice r.ad n r.cp]) (fun r => r.blks 75 52)) := by
 refine enter (M := None) (L := []) (n := 27) (l := [(0, (.int .i64 sp)), (1, (.slice (some ⟨b, o, none⟩) n cap))]) Tryz.func33 rfl rfl (Args.cons rfl (Args.cons rfl (Args.nil _))) (Hp.start _ _) ?_
 refine GC.seq (GC.region ?_)
 refine GL.step (Stp.alloc T.zr24 (by decide)) (fun bq1 _ => ?_)
 refine GL.nil (GE.thenN (GC.seq (GC.region ?_)))
 refine GL.mv rfl (by decide) ?_
 refine GL.val (v := (.agg #[(.int .i64 sp), (.slice none 0 0)])) (Ex.build (vs := [(0, (.int .i64 sp))]) rfl (by first | rfl | kernel_rfl)) (by decide) ?_
 refine GL.step (Stp.alloc T.zr24 (by decide)) (fun bq2 _ => ?_)
 refine GL.step (Stp.st0 (cs' := [(.int .i64 sp), (.slice none 0 0)]) rfl rfl rfl T.sz24 rfl rfl rfl) (fun _ _ => ?_)
 refine GL.nil (GE.thenN (GC.seq (GC.seq (GC.region ?_))))
 refine GL.sg rfl (by decide) ?_
 refine GL.nil (GE.thenN (GC.block ?_))
 refine GC.loop (σ := Ac) (fun a => a.n ≤ n ∧ a.ds = (List.range a.n).map (fun i => (1, 1, [ls.getD i 0])) ∧ a.Ok ∧ ∀ q ∈ a.qs, q.Ok) (fun a => [(1, (.slice (some ⟨b, o, none⟩) n cap)), (4, (.pointer (some ⟨bq1, 0, none⟩))), (5, (.pointer (some ⟨bq2, 0, none⟩))), (6, (.int .i64 (((a.n : Nat) : Int))))]) (fun a => (⟨bq2, [(.int .i64 sp), (.slice a.ad a.n a.cp)], 24, true⟩ :: ⟨bq1, [(.int .i64 0), (.slice none 0 0)], 24, true⟩ :: (a.row 75 ++ (a.qs.map (Nq.blk 52) ++ [])))) (fun a => n - a.n) (Ac.no) ⟨Nat.zero_le _, rfl, Or.inl rfl, fun q h => by cases h⟩ ((sub_cons rfl ((sub_cons rfl ((sub_cons rfl ((sub_cons rfl ((sub_nil _)))))))))) (ulC (ulC ulR)) (fun a hp => ?_)
 have hpn := hp.1
 refine GC.seq (GC.seq (GC.region ?_))
 refine GL.mv rfl (by decide) ?_
 refine GL.mv rfl (by decide) ?_
 refine GL.val (v := (.int .i64 ((n : Int)))) (Ex.len rfl Tryz.underlying53) (by decide) ?_
 refine GL.val (v := (.bool (decide ((((a.n : Nat) : Int)) < ((n : Int)))))) (Ex.lss rfl rfl) (by decide) ?_
 refine GL.nil (GE.thenN ?_)
 refine GC.cond rfl (fun hq3 => ?_) (fun hq3 => ?_)
 ·replace hq3 := of_decide_eq_true hq3
  refine GC.skip (GE.thenN (GC.seq (GC.block ?_)))
  refine GC.drawP [⟨bq1, [(.int .i64 0), (.slice none 0 0)], 24, true⟩] T.mixed (by kernel_rfl) (by kernel_rfl) (fuel := 11) rfl rfl ?_
  refine GH.tk 0 (v := (.pointer (some ⟨bq2, 1, none⟩))) rfl (by kernel_rfl) (fun _ _ _ h => h) (Ex.cast (Ex.fieldAddr rfl Tryz.underlying24 rfl T.sz22 (by decide)) rfl) (ulS (ulC ulN)) (by decide) ?_
  refine GH.tk 2 (v := (.slice (some ⟨b, o, none⟩) n cap)) rfl (by kernel_rfl) (fun _ _ _ h => h) (Ex.move rfl) (ulS (ulC ulN)) (by decide) ?_
  refine GH.tk 3 (v := (.int .i64 (((a.n : Nat) : Int)))) rfl (by kernel_rfl) (fun _ _ _ h => h) (Ex.move rfl) (ulS (ulC ulN)) (by decide) ?_
  refine GH.tk 4 (v := (.pointer (some ⟨b, o + a.n, none⟩))) rfl (by kernel_rfl) (fun _ _ _ h => h) (Ex.cast (Ex.indexAddr rfl rfl Tryz.underlying53 T.sz52 (by omega) (by omega)) (by simp)) (ulS (ulC ulN)) (by decide) ?_
  refine GH.tk 5 (v := (.int .u32 ((ls.getD a.n 0)))) rfl (by kernel_rfl) (fun _ _ _ h => h) (Ex.loadO rfl T.ag52 (Rd.at hr (by omega)) (fun x => x)) (ulS (ulC ulN)) (by decide) ?_
  refine GH.many (rs := [1, 6]) (by kernel_rfl) (by simp) ?_
  refine GHs.cons rfl (Ex.wp (v := (.slice a.ad a.n a.cp)) (Ex.load rfl T.ag22 (i := 0) rfl rfl) (by decide)) (fun _ => (ulS (ulC ulN))) (fun _ _ => ?_) ?_
  ·refine GH.one 6 rfl (by kernel_rfl) (Stp.buildSlice (cs := [(.int .u32 ((ls.getD a.n 0)))]) (vs := [(0, (.int .u32 ((ls.getD a.n 0))))]) Tryz.underlying53 T.zr52 T.sz52 rfl (by decide) (by decide) (by first | rfl | kernel_rfl) (by decide)) (fun _ => (ulS (ulS (ulC ulN)))) (fun bq4 _ => ?_)
   refine GH.tk 7 (v := (.agg #[(.int .i64 1), (.int .i64 1), (.slice (some ⟨bq4, 0, none⟩) 1 1)])) rfl (by kernel_rfl) (fun _ _ _ h => h) (Ex.build (vs := [(0, (.int .i64 1)), (1, (.int .i64 1)), (2, (.slice (some ⟨bq4, 0, none⟩) 1 1))]) rfl (by first | rfl | kernel_rfl)) (ulS (ulS (ulC ulN))) (by decide) ?_
   refine GH.one 8 rfl (by kernel_rfl) (Stp.buildSlice (cs := [(.int .i64 1), (.int .i64 1), (.slice (some ⟨bq4, 0, none⟩) 1 1)]) (vs := [(0, (.agg #[(.int .i64 1), (.int .i64 1), (.slice (some ⟨bq4, 0, none⟩) 1 1)]))]) Tryz.underlying22 T.zr75 T.sz75 rfl (by decide) (by decide) (by first | rfl | kernel_rfl) (by decide)) (fun _ => (ulS (ulS (ulS (ulC ulN))))) (fun bq5 _ => ?_)
   refine GH.one 9 rfl (by kernel_rfl) (Stp.appAc (a := a) (q := (Nq.mk 1 1 [ls.getD a.n 0] bq4 1 [])) (K := [⟨bq5, [(.int .i64 1), (.int .i64 1), (.slice (some ⟨bq4, 0, none⟩) 1 1)], 75, true⟩, ⟨bq4, [(.int .u32 ((ls.getD a.n 0)))], 52, true⟩, ⟨bq2, [(.int .i64 sp), (.slice a.ad a.n a.cp)], 24, true⟩, ⟨bq1, [(.int .i64 0), (.slice none 0 0)], 24, true⟩]) (R := (a.qs.map (Nq.blk 52) ++ [])) rfl rfl Tryz.underlying22 T.sz75 T.zr75 rfl T.by75 rfl hp.2.2.1 (fun w hw => hw.rdOf (i := 0) rfl 0) (by omega) (by omega) (by decide)) (fun _ => (ulS (ulS (ulS (ulC ulN))))) (fun xq6 hq7 => ?_)
   refine GH.tk 10 (v := (.pointer (some ⟨bq2, 1, none⟩))) rfl (by kernel_rfl) (fun _ _ _ h => h) (Ex.cast (Ex.fieldAddr rfl Tryz.underlying24 rfl T.sz22 (by decide)) rfl) (ulS (ulS (ulS (ulC ulN)))) (by decide) ?_
   refine GH.done (by kernel_rfl) ?_
   refine GE.thenN ?_
   refine GE.tail rfl (Stp.st2 (cs' := [(.int .i64 sp), (.slice (a.add (Nq.mk 1 1 [ls.getD a.n 0] bq4 1 []) xq6).ad ((a.add (Nq.mk 1 1 [ls.getD a.n 0] bq4 1 []) xq6).n) ((a.add (Nq.mk 1 1 [ls.getD a.n 0] bq4 1 []) xq6).cp))]) rfl rfl rfl T.sz22 rfl rfl rfl) (fun _ _ => ?_)
   refine GE.blockN (GE.thenN ?_)
   refine GC.hp (L2 := (⟨bq2, [(.int .i64 sp), (.slice (a.add (Nq.mk 1 1 [ls.getD a.n 0] bq4 1 []) xq6).ad ((a.add (Nq.mk 1 1 [ls.getD a.n 0] bq4 1 []) xq6).n) ((a.add (Nq.mk 1 1 [ls.getD a.n 0] bq4 1 []) xq6).cp))], 24, true⟩ :: ⟨bq1, [(.int .i64 0), (.slice none 0 0)], 24, true⟩ :: ((a.add (Nq.mk 1 1 [ls.getD a.n 0] bq4 1 []) xq6).row 75 ++ ((a.add (Nq.mk 1 1 [ls.getD a.n 0] bq4 1 []) xq6).qs.map (Nq.blk 52) ++ [])))) (fun w h => by rw [Ac.add_map, List.append_assoc]; exact Hp.segsD (A := [[⟨bq5, [(.int .i64 1), (.int .i64 1), (.slice (some ⟨bq4, 0, none⟩) 1 1)], 75, true⟩], [⟨bq4, [(.int .u32 ((ls.getD a.n 0)))], 52, true⟩], [⟨bq2, [(.int .i64 sp), (.slice (a.add (Nq.mk 1 1 [ls.getD a.n 0] bq4 1 []) xq6).ad ((a.add (Nq.mk 1 1 [ls.getD a.n 0] bq4 1 []) xq6).n) ((a.add (Nq.mk 1 1 [ls.getD a.n 0] bq4 1 []) xq6).cp))], 24, true⟩, ⟨bq1, [(.int .i64 0), (.slice none 0 0)], 24, true⟩], ((a.add (Nq.mk 1 1 [ls.getD a.n 0] bq4 1 []) xq6).row 75), (a.qs.map (Nq.blk 52))]) (idx := [2, 3, 4, 1]) 5 [0] h rfl (by decide) rfl) ?_
   refine GC.region ?_
   refine GL.mv rfl (by decide) ?_
   refine GL.val (v := (.int .i64 ((((a.add (Nq.mk 1 1 [ls.getD a.n 0] bq4 1 []) xq6).n : Nat) : Int)))) (Ex.add rfl rfl (Z := (((a.add (Nq.mk 1 1 [ls.getD a.n 0] bq4 1 []) xq6).n : Nat) : Int)) (by rw [Ac.add_n, w64 (by omega)]; omega)) (by decide) ?_
   refine GL.sg rfl (by decide) ?_
   refine GL.nil (GE.thenN ?_)
   exact Head.mk ((a.add (Nq.mk 1 1 [ls.getD a.n 0] bq4 1 []) xq6)) ⟨by rw [Ac.add_n]; omega, Ac.ds_step hp.2.1 rfl, hq7, Ac.add_mem hp.2.2.2 ⟨rfl, (show 1 ≤ 9223372036854775807 by decide)⟩⟩ (by rw [Ac.add_n]; omega) ((sub_cons rfl ((sub_cons rfl ((sub_cons rfl ((sub_cons rfl ((sub_nil _)))))))))) (ulC (ulC ulR))
  refine GHs.cons rfl (Stp.buildSlice (cs := [(.int .u32 ((ls.getD a.n 0)))]) (vs := [(0, (.int .u32 ((ls.getD a.n 0))))]) Tryz.underlying53 T.zr52 T.sz52 rfl (by decide) (by decide) (by first | rfl | kernel_rfl) (by decide)) (fun _ => (ulS (ulS (ulC ulN)))) (fun bq8 _ => ?_) ?_
  ·refine GH.tk 7 (v := (.agg #[(.int .i64 1), (.int .i64 1), (.slice (some ⟨bq8, 0, none⟩) 1 1)])) rfl (by kernel_rfl) (fun _ _ _ h => h) (Ex.build (vs := [(0, (.int .i64 1)), (1, (.int .i64 1)), (2, (.slice (some ⟨bq8, 0, none⟩) 1 1))]) rfl (by first | rfl | kernel_rfl)) (ulS (ulS (ulC ulN))) (by decide) ?_
   refine GH.many (rs := [1, 8]) (by kernel_rfl) (by simp) ?_
   refine GHs.cons rfl (Ex.wp (v := (.slice a.ad a.n a.cp)) (Ex.load rfl T.ag22 (i := 1) rfl rfl) (by decide)) (fun _ => (ulS (ulS (ulC ulN)))) (fun _ _ => ?_) ?_
   ·refine GH.one 8 rfl (by kernel_rfl) (Stp.buildSlice (cs := [(.int .i64 1), (.int .i64 1), (.slice (some ⟨bq8, 0, none⟩) 1 1)]) (vs := [(0, (.agg #[(.int .i64 1), (.int .i64 1), (.slice (some ⟨bq8, 0, none⟩) 1 1)]))]) Tryz.underlying22 T.zr75 T.sz75 rfl (by decide) (by decide) (by first | rfl | kernel_rfl) (by decide)) (fun _ => (ulS (ulS (ulS (ulC ulN))))) (fun bq9 _ => ?_)
    refine GH.one 9 rfl (by kernel_rfl) (Stp.appAc (a := a) (q := (Nq.mk 1 1 [ls.getD a.n 0] bq8 1 [])) (K := [⟨bq9, [(.int .i64 1), (.int .i64 1), (.slice (some ⟨bq8, 0, none⟩) 1 1)], 75, true⟩, ⟨bq8, [(.int .u32 ((ls.getD a.n 0)))], 52, true⟩, ⟨bq2, [(.int .i64 sp), (.slice a.ad a.n a.cp)], 24, true⟩, ⟨bq1, [(.int .i64 0), (.slice none 0 0)], 24, true⟩]) (R := (a.qs.map (Nq.blk 52) ++ [])) rfl rfl Tryz.underlying22 T.sz75 T.zr75 rfl T.by75 rfl hp.2.2.1 (fun w hw => hw.rdOf (i := 0) rfl 0) (by omega) (by omega) (by decide)) (fun _ => (ulS (ulS (ulS (ulC ulN))))) (fun xq10 hq11 => ?_)
    refine GH.tk 10 (v := (.pointer (some ⟨bq2, 1, none⟩))) rfl (by kernel_rfl) (fun _ _ _ h => h) (Ex.cast (Ex.fieldAddr rfl Tryz.underlying24 rfl T.sz22 (by decide)) rfl) (ulS (ulS (ulS (ulC ulN)))) (by decide) ?_
    refine GH.done (by kernel_rfl) ?_
    refine GE.thenN ?_
    refine GE.tail rfl (Stp.st2 (cs' := [(.int .i64 sp), (.slice (a.add (Nq.mk 1 1 [ls.getD a.n 0] bq8 1 []) xq10).ad ((a.add (Nq.mk 1 1 [ls.getD a.n 0] bq8 1 []) xq10).n) ((a.add (Nq.mk 1 1 [ls.getD a.n 0] bq8 1 []) xq10).cp))]) rfl rfl rfl T.sz22 rfl rfl rfl) (fun _ _ => ?_)
    refine GE.blockN (GE.thenN ?_)
    refine GC.hp (L2 := (⟨bq2, [(.int .i64 sp), (.slice (a.add (Nq.mk 1 1 [ls.getD a.n 0] bq8 1 []) xq10).ad ((a.add (Nq.mk 1 1 [ls.getD a.n 0] bq8 1 []) xq10).n) ((a.add (Nq.mk 1 1 [ls.getD a.n 0] bq8 1 []) xq10).cp))], 24, true⟩ :: ⟨bq1, [(.int .i64 0), (.slice none 0 0)], 24, true⟩ :: ((a.add (Nq.mk 1 1 [ls.getD a.n 0] bq8 1 []) xq10).row 75 ++ ((a.add (Nq.mk 1 1 [ls.getD a.n 0] bq8 1 []) xq10).qs.map (Nq.blk 52) ++ [])))) (fun w h => by rw [Ac.add_map, List.append_assoc]; exact Hp.segsD (A := [[⟨bq9, [(.int .i64 1), (.int .i64 1), (.slice (some ⟨bq8, 0, none⟩) 1 1)], 75, true⟩], [⟨bq8, [(.int .u32 ((ls.getD a.n 0)))], 52, true⟩], [⟨bq2, [(.int .i64 sp), (.slice (a.add (Nq.mk 1 1 [ls.getD a.n 0] bq8 1 []) xq10).ad ((a.add (Nq.mk 1 1 [ls.getD a.n 0] bq8 1 []) xq10).n) ((a.add (Nq.mk 1 1 [ls.getD a.n 0] bq8 1 []) xq10).cp))], 24, true⟩, ⟨bq1, [(.int .i64 0), (.slice none 0 0)], 24, true⟩], ((a.add (Nq.mk 1 1 [ls.getD a.n 0] bq8 1 []) xq10).row 75), (a.qs.map (Nq.blk 52))]) (idx := [2, 3, 4, 1]) 5 [0] h rfl (by decide) rfl) ?_
    refine GC.region ?_
    refine GL.mv rfl (by decide) ?_
    refine GL.val (v := (.int .i64 ((((a.add (Nq.mk 1 1 [ls.getD a.n 0] bq8 1 []) xq10).n : Nat) : Int)))) (Ex.add rfl rfl (Z := (((a.add (Nq.mk 1 1 [ls.getD a.n 0] bq8 1 []) xq10).n : Nat) : Int)) (by rw [Ac.add_n, w64 (by omega)]; omega)) (by decide) ?_
    refine GL.sg rfl (by decide) ?_
    refine GL.nil (GE.thenN ?_)
    exact Head.mk ((a.add (Nq.mk 1 1 [ls.getD a.n 0] bq8 1 []) xq10)) ⟨by rw [Ac.add_n]; omega, Ac.ds_step hp.2.1 rfl, hq11, Ac.add_mem hp.2.2.2 ⟨rfl, (show 1 ≤ 9223372036854775807 by decide)⟩⟩ (by rw [Ac.add_n]; omega) ((sub_cons rfl ((sub_cons rfl ((sub_cons rfl ((sub_cons rfl ((sub_nil _)))))))))) (ulC (ulC ulR))
   refine GHs.cons rfl (Stp.buildSlice (cs := [(.int .i64 1), (.int .i64 1), (.slice (some ⟨bq8, 0, none⟩) 1 1)]) (vs := [(0, (.agg #[(.int .i64 1), (.int .i64 1), (.slice (some ⟨bq8, 0, none⟩) 1 1)]))]) Tryz.underlying22 T.zr75 T.sz75 rfl (by decide) (by decide) (by first | rfl | kernel_rfl) (by decide)) (fun _ => (ulS (ulS (ulS (ulC ulN))))) (fun bq12 _ => ?_) ?_
   ·refine GH.one 1 rfl (by kernel_rfl) (Ex.wp (v := (.slice a.ad a.n a.cp)) (Ex.load rfl T.ag22 (i := 2) rfl rfl) (by decide)) (fun _ => (ulS (ulS (ulS (ulC ulN))))) (fun _ _ => ?_)
    refine GH.one 9 rfl (by kernel_rfl) (Stp.appAc (a := a) (q := (Nq.mk 1 1 [ls.getD a.n 0] bq8 1 [])) (K := [⟨bq12, [(.int .i64 1), (.int .i64 1), (.slice (some ⟨bq8, 0, none⟩) 1 1)], 75, true⟩, ⟨bq8, [(.int .u32 ((ls.getD a.n 0)))], 52, true⟩, ⟨bq2, [(.int .i64 sp), (.slice a.ad a.n a.cp)], 24, true⟩, ⟨bq1, [(.int .i64 0), (.slice none 0 0)], 24, true⟩]) (R := (a.qs.map (Nq.blk 52) ++ [])) rfl rfl Tryz.underlying22 T.sz75 T.zr75 rfl T.by75 rfl hp.2.2.1 (fun w hw => hw.rdOf (i := 0) rfl 0) (by omega) (by omega) (by decide)) (fun _ => (ulS (ulS (ulS (ulC ulN))))) (fun xq13 hq14 => ?_)
    refine GH.tk 10 (v := (.pointer (some ⟨bq2, 1, none⟩))) rfl (by kernel_rfl) (fun _ _ _ h => h) (Ex.cast (Ex.fieldAddr rfl Tryz.underlying24 rfl T.sz22 (by decide)) rfl) (ulS (ulS (ulS (ulC ulN)))) (by decide) ?_
    refine GH.done (by kernel_rfl) ?_
    refine GE.thenN ?_
    refine GE.tail rfl (Stp.st2 (cs' := [(.int .i64 sp), (.slice (a.add (Nq.mk 1 1 [ls.getD a.n 0] bq8 1 []) xq13).ad ((a.add (Nq.mk 1 1 [ls.getD a.n 0] bq8 1 []) xq13).n) ((a.add (Nq.mk 1 1 [ls.getD a.n 0] bq8 1 []) xq13).cp))]) rfl rfl rfl T.sz22 rfl rfl rfl) (fun _ _ => ?_)
    refine GE.blockN (GE.thenN ?_)
    refine GC.hp (L2 := (⟨bq2, [(.int .i64 sp), (.slice (a.add (Nq.mk 1 1 [ls.getD a.n 0] bq8 1 []) xq13).ad ((a.add (Nq.mk 1 1 [ls.getD a.n 0] bq8 1 []) xq13).n) ((a.add (Nq.mk 1 1 [ls.getD a.n 0] bq8 1 []) xq13).cp))], 24, true⟩ :: ⟨bq1, [(.int .i64 0), (.slice none 0 0)], 24, true⟩ :: ((a.add (Nq.mk 1 1 [ls.getD a.n 0] bq8 1 []) xq13).row 75 ++ ((a.add (Nq.mk 1 1 [ls.getD a.n 0] bq8 1 []) xq13).qs.map (Nq.blk 52) ++ [])))) (fun w h => by rw [Ac.add_map, List.append_assoc]; exact Hp.segsD (A := [[⟨bq12, [(.int .i64 1), (.int .i64 1), (.slice (some ⟨bq8, 0, none⟩) 1 1)], 75, true⟩], [⟨bq8, [(.int .u32 ((ls.getD a.n 0)))], 52, true⟩], [⟨bq2, [(.int .i64 sp), (.slice (a.add (Nq.mk 1 1 [ls.getD a.n 0] bq8 1 []) xq13).ad ((a.add (Nq.mk 1 1 [ls.getD a.n 0] bq8 1 []) xq13).n) ((a.add (Nq.mk 1 1 [ls.getD a.n 0] bq8 1 []) xq13).cp))], 24, true⟩, ⟨bq1, [(.int .i64 0), (.slice none 0 0)], 24, true⟩], ((a.add (Nq.mk 1 1 [ls.getD a.n 0] bq8 1 []) xq13).row 75), (a.qs.map (Nq.blk 52))]) (idx := [2, 3, 4, 1]) 5 [0] h rfl (by decide) rfl) ?_
    refine GC.region ?_
    refine GL.mv rfl (by decide) ?_
    refine GL.val (v := (.int .i64 ((((a.add (Nq.mk 1 1 [ls.getD a.n 0] bq8 1 []) xq13).n : Nat) : Int)))) (Ex.add rfl rfl (Z := (((a.add (Nq.mk 1 1 [ls.getD a.n 0] bq8 1 []) xq13).n : Nat) : Int)) (by rw [Ac.add_n, w64 (by omega)]; omega)) (by decide) ?_
    refine GL.sg rfl (by decide) ?_
    refine GL.nil (GE.thenN ?_)
    exact Head.mk ((a.add (Nq.mk 1 1 [ls.getD a.n 0] bq8 1 []) xq13)) ⟨by rw [Ac.add_n]; omega, Ac.ds_step hp.2.1 rfl, hq14, Ac.add_mem hp.2.2.2 ⟨rfl, (show 1 ≤ 9223372036854775807 by decide)⟩⟩ (by rw [Ac.add_n]; omega) ((sub_cons rfl ((sub_cons rfl ((sub_cons rfl ((sub_cons rfl ((sub_nil _)))))))))) (ulC (ulC ulR))
   exact GHs.nil
  exact GHs.nil
 ·replace hq3 := of_decide_eq_false hq3
  refine GC.exit (GE.thenE (GE.thenE (GE.blockE (GE.thenN (GC.seq (GC.region ?_))))))
  refine GL.val (v := (.agg #[(.int .i64 sp), (.slice a.ad a.n a.cp)])) (Ex.loadA rfl T.ag24 T.sz24 (i := 0) rfl (vs := [(.int .i64 sp), (.slice a.ad a.n a.cp)]) rfl rfl) (by decide) ?_
  refine GL.step (Stp.st1 (cs' := [(.int .i64 sp), (.slice a.ad a.n a.cp)]) rfl rfl rfl T.sz24 rfl rfl rfl) (fun _ _ => ?_)
  refine GL.nil (GE.thenN (GC.ret ?_))
  refine GC.ret1 rfl (Rv.cellA rfl T.ag24 T.sz24 (L := _) (i := 1) rfl (vs := [(.int .i64 sp), (.slice a.ad a.n a.cp)]) rfl rfl) (fun wN HN => ?_)
  exact HN.ret a ⟨Ac.ne (by omega), by rw [hp.2.1, show a.n = ls.length by omega]; rfl, hp.2.2⟩ (by rw [show n = a.n by omega]) (ulS (ulS ulR)) (Ac.blks_own _ _ _)

theorem affine_a (sp : Int) (ad : Option Addr) (n cap : Nat) (ps : List Pn) (W H : Nat) (a b_ : Int) (f : Int → Int) (w : World) (hps : PnsA w ad ps) (hn : n = ps.length) (hok : OkPic sp ps W H) (hf : ∀ p ∈ ps, ∀ x ∈ p.xs, ∀ w', Keep None w w' → Calls Tryz.prog 101 #[.int .u32 x, .int .u32 a, .int .u32 b_] w' (Ret w' (fun _ : Unit => True) (fun _ => .int .u32 (f x)) (fun _ => []))) : Calls Tryz.prog 23 #[(.agg #[(.int .i64 sp), (.slice ad n cap)]), .int .i64 (-1), .int .u32 a, .int .u32 b_] w (Ret w (fun r : Ac => r.qs ≠ [] ∧ r.ds = ((List.range n).map (mpG f ((-1)) ps)) ∧ r.Ok ∧ ∀ q ∈ r.qs, q.Ok) (fun r => .tuple #[.agg #[.int .i64 sp, .slice r.ad n r.cp], .int .i64 0]) (fun r => r.blks 75 52)) := by
 obtain ⟨b, o, rfl, h⟩ := hps.at hok.n0
 refine (affine_all sp b o n cap ps W H a b_ f w h hn hok hf).mono fun e w' hr => ?_
 exact Ret.to id hr (fun _ h => h) (fun r h => by have e : r.n = n := by { rw [← Ac.ds_len, h.2.1]; simp }; rw [e]; rfl) (fun _ _ => rfl)

theorem between_a (sp : Int) (ad : Option Addr) (n cap : Nat) (ps : List Pn) (W H : Nat) (a b_ : Int) (f : Int → Int) (w : World) (hps : PnsA w ad ps) (hn : n = ps.length) (hok : OkPic sp ps W H) (hf : ∀ p ∈ ps, ∀ x ∈ p.xs, ∀ w', Keep None w w' → Calls Tryz.prog 102 #[.int .u32 x, .int .u32 a, .int .u32 b_] w' (Ret w' (fun _ : Unit => True) (fun _ => .int .u32 (f x)) (fun _ => []))) : Calls Tryz.prog 25 #[(.agg #[(.int .i64 sp), (.slice ad n cap)]), .int .i64 (-1), .int .u32 a, .int .u32 b_] w (Ret w (fun r : Ac => r.qs ≠ [] ∧ r.ds = ((List.range n).map (mpG f ((-1)) ps)) ∧ r.Ok ∧ ∀ q ∈ r.qs, q.Ok) (fun r => .tuple #[.agg #[.int .i64 sp, .slice r.ad n r.cp], .int .i64 0]) (fun r => r.blks 75 52)) := by
 obtain ⟨b, o, rfl, h⟩ := hps.at hok.n0
 refine (between_all sp b o n cap ps W H a b_ f w h hn hok hf).mono fun e w' hr => ?_
 exact Ret.to id hr (fun _ h => h) (fun r h => by have e : r.n = n := by { rw [← Ac.ds_len, h.2.1]; simp }; rw [e]; rfl) (fun _ _ => rfl)

theorem matrix_sw_a (sp : Int) (ad : Option Addr) (n cap : Nat) (ps : List Pn) (W H : Nat) (A : Nat) (f : Int → Int → Int → Int × Int × Int) (w : World) (hps : PnsA w ad ps) (hn : n = ps.length) (hok : OkPic sp ps W H) (hA : A = W * H) (hn3 : 3 ≤ n) (hm : ∀ (bR : Nat) (w' : World), Has w' [⟨bR, [(.float .f64 0), (.float .f64 0), (.float .f64 4607182418800017408), (.float .f64 0), (.float .f64 4607182418800017408), (.float .f64 0), (.float .f64 4607182418800017408), (.float .f64 0), (.float .f64 0)], 110, false⟩] → ∀ x ∈ (pAt ps 0).xs, ∀ y ∈ (pAt ps 1).xs, ∀ z ∈ (pAt ps 2).xs, Calls Tryz.prog 64 #[.int .u32 x, .int .u32 y, .int .u32 z, .pointer (some ⟨bR, 0, none⟩)] w' (Ret w' (fun _ : Unit => True) (fun _ => .tuple #[.int .u32 (f x y z).1, .int .u32 (f x y z).2.1, .int .u32 (f x y z).2.2]) (fun _ => []))) : Calls Tryz.prog 27 #[(.agg #[(.int .i64 sp), (.slice ad n cap)]), (.agg #[(.int .u32 0), (.int .u32 0), (.int .u32 1065353216), (.int .u32 0), (.int .u32 1065353216), (.int .u32 0), (.int .u32 1065353216), (.int .u32 0), (.int .u32 0)])] w (Ret w (fun r : Ac => r.qs ≠ [] ∧ r.ds = ((List.range n).map (trD f ps A)) ∧ r.Ok ∧ ∀ q ∈ r.qs, q.Ok) (fun r => .tuple #[.agg #[.int .i64 sp, .slice r.ad n r.cp], .int .i64 0]) (fun r => r.blks 75 52)) := by
 obtain ⟨b, o, rfl, h⟩ := hps.at hok.n0
 refine (matrix_sw sp b o n cap ps W H A f w h hn hok hA hn3 hm).mono fun e w' hr => ?_
 exact Ret.to id hr (fun _ h => h) (fun r h => by have e : r.n = n := by { rw [← Ac.ds_len, h.2.1]; simp }; rw [e]; rfl) (fun _ _ => rfl)

theorem two_a (kind : Int) (sp : Int) (ad : Option Addr) (n cap : Nat) (ps : List Pn) (W H : Nat) (ad2 : Option Addr) (c2 : Nat) (qs : List Pn) (fid : FuncId) (f : Int → Int → Int) (w : World) (hps : PnsA w ad ps) (hn : n = ps.length) (hok : OkPic sp ps W H) (hqs : PnsA w ad2 qs) (hq2 : n = qs.length) (hok2 : OkPic sp qs W H) (h2 : ∀ w', Calls Tryz.prog 68 #[.int .i64 kind] w' (Ret w' (fun _ : Unit => True) (fun _ => (.func (.func fid) #[] #[])) (fun _ => []))) (hf : ∀ i, i < n → FnS2 Tryz.prog w fid (pAt ps i).xs (pAt qs i).xs f) : Calls Tryz.prog 29 #[.int .i64 kind, (.agg #[(.int .i64 sp), (.slice ad n cap)]), (.agg #[(.int .i64 sp), (.slice ad2 n c2)])] w (Ret w (fun r : Ac => r.qs ≠ [] ∧ r.ds = ((List.range n).map (twG f ps qs)) ∧ r.Ok ∧ ∀ q ∈ r.qs, q.Ok) (fun r => .tuple #[.agg #[.int .i64 sp, .slice r.ad n r.cp], .int .i64 0]) (fun r => r.blks 75 52)) := by
 obtain ⟨b, o, rfl, h⟩ := hps.at hok.n0
 obtain ⟨b2, o2, rfl, hq⟩ := hqs.at hok2.n0
 refine (two_ok kind sp b o n cap b2 o2 c2 ps qs W H fid f w h hn hok hq hq2 hok2 h2 hf).mono fun e w' hr => ?_
 exact Ret.to id hr (fun _ h => h) (fun r h => by have e : r.n = n := by { rw [← Ac.ds_len, h.2.1]; simp }; rw [e]; rfl) (fun _ _ => rfl)

theorem q154_5 (w : World) :
  Calls Tryz.prog 154 #[(.int .u32 1065353216)] w (Ret w (fun _ : Unit => True) (fun rz => (.float .f32 1065353216)) (fun rz => [])) := by
 refine enter (M := None) (L := []) (n := 5) (l := [(0, (.int .u32 1065353216))]) Tryz.func154 rfl rfl (Args.cons rfl (Args.nil _)) (Hp.start _ _) ?_
 refine GC.seq (GC.region ?_)
 refine GL.sg rfl (by decide) ?_
 refine GL.nil (GE.thenN (GC.seq (GC.region ?_)))
 refine GL.mv rfl (by decide) ?_
 refine GL.val (v := (.float .f32 1065353216)) (Ex.ext (vs := [(.int .u32 1065353216)]) rfl rfl T.ext103 (fun _ => by first | rfl | kernel_rfl)) (by decide) ?_
 refine GL.sg rfl (by decide) ?_
 refine GL.nil (GE.thenN (GC.ret ?_))
 refine GC.ret1 rfl (Rv.tmp rfl) (fun wN HN => ?_)
 exact HN.ret () trivial rfl ulN rfl

theorem q148_4 (w : World) :
  Calls Tryz.prog 148 #[(.int .u32 1065353216)] w (Ret w (fun _ : Unit => True) (fun rz => (.float .f64 4607182418800017408)) (fun rz => [])) := by
 refine enter (M := None) (L := []) (n := 6) (l := [(0, (.int .u32 1065353216))]) Tryz.func148 rfl rfl (Args.cons rfl (Args.nil _)) (Hp.start _ _) ?_
 refine GC.seq (GC.region ?_)
 refine GL.sg rfl (by decide) ?_
 refine GL.nil (GE.thenN (GC.seq (GC.region ?_)))
 refine GL.mv rfl (by decide) ?_
 refine GL.step (Stp.callR (vs := [(.int .u32 1065353216)]) rfl rfl T.own154 (by decide) (fun wc hw => q154_5  wc )) (fun xq1 hq2 => ?_)
 refine GL.val (v := (.float .f64 4607182418800017408)) (Ex.cff (r := 4607182418800017408) rfl Tryz.underlying145 Tryz.underlying108 (by kernel_rfl)) (by decide) ?_
 refine GL.sg rfl (by decide) ?_
 refine GL.nil (GE.thenN (GC.ret ?_))
 refine GC.ret1 rfl (Rv.tmp rfl) (fun wN HN => ?_)
 exact HN.ret () trivial rfl ulN rfl

theorem q154_7 (w : World) :
  Calls Tryz.prog 154 #[(.int .u32 1073741824)] w (Ret w (fun _ : Unit => True) (fun rz => (.float .f32 1073741824)) (fun rz => [])) := by
 refine enter (M := None) (L := []) (n := 5) (l := [(0, (.int .u32 1073741824))]) Tryz.func154 rfl rfl (Args.cons rfl (Args.nil _)) (Hp.start _ _) ?_
 refine GC.seq (GC.region ?_)
 refine GL.sg rfl (by decide) ?_
 refine GL.nil (GE.thenN (GC.seq (GC.region ?_)))
 refine GL.mv rfl (by decide) ?_
 refine GL.val (v := (.float .f32 1073741824)) (Ex.ext (vs := [(.int .u32 1073741824)]) rfl rfl T.ext103 (fun _ => by first | rfl | kernel_rfl)) (by decide) ?_
 refine GL.sg rfl (by decide) ?_
 refine GL.nil (GE.thenN (GC.ret ?_))
 refine GC.ret1 rfl (Rv.tmp rfl) (fun wN HN => ?_)
 exact HN.ret () trivial rfl ulN rfl

theorem q148_6 (w : World) :
  Calls Tryz.prog 148 #[(.int .u32 1073741824)] w (Ret w (fun _ : Unit => True) (fun rz => (.float .f64 4611686018427387904)) (fun rz => [])) := by
 refine enter (M := None) (L := []) (n := 6) (l := [(0, (.int .u32 1073741824))]) Tryz.func148 rfl rfl (Args.cons rfl (Args.nil _)) (Hp.start _ _) ?_
 refine GC.seq (GC.region ?_)
 refine GL.sg rfl (by decide) ?_
 refine GL.nil (GE.thenN (GC.seq (GC.region ?_)))
 refine GL.mv rfl (by decide) ?_
 refine GL.step (Stp.callR (vs := [(.int .u32 1073741824)]) rfl rfl T.own154 (by decide) (fun wc hw => q154_7  wc )) (fun xq1 hq2 => ?_)
 refine GL.val (v := (.float .f64 4611686018427387904)) (Ex.cff (r := 4611686018427387904) rfl Tryz.underlying145 Tryz.underlying108 (by kernel_rfl)) (by decide) ?_
 refine GL.sg rfl (by decide) ?_
 refine GL.nil (GE.thenN (GC.ret ?_))
 refine GC.ret1 rfl (Rv.tmp rfl) (fun wN HN => ?_)
 exact HN.ret () trivial rfl ulN rfl

theorem q182_9 (w : World) :
  Calls Tryz.prog 182 #[(.float .f64 4613937818241073152)] w (Ret w (fun _ : Unit => True) (fun rz => (.float .f64 4613937818241073152)) (fun rz => [])) := by
 refine enter (M := None) (L := []) (n := 7) (l := [(0, (.float .f64 4613937818241073152))]) Tryz.func182 rfl rfl (Args.cons rfl (Args.nil _)) (Hp.start _ _) ?_
 refine GC.seq (GC.region ?_)
 refine GL.sg rfl (by decide) ?_
 refine GL.nil (GE.thenN (GC.seq (GC.region ?_)))
 refine GL.mv rfl (by decide) ?_
 refine GL.val (v := (.int .u64 4613937818241073152)) (Ex.ext (vs := [(.float .f64 4613937818241073152)]) rfl rfl T.ext151 (fun _ => by first | rfl | kernel_rfl)) (by decide) ?_
 refine GL.val (v := (.int .u64 4613937818241073152)) (Ex.andn rfl rfl (Z := 4613937818241073152) (by decide +kernel)) (by decide) ?_
 refine GL.val (v := (.float .f64 4613937818241073152)) (Ex.ext (vs := [(.int .u64 4613937818241073152)]) rfl rfl T.ext152 (fun _ => by first | rfl | kernel_rfl)) (by decide) ?_
 refine GL.sg rfl (by decide) ?_
 refine GL.nil (GE.thenN (GC.ret ?_))
 refine GC.ret1 rfl (Rv.tmp rfl) (fun wN HN => ?_)
 exact HN.ret () trivial rfl ulN rfl

theorem q149_8 (w : World) :
  Calls Tryz.prog 149 #[(.float .f64 4613937818241073152), (.int .i64 0)] w (Ret w (fun _ : Unit => True) (fun rz => (.bool false)) (fun rz => [])) := by
 refine enter (M := None) (L := []) (n := 15) (l := [(0, (.float .f64 4613937818241073152)), (1, (.int .i64 0))]) Tryz.func149 rfl rfl (Args.cons rfl (Args.cons rfl (Args.nil _))) (Hp.start _ _) ?_
 refine GC.seq (GC.region ?_)
 refine GL.sg rfl (by decide) ?_
 refine GL.nil (GE.thenN (GC.seq (GC.seq (GC.region ?_))))
 refine GL.mv rfl (by decide) ?_
 refine GL.val (v := (.bool true)) (Ex.cast (Ex.eql rfl rfl) rfl) (by decide) ?_
 refine GL.nil (GE.thenN ?_)
 refine GC.cond rfl (fun _ => ?_) (fun hq1 => by cases hq1)
 refine GC.region ?_
 refine GL.mv rfl (by decide) ?_
 refine GL.step (Stp.callR (vs := [(.float .f64 4613937818241073152)]) rfl rfl T.own182 (by decide) (fun wc hw => q182_9  wc )) (fun xq2 hq3 => ?_)
 refine GL.sg rfl (by decide) ?_
 refine GL.nil (GE.thenN (GC.seq (GC.region ?_)))
 refine GL.mv rfl (by decide) ?_
 refine GL.val (v := (.bool false)) (Ex.fgtr (r := false) rfl rfl (by kernel_rfl)) (by decide) ?_
 refine GL.sg rfl (by decide) ?_
 refine GL.nil (GE.thenN (GC.ret ?_))
 refine GC.ret1 rfl (Rv.tmp rfl) (fun wN HN => ?_)
 exact HN.ret () trivial rfl ulN rfl

theorem q150_10 (w : World) :
  Calls Tryz.prog 150 #[(.float .f32 1077936128)] w (Ret w (fun _ : Unit => True) (fun rz => (.int .u32 1077936128)) (fun rz => [])) := by
 refine enter (M := None) (L := []) (n := 8) (l := [(0, (.float .f32 1077936128))]) Tryz.func150 rfl rfl (Args.cons rfl (Args.nil _)) (Hp.start _ _) ?_
 refine GC.seq (GC.region ?_)
 refine GL.sg rfl (by decide) ?_
 refine GL.nil (GE.thenN (GC.seq (GC.seq (GC.region ?_))))
 refine GL.mv rfl (by decide) ?_
 refine GL.mv rfl (by decide) ?_
 refine GL.val (v := (.bool false)) (Ex.fneq (r := false) rfl rfl (by kernel_rfl)) (by decide) ?_
 refine GL.nil (GE.thenN ?_)
 refine GC.cond rfl (fun hq1 => by cases hq1) (fun _ => ?_)
 refine GC.skip (GE.thenN (GC.seq (GC.region ?_)))
 refine GL.mv rfl (by decide) ?_
 refine GL.val (v := (.int .u32 1077936128)) (Ex.ext (vs := [(.float .f32 1077936128)]) rfl rfl T.ext105 (fun _ => by first | rfl | kernel_rfl)) (by decide) ?_
 refine GL.sg rfl (by decide) ?_
 refine GL.nil (GE.thenN (GC.ret ?_))
 refine GC.ret1 rfl (Rv.tmp rfl) (fun wN HN => ?_)
 exact HN.ret () trivial rfl ulN rfl

theorem q101_3 (w : World) :
  Calls Tryz.prog 101 #[(.int .u32 1065353216), (.int .u32 1073741824), (.int .u32 1065353216)] w (Ret w (fun _ : Unit => True) (fun rz => (.int .u32 1077936128)) (fun rz => [])) := by
 refine enter (M := None) (L := []) (n := 68) (l := [(0, (.int .u32 1065353216)), (1, (.int .u32 1073741824)), (2, (.int .u32 1065353216))]) Tryz.func101 rfl rfl (Args.cons rfl (Args.cons rfl (Args.cons rfl (Args.nil _)))) (Hp.start _ _) ?_
 refine GC.seq (GC.region ?_)
 refine GL.sg rfl (by decide) ?_
 refine GL.nil (GE.thenN (GC.seq (GC.region ?_)))
 refine GL.mv rfl (by decide) ?_
 refine GL.step (Stp.callR (vs := [(.int .u32 1065353216)]) rfl rfl T.own148 (by decide) (fun wc hw => q148_4  wc )) (fun xq1 hq2 => ?_)
 refine GL.mv rfl (by decide) ?_
 refine GL.step (Stp.callR (vs := [(.int .u32 1073741824)]) rfl rfl T.own148 (by decide) (fun wc hw => q148_6  wc )) (fun xq3 hq4 => ?_)
 refine GL.val (v := (.float .f64 4611686018427387904)) (Ex.farith (r := 4611686018427387904) rfl rfl (by kernel_rfl)) (by decide) ?_
 refine GL.sg rfl (by decide) ?_
 refine GL.nil (GE.thenN (GC.seq (GC.region ?_)))
 refine GL.mv rfl (by decide) ?_
 refine GL.step (Stp.callR (vs := [(.int .u32 1065353216)]) rfl rfl T.own148 (by decide) (fun wc hw => q148_4  wc )) (fun xq5 hq6 => ?_)
 refine GL.sg rfl (by decide) ?_
 refine GL.nil (GE.thenN (GC.seq (GC.region ?_)))
 refine GL.mv rfl (by decide) ?_
 refine GL.mv rfl (by decide) ?_
 refine GL.val (v := (.float .f64 4613937818241073152)) (Ex.farith (r := 4613937818241073152) rfl rfl (by kernel_rfl)) (by decide) ?_
 refine GL.sg rfl (by decide) ?_
 refine GL.nil (GE.thenN (GC.seq (GC.seq (GC.region ?_))))
 refine GL.mv rfl (by decide) ?_
 refine GL.mv rfl (by decide) ?_
 refine GL.val (v := (.bool false)) (Ex.fneq (r := false) rfl rfl (by kernel_rfl)) (by decide) ?_
 refine GL.mv rfl (by decide) ?_
 refine GL.stepG (tj := 26) rfl rfl (Ex.wp (v := (.float .f64 4613937818241073152)) (Ex.move rfl) (by decide)) (fun _ _ => ?_)
 refine GL.stepG (tj := 26) rfl rfl (Stp.callR (vs := [(.float .f64 4613937818241073152), (.int .i64 0)]) rfl rfl T.own149 (by decide) (fun wc hw => q149_8  wc )) (fun xq7 hq8 => ?_)
 refine GL.val (v := (.bool false)) (Ex.pickF rfl rfl) (by decide) ?_
 refine GL.nil (GE.thenN ?_)
 refine GC.cond rfl (fun hq9 => by cases hq9) (fun _ => ?_)
 refine GC.skip (GE.thenN (GC.seq (GC.region ?_)))
 refine GL.mv rfl (by decide) ?_
 refine GL.mv rfl (by decide) ?_
 refine GL.val (v := (.float .f64 4607182418800017408)) (Ex.farith (r := 4607182418800017408) rfl rfl (by kernel_rfl)) (by decide) ?_
 refine GL.sg rfl (by decide) ?_
 refine GL.nil (GE.thenN (GC.seq (GC.region ?_)))
 refine GL.mv rfl (by decide) ?_
 refine GL.mv rfl (by decide) ?_
 refine GL.mv rfl (by decide) ?_
 refine GL.val (v := (.float .f64 4611686018427387904)) (Ex.farith (r := 4611686018427387904) rfl rfl (by kernel_rfl)) (by decide) ?_
 refine GL.val (v := (.float .f64 0)) (Ex.farith (r := 0) rfl rfl (by kernel_rfl)) (by decide) ?_
 refine GL.mv rfl (by decide) ?_
 refine GL.mv rfl (by decide) ?_
 refine GL.val (v := (.float .f64 0)) (Ex.farith (r := 0) rfl rfl (by kernel_rfl)) (by decide) ?_
 refine GL.val (v := (.float .f64 0)) (Ex.farith (r := 0) rfl rfl (by kernel_rfl)) (by decide) ?_
 refine GL.sg rfl (by decide) ?_
 refine GL.nil (GE.thenN (GC.seq (GC.seq (GC.region ?_))))
 refine GL.mv rfl (by decide) ?_
 refine GL.val (v := (.int .u64 4613937818241073152)) (Ex.ext (vs := [(.float .f64 4613937818241073152)]) rfl rfl T.ext151 (fun _ => by first | rfl | kernel_rfl)) (by decide) ?_
 refine GL.sg rfl (by decide) ?_
 refine GL.nil (GE.thenN (GC.seq (GC.region ?_)))
 refine GL.mv rfl (by decide) ?_
 refine GL.val (v := (.bool false)) (Ex.fneq (r := false) rfl rfl (by kernel_rfl)) (by decide) ?_
 refine GL.mv rfl (by decide) ?_
 refine GL.skipG (tj := 49) rfl rfl rfl (by decide) ?_
 refine GL.skipG (tj := 49) rfl rfl rfl (by decide) ?_
 refine GL.skipG (tj := 49) rfl rfl rfl (by decide) ?_
 refine GL.val (v := (.bool false)) (Ex.pickF rfl rfl) (by decide) ?_
 refine GL.nil (GE.thenN ?_)
 refine GC.cond rfl (fun hq10 => by cases hq10) (fun _ => ?_)
 refine GC.skip (GE.thenN (GC.seq (GC.region ?_)))
 refine GL.mv rfl (by decide) ?_
 refine GL.val (v := (.float .f32 1077936128)) (Ex.cff (r := 1077936128) rfl Tryz.underlying108 Tryz.underlying145 (by kernel_rfl)) (by decide) ?_
 refine GL.step (Stp.callR (vs := [(.float .f32 1077936128)]) rfl rfl T.own150 (by decide) (fun wc hw => q150_10  wc )) (fun xq11 hq12 => ?_)
 refine GL.sg rfl (by decide) ?_
 refine GL.nil (GE.thenN (GC.ret ?_))
 refine GC.ret1 rfl (Rv.tmp rfl) (fun wN HN => ?_)
 exact HN.ret () trivial rfl ulN rfl

theorem q182_13 (w : World) :
  Calls Tryz.prog 182 #[(.float .f64 4617315517961601024)] w (Ret w (fun _ : Unit => True) (fun rz => (.float .f64 4617315517961601024)) (fun rz => [])) := by
 refine enter (M := None) (L := []) (n := 7) (l := [(0, (.float .f64 4617315517961601024))]) Tryz.func182 rfl rfl (Args.cons rfl (Args.nil _)) (Hp.start _ _) ?_
 refine GC.seq (GC.region ?_)
 refine GL.sg rfl (by decide) ?_
 refine GL.nil (GE.thenN (GC.seq (GC.region ?_)))
 refine GL.mv rfl (by decide) ?_
 refine GL.val (v := (.int .u64 4617315517961601024)) (Ex.ext (vs := [(.float .f64 4617315517961601024)]) rfl rfl T.ext151 (fun _ => by first | rfl | kernel_rfl)) (by decide) ?_
 refine GL.val (v := (.int .u64 4617315517961601024)) (Ex.andn rfl rfl (Z := 4617315517961601024) (by decide +kernel)) (by decide) ?_
 refine GL.val (v := (.float .f64 4617315517961601024)) (Ex.ext (vs := [(.int .u64 4617315517961601024)]) rfl rfl T.ext152 (fun _ => by first | rfl | kernel_rfl)) (by decide) ?_
 refine GL.sg rfl (by decide) ?_
 refine GL.nil (GE.thenN (GC.ret ?_))
 refine GC.ret1 rfl (Rv.tmp rfl) (fun wN HN => ?_)
 exact HN.ret () trivial rfl ulN rfl

theorem q149_12 (w : World) :
  Calls Tryz.prog 149 #[(.float .f64 4617315517961601024), (.int .i64 0)] w (Ret w (fun _ : Unit => True) (fun rz => (.bool false)) (fun rz => [])) := by
 refine enter (M := None) (L := []) (n := 15) (l := [(0, (.float .f64 4617315517961601024)), (1, (.int .i64 0))]) Tryz.func149 rfl rfl (Args.cons rfl (Args.cons rfl (Args.nil _))) (Hp.start _ _) ?_
 refine GC.seq (GC.region ?_)
 refine GL.sg rfl (by decide) ?_
 refine GL.nil (GE.thenN (GC.seq (GC.seq (GC.region ?_))))
 refine GL.mv rfl (by decide) ?_
 refine GL.val (v := (.bool true)) (Ex.cast (Ex.eql rfl rfl) rfl) (by decide) ?_
 refine GL.nil (GE.thenN ?_)
 refine GC.cond rfl (fun _ => ?_) (fun hq1 => by cases hq1)
 refine GC.region ?_
 refine GL.mv rfl (by decide) ?_
 refine GL.step (Stp.callR (vs := [(.float .f64 4617315517961601024)]) rfl rfl T.own182 (by decide) (fun wc hw => q182_13  wc )) (fun xq2 hq3 => ?_)
 refine GL.sg rfl (by decide) ?_
 refine GL.nil (GE.thenN (GC.seq (GC.region ?_)))
 refine GL.mv rfl (by decide) ?_
 refine GL.val (v := (.bool false)) (Ex.fgtr (r := false) rfl rfl (by kernel_rfl)) (by decide) ?_
 refine GL.sg rfl (by decide) ?_
 refine GL.nil (GE.thenN (GC.ret ?_))
 refine GC.ret1 rfl (Rv.tmp rfl) (fun wN HN => ?_)
 exact HN.ret () trivial rfl ulN rfl

theorem q150_14 (w : World) :
  Calls Tryz.prog 150 #[(.float .f32 1084227584)] w (Ret w (fun _ : Unit => True) (fun rz => (.int .u32 1084227584)) (fun rz => [])) := by
 refine enter (M := None) (L := []) (n := 8) (l := [(0, (.float .f32 1084227584))]) Tryz.func150 rfl rfl (Args.cons rfl (Args.nil _)) (Hp.start _ _) ?_
 refine GC.seq (GC.region ?_)
 refine GL.sg rfl (by decide) ?_
 refine GL.nil (GE.thenN (GC.seq (GC.seq (GC.region ?_))))
 refine GL.mv rfl (by decide) ?_
 refine GL.mv rfl (by decide) ?_
 refine GL.val (v := (.bool false)) (Ex.fneq (r := false) rfl rfl (by kernel_rfl)) (by decide) ?_
 refine GL.nil (GE.thenN ?_)
 refine GC.cond rfl (fun hq1 => by cases hq1) (fun _ => ?_)
 refine GC.skip (GE.thenN (GC.seq (GC.region ?_)))
 refine GL.mv rfl (by decide) ?_
 refine GL.val (v := (.int .u32 1084227584)) (Ex.ext (vs := [(.float .f32 1084227584)]) rfl rfl T.ext105 (fun _ => by first | rfl | kernel_rfl)) (by decide) ?_
 refine GL.sg rfl (by decide) ?_
 refine GL.nil (GE.thenN (GC.ret ?_))
 refine GC.ret1 rfl (Rv.tmp rfl) (fun wN HN => ?_)
 exact HN.ret () trivial rfl ulN rfl

theorem q101_11 (w : World) :
  Calls Tryz.prog 101 #[(.int .u32 1073741824), (.int .u32 1073741824), (.int .u32 1065353216)] w (Ret w (fun _ : Unit => True) (fun rz => (.int .u32 1084227584)) (fun rz => [])) := by
 refine enter (M := None) (L := []) (n := 68) (l := [(0, (.int .u32 1073741824)), (1, (.int .u32 1073741824)), (2, (.int .u32 1065353216))]) Tryz.func101 rfl rfl (Args.cons rfl (Args.cons rfl (Args.cons rfl (Args.nil _)))) (Hp.start _ _) ?_
 refine GC.seq (GC.region ?_)
 refine GL.sg rfl (by decide) ?_
 refine GL.nil (GE.thenN (GC.seq (GC.region ?_)))
 refine GL.mv rfl (by decide) ?_
 refine GL.step (Stp.callR (vs := [(.int .u32 1073741824)]) rfl rfl T.own148 (by decide) (fun wc hw => q148_6  wc )) (fun xq1 hq2 => ?_)
 refine GL.mv rfl (by decide) ?_
 refine GL.step (Stp.callR (vs := [(.int .u32 1073741824)]) rfl rfl T.own148 (by decide) (fun wc hw => q148_6  wc )) (fun xq3 hq4 => ?_)
 refine GL.val (v := (.float .f64 4616189618054758400)) (Ex.farith (r := 4616189618054758400) rfl rfl (by kernel_rfl)) (by decide) ?_
 refine GL.sg rfl (by decide) ?_
 refine GL.nil (GE.thenN (GC.seq (GC.region ?_)))
 refine GL.mv rfl (by decide) ?_
 refine GL.step (Stp.callR (vs := [(.int .u32 1065353216)]) rfl rfl T.own148 (by decide) (fun wc hw => q148_4  wc )) (fun xq5 hq6 => ?_)
 refine GL.sg rfl (by decide) ?_
 refine GL.nil (GE.thenN (GC.seq (GC.region ?_)))
 refine GL.mv rfl (by decide) ?_
 refine GL.mv rfl (by decide) ?_
 refine GL.val (v := (.float .f64 4617315517961601024)) (Ex.farith (r := 4617315517961601024) rfl rfl (by kernel_rfl)) (by decide) ?_
 refine GL.sg rfl (by decide) ?_
 refine GL.nil (GE.thenN (GC.seq (GC.seq (GC.region ?_))))
 refine GL.mv rfl (by decide) ?_
 refine GL.mv rfl (by decide) ?_
 refine GL.val (v := (.bool false)) (Ex.fneq (r := false) rfl rfl (by kernel_rfl)) (by decide) ?_
 refine GL.mv rfl (by decide) ?_
 refine GL.stepG (tj := 26) rfl rfl (Ex.wp (v := (.float .f64 4617315517961601024)) (Ex.move rfl) (by decide)) (fun _ _ => ?_)
 refine GL.stepG (tj := 26) rfl rfl (Stp.callR (vs := [(.float .f64 4617315517961601024), (.int .i64 0)]) rfl rfl T.own149 (by decide) (fun wc hw => q149_12  wc )) (fun xq7 hq8 => ?_)
 refine GL.val (v := (.bool false)) (Ex.pickF rfl rfl) (by decide) ?_
 refine GL.nil (GE.thenN ?_)
 refine GC.cond rfl (fun hq9 => by cases hq9) (fun _ => ?_)
 refine GC.skip (GE.thenN (GC.seq (GC.region ?_)))
 refine GL.mv rfl (by decide) ?_
 refine GL.mv rfl (by decide) ?_
 refine GL.val (v := (.float .f64 4607182418800017408)) (Ex.farith (r := 4607182418800017408) rfl rfl (by kernel_rfl)) (by decide) ?_
 refine GL.sg rfl (by decide) ?_
 refine GL.nil (GE.thenN (GC.seq (GC.region ?_)))
 refine GL.mv rfl (by decide) ?_
 refine GL.mv rfl (by decide) ?_
 refine GL.mv rfl (by decide) ?_
 refine GL.val (v := (.float .f64 4616189618054758400)) (Ex.farith (r := 4616189618054758400) rfl rfl (by kernel_rfl)) (by decide) ?_
 refine GL.val (v := (.float .f64 0)) (Ex.farith (r := 0) rfl rfl (by kernel_rfl)) (by decide) ?_
 refine GL.mv rfl (by decide) ?_
 refine GL.mv rfl (by decide) ?_
 refine GL.val (v := (.float .f64 0)) (Ex.farith (r := 0) rfl rfl (by kernel_rfl)) (by decide) ?_
 refine GL.val (v := (.float .f64 0)) (Ex.farith (r := 0) rfl rfl (by kernel_rfl)) (by decide) ?_
 refine GL.sg rfl (by decide) ?_
 refine GL.nil (GE.thenN (GC.seq (GC.seq (GC.region ?_))))
 refine GL.mv rfl (by decide) ?_
 refine GL.val (v := (.int .u64 4617315517961601024)) (Ex.ext (vs := [(.float .f64 4617315517961601024)]) rfl rfl T.ext151 (fun _ => by first | rfl | kernel_rfl)) (by decide) ?_
 refine GL.sg rfl (by decide) ?_
 refine GL.nil (GE.thenN (GC.seq (GC.region ?_)))
 refine GL.mv rfl (by decide) ?_
 refine GL.val (v := (.bool false)) (Ex.fneq (r := false) rfl rfl (by kernel_rfl)) (by decide) ?_
 refine GL.mv rfl (by decide) ?_
 refine GL.skipG (tj := 49) rfl rfl rfl (by decide) ?_
 refine GL.skipG (tj := 49) rfl rfl rfl (by decide) ?_
 refine GL.skipG (tj := 49) rfl rfl rfl (by decide) ?_
 refine GL.val (v := (.bool false)) (Ex.pickF rfl rfl) (by decide) ?_
 refine GL.nil (GE.thenN ?_)
 refine GC.cond rfl (fun hq10 => by cases hq10) (fun _ => ?_)
 refine GC.skip (GE.thenN (GC.seq (GC.region ?_)))
 refine GL.mv rfl (by decide) ?_
 refine GL.val (v := (.float .f32 1084227584)) (Ex.cff (r := 1084227584) rfl Tryz.underlying108 Tryz.underlying145 (by kernel_rfl)) (by decide) ?_
 refine GL.step (Stp.callR (vs := [(.float .f32 1084227584)]) rfl rfl T.own150 (by decide) (fun wc hw => q150_14  wc )) (fun xq11 hq12 => ?_)
 refine GL.sg rfl (by decide) ?_
 refine GL.nil (GE.thenN (GC.ret ?_))
 refine GC.ret1 rfl (Rv.tmp rfl) (fun wN HN => ?_)
 exact HN.ret () trivial rfl ulN rfl

theorem q154_17 (w : World) :
  Calls Tryz.prog 154 #[(.int .u32 1082130432)] w (Ret w (fun _ : Unit => True) (fun rz => (.float .f32 1082130432)) (fun rz => [])) := by
 refine enter (M := None) (L := []) (n := 5) (l := [(0, (.int .u32 1082130432))]) Tryz.func154 rfl rfl (Args.cons rfl (Args.nil _)) (Hp.start _ _) ?_
 refine GC.seq (GC.region ?_)
 refine GL.sg rfl (by decide) ?_
 refine GL.nil (GE.thenN (GC.seq (GC.region ?_)))
 refine GL.mv rfl (by decide) ?_
 refine GL.val (v := (.float .f32 1082130432)) (Ex.ext (vs := [(.int .u32 1082130432)]) rfl rfl T.ext103 (fun _ => by first | rfl | kernel_rfl)) (by decide) ?_
 refine GL.sg rfl (by decide) ?_
 refine GL.nil (GE.thenN (GC.ret ?_))
 refine GC.ret1 rfl (Rv.tmp rfl) (fun wN HN => ?_)
 exact HN.ret () trivial rfl ulN rfl

theorem q148_16 (w : World) :
  Calls Tryz.prog 148 #[(.int .u32 1082130432)] w (Ret w (fun _ : Unit => True) (fun rz => (.float .f64 4616189618054758400)) (fun rz => [])) := by
 refine enter (M := None) (L := []) (n := 6) (l := [(0, (.int .u32 1082130432))]) Tryz.func148 rfl rfl (Args.cons rfl (Args.nil _)) (Hp.start _ _) ?_
 refine GC.seq (GC.region ?_)
 refine GL.sg rfl (by decide) ?_
 refine GL.nil (GE.thenN (GC.seq (GC.region ?_)))
 refine GL.mv rfl (by decide) ?_
 refine GL.step (Stp.callR (vs := [(.int .u32 1082130432)]) rfl rfl T.own154 (by decide) (fun wc hw => q154_17  wc )) (fun xq1 hq2 => ?_)
 refine GL.val (v := (.float .f64 4616189618054758400)) (Ex.cff (r := 4616189618054758400) rfl Tryz.underlying145 Tryz.underlying108 (by kernel_rfl)) (by decide) ?_
 refine GL.sg rfl (by decide) ?_
 refine GL.nil (GE.thenN (GC.ret ?_))
 refine GC.ret1 rfl (Rv.tmp rfl) (fun wN HN => ?_)
 exact HN.ret () trivial rfl ulN rfl

theorem q182_19 (w : World) :
  Calls Tryz.prog 182 #[(.float .f64 4621256167635550208)] w (Ret w (fun _ : Unit => True) (fun rz => (.float .f64 4621256167635550208)) (fun rz => [])) := by
 refine enter (M := None) (L := []) (n := 7) (l := [(0, (.float .f64 4621256167635550208))]) Tryz.func182 rfl rfl (Args.cons rfl (Args.nil _)) (Hp.start _ _) ?_
 refine GC.seq (GC.region ?_)
 refine GL.sg rfl (by decide) ?_
 refine GL.nil (GE.thenN (GC.seq (GC.region ?_)))
 refine GL.mv rfl (by decide) ?_
 refine GL.val (v := (.int .u64 4621256167635550208)) (Ex.ext (vs := [(.float .f64 4621256167635550208)]) rfl rfl T.ext151 (fun _ => by first | rfl | kernel_rfl)) (by decide) ?_
 refine GL.val (v := (.int .u64 4621256167635550208)) (Ex.andn rfl rfl (Z := 4621256167635550208) (by decide +kernel)) (by decide) ?_
 refine GL.val (v := (.float .f64 4621256167635550208)) (Ex.ext (vs := [(.int .u64 4621256167635550208)]) rfl rfl T.ext152 (fun _ => by first | rfl | kernel_rfl)) (by decide) ?_
 refine GL.sg rfl (by decide) ?_
 refine GL.nil (GE.thenN (GC.ret ?_))
 refine GC.ret1 rfl (Rv.tmp rfl) (fun wN HN => ?_)
 exact HN.ret () trivial rfl ulN rfl

theorem q149_18 (w : World) :
  Calls Tryz.prog 149 #[(.float .f64 4621256167635550208), (.int .i64 0)] w (Ret w (fun _ : Unit => True) (fun rz => (.bool false)) (fun rz => [])) := by
 refine enter (M := None) (L := []) (n := 15) (l := [(0, (.float .f64 4621256167635550208)), (1, (.int .i64 0))]) Tryz.func149 rfl rfl (Args.cons rfl (Args.cons rfl (Args.nil _))) (Hp.start _ _) ?_
 refine GC.seq (GC.region ?_)
 refine GL.sg rfl (by decide) ?_
 refine GL.nil (GE.thenN (GC.seq (GC.seq (GC.region ?_))))
 refine GL.mv rfl (by decide) ?_
 refine GL.val (v := (.bool true)) (Ex.cast (Ex.eql rfl rfl) rfl) (by decide) ?_
 refine GL.nil (GE.thenN ?_)
 refine GC.cond rfl (fun _ => ?_) (fun hq1 => by cases hq1)
 refine GC.region ?_
 refine GL.mv rfl (by decide) ?_
 refine GL.step (Stp.callR (vs := [(.float .f64 4621256167635550208)]) rfl rfl T.own182 (by decide) (fun wc hw => q182_19  wc )) (fun xq2 hq3 => ?_)
 refine GL.sg rfl (by decide) ?_
 refine GL.nil (GE.thenN (GC.seq (GC.region ?_)))
 refine GL.mv rfl (by decide) ?_
 refine GL.val (v := (.bool false)) (Ex.fgtr (r := false) rfl rfl (by kernel_rfl)) (by decide) ?_
 refine GL.sg rfl (by decide) ?_
 refine GL.nil (GE.thenN (GC.ret ?_))
 refine GC.ret1 rfl (Rv.tmp rfl) (fun wN HN => ?_)
 exact HN.ret () trivial rfl ulN rfl

theorem q150_20 (w : World) :
  Calls Tryz.prog 150 #[(.float .f32 1091567616)] w (Ret w (fun _ : Unit => True) (fun rz => (.int .u32 1091567616)) (fun rz => [])) := by
 refine enter (M := None) (L := []) (n := 8) (l := [(0, (.float .f32 1091567616))]) Tryz.func150 rfl rfl (Args.cons rfl (Args.nil _)) (Hp.start _ _) ?_
 refine GC.seq (GC.region ?_)
 refine GL.sg rfl (by decide) ?_
 refine GL.nil (GE.thenN (GC.seq (GC.seq (GC.region ?_))))
 refine GL.mv rfl (by decide) ?_
 refine GL.mv rfl (by decide) ?_
 refine GL.val (v := (.bool false)) (Ex.fneq (r := false) rfl rfl (by kernel_rfl)) (by decide) ?_
 refine GL.nil (GE.thenN ?_)
 refine GC.cond rfl (fun hq1 => by cases hq1) (fun _ => ?_)
 refine GC.skip (GE.thenN (GC.seq (GC.region ?_)))
 refine GL.mv rfl (by decide) ?_
 refine GL.val (v := (.int .u32 1091567616)) (Ex.ext (vs := [(.float .f32 1091567616)]) rfl rfl T.ext105 (fun _ => by first | rfl | kernel_rfl)) (by decide) ?_
 refine GL.sg rfl (by decide) ?_
 refine GL.nil (GE.thenN (GC.ret ?_))
 refine GC.ret1 rfl (Rv.tmp rfl) (fun wN HN => ?_)
 exact HN.ret () trivial rfl ulN rfl

theorem q101_15 (w : World) :
  Calls Tryz.prog 101 #[(.int .u32 1082130432), (.int .u32 1073741824), (.int .u32 1065353216)] w (Ret w (fun _ : Unit => True) (fun rz => (.int .u32 1091567616)) (fun rz => [])) := by
 refine enter (M := None) (L := []) (n := 68) (l := [(0, (.int .u32 1082130432)), (1, (.int .u32 1073741824)), (2, (.int .u32 1065353216))]) Tryz.func101 rfl rfl (Args.cons rfl (Args.cons rfl (Args.cons rfl (Args.nil _)))) (Hp.start _ _) ?_
 refine GC.seq (GC.region ?_)
 refine GL.sg rfl (by decide) ?_
 refine GL.nil (GE.thenN (GC.seq (GC.region ?_)))
 refine GL.mv rfl (by decide) ?_
 refine GL.step (Stp.callR (vs := [(.int .u32 1082130432)]) rfl rfl T.own148 (by decide) (fun wc hw => q148_16  wc )) (fun xq1 hq2 => ?_)
 refine GL.mv rfl (by decide) ?_
 refine GL.step (Stp.callR (vs := [(.int .u32 1073741824)]) rfl rfl T.own148 (by decide) (fun wc hw => q148_6  wc )) (fun xq3 hq4 => ?_)
 refine GL.val (v := (.float .f64 4620693217682128896)) (Ex.farith (r := 4620693217682128896) rfl rfl (by kernel_rfl)) (by decide) ?_
 refine GL.sg rfl (by decide) ?_
 refine GL.nil (GE.thenN (GC.seq (GC.region ?_)))
 refine GL.mv rfl (by decide) ?_
 refine GL.step (Stp.callR (vs := [(.int .u32 1065353216)]) rfl rfl T.own148 (by decide) (fun wc hw => q148_4  wc )) (fun xq5 hq6 => ?_)
 refine GL.sg rfl (by decide) ?_
 refine GL.nil (GE.thenN (GC.seq (GC.region ?_)))
 refine GL.mv rfl (by decide) ?_
 refine GL.mv rfl (by decide) ?_
 refine GL.val (v := (.float .f64 4621256167635550208)) (Ex.farith (r := 4621256167635550208) rfl rfl (by kernel_rfl)) (by decide) ?_
 refine GL.sg rfl (by decide) ?_
 refine GL.nil (GE.thenN (GC.seq (GC.seq (GC.region ?_))))
 refine GL.mv rfl (by decide) ?_
 refine GL.mv rfl (by decide) ?_
 refine GL.val (v := (.bool false)) (Ex.fneq (r := false) rfl rfl (by kernel_rfl)) (by decide) ?_
 refine GL.mv rfl (by decide) ?_
 refine GL.stepG (tj := 26) rfl rfl (Ex.wp (v := (.float .f64 4621256167635550208)) (Ex.move rfl) (by decide)) (fun _ _ => ?_)
 refine GL.stepG (tj := 26) rfl rfl (Stp.callR (vs := [(.float .f64 4621256167635550208), (.int .i64 0)]) rfl rfl T.own149 (by decide) (fun wc hw => q149_18  wc )) (fun xq7 hq8 => ?_)
 refine GL.val (v := (.bool false)) (Ex.pickF rfl rfl) (by decide) ?_
 refine GL.nil (GE.thenN ?_)
 refine GC.cond rfl (fun hq9 => by cases hq9) (fun _ => ?_)
 refine GC.skip (GE.thenN (GC.seq (GC.region ?_)))
 refine GL.mv rfl (by decide) ?_
 refine GL.mv rfl (by decide) ?_
 refine GL.val (v := (.float .f64 4607182418800017408)) (Ex.farith (r := 4607182418800017408) rfl rfl (by kernel_rfl)) (by decide) ?_
 refine GL.sg rfl (by decide) ?_
 refine GL.nil (GE.thenN (GC.seq (GC.region ?_)))
 refine GL.mv rfl (by decide) ?_
 refine GL.mv rfl (by decide) ?_
 refine GL.mv rfl (by decide) ?_
 refine GL.val (v := (.float .f64 4620693217682128896)) (Ex.farith (r := 4620693217682128896) rfl rfl (by kernel_rfl)) (by decide) ?_
 refine GL.val (v := (.float .f64 0)) (Ex.farith (r := 0) rfl rfl (by kernel_rfl)) (by decide) ?_
 refine GL.mv rfl (by decide) ?_
 refine GL.mv rfl (by decide) ?_
 refine GL.val (v := (.float .f64 0)) (Ex.farith (r := 0) rfl rfl (by kernel_rfl)) (by decide) ?_
 refine GL.val (v := (.float .f64 0)) (Ex.farith (r := 0) rfl rfl (by kernel_rfl)) (by decide) ?_
 refine GL.sg rfl (by decide) ?_
 refine GL.nil (GE.thenN (GC.seq (GC.seq (GC.region ?_))))
 refine GL.mv rfl (by decide) ?_
 refine GL.val (v := (.int .u64 4621256167635550208)) (Ex.ext (vs := [(.float .f64 4621256167635550208)]) rfl rfl T.ext151 (fun _ => by first | rfl | kernel_rfl)) (by decide) ?_
 refine GL.sg rfl (by decide) ?_
 refine GL.nil (GE.thenN (GC.seq (GC.region ?_)))
 refine GL.mv rfl (by decide) ?_
 refine GL.val (v := (.bool false)) (Ex.fneq (r := false) rfl rfl (by kernel_rfl)) (by decide) ?_
 refine GL.mv rfl (by decide) ?_
 refine GL.skipG (tj := 49) rfl rfl rfl (by decide) ?_
 refine GL.skipG (tj := 49) rfl rfl rfl (by decide) ?_
 refine GL.skipG (tj := 49) rfl rfl rfl (by decide) ?_
 refine GL.val (v := (.bool false)) (Ex.pickF rfl rfl) (by decide) ?_
 refine GL.nil (GE.thenN ?_)
 refine GC.cond rfl (fun hq10 => by cases hq10) (fun _ => ?_)
 refine GC.skip (GE.thenN (GC.seq (GC.region ?_)))
 refine GL.mv rfl (by decide) ?_
 refine GL.val (v := (.float .f32 1091567616)) (Ex.cff (r := 1091567616) rfl Tryz.underlying108 Tryz.underlying145 (by kernel_rfl)) (by decide) ?_
 refine GL.step (Stp.callR (vs := [(.float .f32 1091567616)]) rfl rfl T.own150 (by decide) (fun wc hw => q150_20  wc )) (fun xq11 hq12 => ?_)
 refine GL.sg rfl (by decide) ?_
 refine GL.nil (GE.thenN (GC.ret ?_))
 refine GC.ret1 rfl (Rv.tmp rfl) (fun wN HN => ?_)
 exact HN.ret () trivial rfl ulN rfl

theorem kn_fma (x : Int) (hx : x ∈ ([1065353216, 1073741824, 1082130432] : List Int)) (w : World) : Calls Tryz.prog 101 #[(.int .u32 x), (.int .u32 1073741824), (.int .u32 1065353216)] w (Ret w (fun _ : Unit => True) (fun _ => .int .u32 ((fun x : Int => if x = 1065353216 then (1077936128 : Int) else if x = 1073741824 then 1084227584 else 1091567616) x)) (fun _ => [])) := by
 simp only [List.mem_cons, List.mem_nil_iff, or_false] at hx
 rcases hx with rfl | rfl | rfl
 ·exact q101_3  w 
 ·exact q101_11  w 
 ·exact q101_15  w 

theorem q166_24 (w : World) :
  Calls Tryz.prog 166 #[(.int .u32 1065353216)] w (Ret w (fun _ : Unit => True) (fun rz => (.int .u32 3212836864)) (fun rz => [])) := by
 refine enter (M := None) (L := []) (n := 9) (l := [(0, (.int .u32 1065353216))]) Tryz.func166 rfl rfl (Args.cons rfl (Args.nil _)) (Hp.start _ _) ?_
 refine GC.seq (GC.region ?_)
 refine GL.sg rfl (by decide) ?_
 refine GL.nil (GE.thenN (GC.seq (GC.seq (GC.region ?_))))
 refine GL.mv rfl (by decide) ?_
 refine GL.val (v := (.bool true)) (Ex.cast (Ex.lss rfl rfl) rfl) (by decide) ?_
 refine GL.nil (GE.thenN ?_)
 refine GC.cond rfl (fun _ => ?_) (fun hq1 => by cases hq1)
 refine GC.seq (GC.region ?_)
 refine GL.mv rfl (by decide) ?_
 refine GL.val (v := (.int .u32 3212836864)) (Ex.add rfl rfl (Z := 3212836864) (by decide)) (by decide) ?_
 refine GL.sg rfl (by decide) ?_
 refine GL.nil (GE.thenN (GC.ret (GE.thenR ?_)))
 refine GC.ret1 rfl (Rv.tmp rfl) (fun wN HN => ?_)
 exact HN.ret () trivial rfl ulN rfl

theorem q166_25 (w : World) :
  Calls Tryz.prog 166 #[(.int .u32 1069547520)] w (Ret w (fun _ : Unit => True) (fun rz => (.int .u32 3217031168)) (fun rz => [])) := by
 refine enter (M := None) (L := []) (n := 9) (l := [(0, (.int .u32 1069547520))]) Tryz.func166 rfl rfl (Args.cons rfl (Args.nil _)) (Hp.start _ _) ?_
 refine GC.seq (GC.region ?_)
 refine GL.sg rfl (by decide) ?_
 refine GL.nil (GE.thenN (GC.seq (GC.seq (GC.region ?_))))
 refine GL.mv rfl (by decide) ?_
 refine GL.val (v := (.bool true)) (Ex.cast (Ex.lss rfl rfl) rfl) (by decide) ?_
 refine GL.nil (GE.thenN ?_)
 refine GC.cond rfl (fun _ => ?_) (fun hq1 => by cases hq1)
 refine GC.seq (GC.region ?_)
 refine GL.mv rfl (by decide) ?_
 refine GL.val (v := (.int .u32 3217031168)) (Ex.add rfl rfl (Z := 3217031168) (by decide)) (by decide) ?_
 refine GL.sg rfl (by decide) ?_
 refine GL.nil (GE.thenN (GC.ret (GE.thenR ?_)))
 refine GC.ret1 rfl (Rv.tmp rfl) (fun wN HN => ?_)
 exact HN.ret () trivial rfl ulN rfl

theorem q155_23 (w : World) :
  Calls Tryz.prog 155 #[(.int .u32 1065353216), (.int .u32 1069547520)] w (Ret w (fun _ : Unit => True) (fun rz => (.bool true)) (fun rz => [])) := by
 refine enter (M := None) (L := []) (n := 10) (l := [(0, (.int .u32 1065353216)), (1, (.int .u32 1069547520))]) Tryz.func155 rfl rfl (Args.cons rfl (Args.cons rfl (Args.nil _))) (Hp.start _ _) ?_
 refine GC.seq (GC.region ?_)
 refine GL.sg rfl (by decide) ?_
 refine GL.nil (GE.thenN (GC.seq (GC.region ?_)))
 refine GL.mv rfl (by decide) ?_
 refine GL.step (Stp.callR (vs := [(.int .u32 1065353216)]) rfl rfl T.own166 (by decide) (fun wc hw => q166_24  wc )) (fun xq1 hq2 => ?_)
 refine GL.mv rfl (by decide) ?_
 refine GL.step (Stp.callR (vs := [(.int .u32 1069547520)]) rfl rfl T.own166 (by decide) (fun wc hw => q166_25  wc )) (fun xq3 hq4 => ?_)
 refine GL.val (v := (.bool true)) (Ex.cast (Ex.lss rfl rfl) rfl) (by decide) ?_
 refine GL.sg rfl (by decide) ?_
 refine GL.nil (GE.thenN (GC.ret ?_))
 refine GC.ret1 rfl (Rv.tmp rfl) (fun wN HN => ?_)
 exact HN.ret () trivial rfl ulN rfl

theorem q111_22 (w : World) :
  Calls Tryz.prog 111 #[(.int .u32 1065353216), (.int .u32 1069547520)] w (Ret w (fun _ : Unit => True) (fun rz => (.int .u32 1069547520)) (fun rz => [])) := by
 refine enter (M := None) (L := []) (n := 10) (l := [(0, (.int .u32 1065353216)), (1, (.int .u32 1069547520))]) Tryz.func111 rfl rfl (Args.cons rfl (Args.cons rfl (Args.nil _))) (Hp.start _ _) ?_
 refine GC.seq (GC.region ?_)
 refine GL.sg rfl (by decide) ?_
 refine GL.nil (GE.thenN (GC.seq (GC.seq (GC.region ?_))))
 refine GL.mv rfl (by decide) ?_
 refine GL.mv rfl (by decide) ?_
 refine GL.step (Stp.callR (vs := [(.int .u32 1065353216), (.int .u32 1069547520)]) rfl rfl T.own155 (by decide) (fun wc hw => q155_23  wc )) (fun xq1 hq2 => ?_)
 refine GL.nil (GE.thenN ?_)
 refine GC.cond rfl (fun _ => ?_) (fun hq3 => by cases hq3)
 refine GC.seq (GC.region ?_)
 refine GL.mv rfl (by decide) ?_
 refine GL.sg rfl (by decide) ?_
 refine GL.nil (GE.thenN (GC.ret (GE.thenR ?_)))
 refine GC.ret1 rfl (Rv.tmp rfl) (fun wN HN => ?_)
 exact HN.ret () trivial rfl ulN rfl

theorem q166_28 (w : World) :
  Calls Tryz.prog 166 #[(.int .u32 1077936128)] w (Ret w (fun _ : Unit => True) (fun rz => (.int .u32 3225419776)) (fun rz => [])) := by
 refine enter (M := None) (L := []) (n := 9) (l := [(0, (.int .u32 1077936128))]) Tryz.func166 rfl rfl (Args.cons rfl (Args.nil _)) (Hp.start _ _) ?_
 refine GC.seq (GC.region ?_)
 refine GL.sg rfl (by decide) ?_
 refine GL.nil (GE.thenN (GC.seq (GC.seq (GC.region ?_))))
 refine GL.mv rfl (by decide) ?_
 refine GL.val (v := (.bool true)) (Ex.cast (Ex.lss rfl rfl) rfl) (by decide) ?_
 refine GL.nil (GE.thenN ?_)
 refine GC.cond rfl (fun _ => ?_) (fun hq1 => by cases hq1)
 refine GC.seq (GC.region ?_)
 refine GL.mv rfl (by decide) ?_
 refine GL.val (v := (.int .u32 3225419776)) (Ex.add rfl rfl (Z := 3225419776) (by decide)) (by decide) ?_
 refine GL.sg rfl (by decide) ?_
 refine GL.nil (GE.thenN (GC.ret (GE.thenR ?_)))
 refine GC.ret1 rfl (Rv.tmp rfl) (fun wN HN => ?_)
 exact HN.ret () trivial rfl ulN rfl

theorem q155_27 (w : World) :
  Calls Tryz.prog 155 #[(.int .u32 1077936128), (.int .u32 1069547520)] w (Ret w (fun _ : Unit => True) (fun rz => (.bool false)) (fun rz => [])) := by
 refine enter (M := None) (L := []) (n := 10) (l := [(0, (.int .u32 1077936128)), (1, (.int .u32 1069547520))]) Tryz.func155 rfl rfl (Args.cons rfl (Args.cons rfl (Args.nil _))) (Hp.start _ _) ?_
 refine GC.seq (GC.region ?_)
 refine GL.sg rfl (by decide) ?_
 refine GL.nil (GE.thenN (GC.seq (GC.region ?_)))
 refine GL.mv rfl (by decide) ?_
 refine GL.step (Stp.callR (vs := [(.int .u32 1077936128)]) rfl rfl T.own166 (by decide) (fun wc hw => q166_28  wc )) (fun xq1 hq2 => ?_)
 refine GL.mv rfl (by decide) ?_
 refine GL.step (Stp.callR (vs := [(.int .u32 1069547520)]) rfl rfl T.own166 (by decide) (fun wc hw => q166_25  wc )) (fun xq3 hq4 => ?_)
 refine GL.val (v := (.bool false)) (Ex.cast (Ex.lss rfl rfl) rfl) (by decide) ?_
 refine GL.sg rfl (by decide) ?_
 refine GL.nil (GE.thenN (GC.ret ?_))
 refine GC.ret1 rfl (Rv.tmp rfl) (fun wN HN => ?_)
 exact HN.ret () trivial rfl ulN rfl

theorem q110_26 (w : World) :
  Calls Tryz.prog 110 #[(.int .u32 1069547520), (.int .u32 1077936128)] w (Ret w (fun _ : Unit => True) (fun rz => (.int .u32 1069547520)) (fun rz => [])) := by
 refine enter (M := None) (L := []) (n := 10) (l := [(0, (.int .u32 1069547520)), (1, (.int .u32 1077936128))]) Tryz.func110 rfl rfl (Args.cons rfl (Args.cons rfl (Args.nil _))) (Hp.start _ _) ?_
 refine GC.seq (GC.region ?_)
 refine GL.sg rfl (by decide) ?_
 refine GL.nil (GE.thenN (GC.seq (GC.seq (GC.region ?_))))
 refine GL.mv rfl (by decide) ?_
 refine GL.mv rfl (by decide) ?_
 refine GL.step (Stp.callR (vs := [(.int .u32 1077936128), (.int .u32 1069547520)]) rfl rfl T.own155 (by decide) (fun wc hw => q155_27  wc )) (fun xq1 hq2 => ?_)
 refine GL.nil (GE.thenN ?_)
 refine GC.cond rfl (fun hq3 => by cases hq3) (fun _ => ?_)
 refine GC.skip (GE.thenN (GC.seq (GC.region ?_)))
 refine GL.mv rfl (by decide) ?_
 refine GL.sg rfl (by decide) ?_
 refine GL.nil (GE.thenN (GC.ret ?_))
 refine GC.ret1 rfl (Rv.tmp rfl) (fun wN HN => ?_)
 exact HN.ret () trivial rfl ulN rfl

theorem q102_21 (w : World) :
  Calls Tryz.prog 102 #[(.int .u32 1065353216), (.int .u32 1069547520), (.int .u32 1077936128)] w (Ret w (fun _ : Unit => True) (fun rz => (.int .u32 1069547520)) (fun rz => [])) := by
 refine enter (M := None) (L := []) (n := 12) (l := [(0, (.int .u32 1065353216)), (1, (.int .u32 1069547520)), (2, (.int .u32 1077936128))]) Tryz.func102 rfl rfl (Args.cons rfl (Args.cons rfl (Args.cons rfl (Args.nil _)))) (Hp.start _ _) ?_
 refine GC.seq (GC.region ?_)
 refine GL.sg rfl (by decide) ?_
 refine GL.nil (GE.thenN (GC.seq (GC.region ?_)))
 refine GL.mv rfl (by decide) ?_
 refine GL.mv rfl (by decide) ?_
 refine GL.step (Stp.callR (vs := [(.int .u32 1065353216), (.int .u32 1069547520)]) rfl rfl T.own111 (by decide) (fun wc hw => q111_22  wc )) (fun xq1 hq2 => ?_)
 refine GL.mv rfl (by decide) ?_
 refine GL.step (Stp.callR (vs := [(.int .u32 1069547520), (.int .u32 1077936128)]) rfl rfl T.own110 (by decide) (fun wc hw => q110_26  wc )) (fun xq3 hq4 => ?_)
 refine GL.sg rfl (by decide) ?_
 refine GL.nil (GE.thenN (GC.ret ?_))
 refine GC.ret1 rfl (Rv.tmp rfl) (fun wN HN => ?_)
 exact HN.ret () trivial rfl ulN rfl

theorem q166_32 (w : World) :
  Calls Tryz.prog 166 #[(.int .u32 1073741824)] w (Ret w (fun _ : Unit => True) (fun rz => (.int .u32 3221225472)) (fun rz => [])) := by
 refine enter (M := None) (L := []) (n := 9) (l := [(0, (.int .u32 1073741824))]) Tryz.func166 rfl rfl (Args.cons rfl (Args.nil _)) (Hp.start _ _) ?_
 refine GC.seq (GC.region ?_)
 refine GL.sg rfl (by decide) ?_
 refine GL.nil (GE.thenN (GC.seq (GC.seq (GC.region ?_))))
 refine GL.mv rfl (by decide) ?_
 refine GL.val (v := (.bool true)) (Ex.cast (Ex.lss rfl rfl) rfl) (by decide) ?_
 refine GL.nil (GE.thenN ?_)
 refine GC.cond rfl (fun _ => ?_) (fun hq1 => by cases hq1)
 refine GC.seq (GC.region ?_)
 refine GL.mv rfl (by decide) ?_
 refine GL.val (v := (.int .u32 3221225472)) (Ex.add rfl rfl (Z := 3221225472) (by decide)) (by decide) ?_
 refine GL.sg rfl (by decide) ?_
 refine GL.nil (GE.thenN (GC.ret (GE.thenR ?_)))
 refine GC.ret1 rfl (Rv.tmp rfl) (fun wN HN => ?_)
 exact HN.ret () trivial rfl ulN rfl

theorem q155_31 (w : World) :
  Calls Tryz.prog 155 #[(.int .u32 1073741824), (.int .u32 1069547520)] w (Ret w (fun _ : Unit => True) (fun rz => (.bool false)) (fun rz => [])) := by
 refine enter (M := None) (L := []) (n := 10) (l := [(0, (.int .u32 1073741824)), (1, (.int .u32 1069547520))]) Tryz.func155 rfl rfl (Args.cons rfl (Args.cons rfl (Args.nil _))) (Hp.start _ _) ?_
 refine GC.seq (GC.region ?_)
 refine GL.sg rfl (by decide) ?_
 refine GL.nil (GE.thenN (GC.seq (GC.region ?_)))
 refine GL.mv rfl (by decide) ?_
 refine GL.step (Stp.callR (vs := [(.int .u32 1073741824)]) rfl rfl T.own166 (by decide) (fun wc hw => q166_32  wc )) (fun xq1 hq2 => ?_)
 refine GL.mv rfl (by decide) ?_
 refine GL.step (Stp.callR (vs := [(.int .u32 1069547520)]) rfl rfl T.own166 (by decide) (fun wc hw => q166_25  wc )) (fun xq3 hq4 => ?_)
 refine GL.val (v := (.bool false)) (Ex.cast (Ex.lss rfl rfl) rfl) (by decide) ?_
 refine GL.sg rfl (by decide) ?_
 refine GL.nil (GE.thenN (GC.ret ?_))
 refine GC.ret1 rfl (Rv.tmp rfl) (fun wN HN => ?_)
 exact HN.ret () trivial rfl ulN rfl

theorem q111_30 (w : World) :
  Calls Tryz.prog 111 #[(.int .u32 1073741824), (.int .u32 1069547520)] w (Ret w (fun _ : Unit => True) (fun rz => (.int .u32 1073741824)) (fun rz => [])) := by
 refine enter (M := None) (L := []) (n := 10) (l := [(0, (.int .u32 1073741824)), (1, (.int .u32 1069547520))]) Tryz.func111 rfl rfl (Args.cons rfl (Args.cons rfl (Args.nil _))) (Hp.start _ _) ?_
 refine GC.seq (GC.region ?_)
 refine GL.sg rfl (by decide) ?_
 refine GL.nil (GE.thenN (GC.seq (GC.seq (GC.region ?_))))
 refine GL.mv rfl (by decide) ?_
 refine GL.mv rfl (by decide) ?_
 refine GL.step (Stp.callR (vs := [(.int .u32 1073741824), (.int .u32 1069547520)]) rfl rfl T.own155 (by decide) (fun wc hw => q155_31  wc )) (fun xq1 hq2 => ?_)
 refine GL.nil (GE.thenN ?_)
 refine GC.cond rfl (fun hq3 => by cases hq3) (fun _ => ?_)
 refine GC.skip (GE.thenN (GC.seq (GC.region ?_)))
 refine GL.mv rfl (by decide) ?_
 refine GL.sg rfl (by decide) ?_
 refine GL.nil (GE.thenN (GC.ret ?_))
 refine GC.ret1 rfl (Rv.tmp rfl) (fun wN HN => ?_)
 exact HN.ret () trivial rfl ulN rfl

theorem q155_34 (w : World) :
  Calls Tryz.prog 155 #[(.int .u32 1077936128), (.int .u32 1073741824)] w (Ret w (fun _ : Unit => True) (fun rz => (.bool false)) (fun rz => [])) := by
 refine enter (M := None) (L := []) (n := 10) (l := [(0, (.int .u32 1077936128)), (1, (.int .u32 1073741824))]) Tryz.func155 rfl rfl (Args.cons rfl (Args.cons rfl (Args.nil _))) (Hp.start _ _) ?_
 refine GC.seq (GC.region ?_)
 refine GL.sg rfl (by decide) ?_
 refine GL.nil (GE.thenN (GC.seq (GC.region ?_)))
 refine GL.mv rfl (by decide) ?_
 refine GL.step (Stp.callR (vs := [(.int .u32 1077936128)]) rfl rfl T.own166 (by decide) (fun wc hw => q166_28  wc )) (fun xq1 hq2 => ?_)
 refine GL.mv rfl (by decide) ?_
 refine GL.step (Stp.callR (vs := [(.int .u32 1073741824)]) rfl rfl T.own166 (by decide) (fun wc hw => q166_32  wc )) (fun xq3 hq4 => ?_)
 refine GL.val (v := (.bool false)) (Ex.cast (Ex.lss rfl rfl) rfl) (by decide) ?_
 refine GL.sg rfl (by decide) ?_
 refine GL.nil (GE.thenN (GC.ret ?_))
 refine GC.ret1 rfl (Rv.tmp rfl) (fun wN HN => ?_)
 exact HN.ret () trivial rfl ulN rfl

theorem q110_33 (w : World) :
  Calls Tryz.prog 110 #[(.int .u32 1073741824), (.int .u32 1077936128)] w (Ret w (fun _ : Unit => True) (fun rz => (.int .u32 1073741824)) (fun rz => [])) := by
 refine enter (M := None) (L := []) (n := 10) (l := [(0, (.int .u32 1073741824)), (1, (.int .u32 1077936128))]) Tryz.func110 rfl rfl (Args.cons rfl (Args.cons rfl (Args.nil _))) (Hp.start _ _) ?_
 refine GC.seq (GC.region ?_)
 refine GL.sg rfl (by decide) ?_
 refine GL.nil (GE.thenN (GC.seq (GC.seq (GC.region ?_))))
 refine GL.mv rfl (by decide) ?_
 refine GL.mv rfl (by decide) ?_
 refine GL.step (Stp.callR (vs := [(.int .u32 1077936128), (.int .u32 1073741824)]) rfl rfl T.own155 (by decide) (fun wc hw => q155_34  wc )) (fun xq1 hq2 => ?_)
 refine GL.nil (GE.thenN ?_)
 refine GC.cond rfl (fun hq3 => by cases hq3) (fun _ => ?_)
 refine GC.skip (GE.thenN (GC.seq (GC.region ?_)))
 refine GL.mv rfl (by decide) ?_
 refine GL.sg rfl (by decide) ?_
 refine GL.nil (GE.thenN (GC.ret ?_))
 refine GC.ret1 rfl (Rv.tmp rfl) (fun wN HN => ?_)
 exact HN.ret () trivial rfl ulN rfl

theorem q102_29 (w : World) :
  Calls Tryz.prog 102 #[(.int .u32 1073741824), (.int .u32 1069547520), (.int .u32 1077936128)] w (Ret w (fun _ : Unit => True) (fun rz => (.int .u32 1073741824)) (fun rz => [])) := by
 refine enter (M := None) (L := []) (n := 12) (l := [(0, (.int .u32 1073741824)), (1, (.int .u32 1069547520)), (2, (.int .u32 1077936128))]) Tryz.func102 rfl rfl (Args.cons rfl (Args.cons rfl (Args.cons rfl (Args.nil _)))) (Hp.start _ _) ?_
 refine GC.seq (GC.region ?_)
 refine GL.sg rfl (by decide) ?_
 refine GL.nil (GE.thenN (GC.seq (GC.region ?_)))
 refine GL.mv rfl (by decide) ?_
 refine GL.mv rfl (by decide) ?_
 refine GL.step (Stp.callR (vs := [(.int .u32 1073741824), (.int .u32 1069547520)]) rfl rfl T.own111 (by decide) (fun wc hw => q111_30  wc )) (fun xq1 hq2 => ?_)
 refine GL.mv rfl (by decide) ?_
 refine GL.step (Stp.callR (vs := [(.int .u32 1073741824), (.int .u32 1077936128)]) rfl rfl T.own110 (by decide) (fun wc hw => q110_33  wc )) (fun xq3 hq4 => ?_)
 refine GL.sg rfl (by decide) ?_
 refine GL.nil (GE.thenN (GC.ret ?_))
 refine GC.ret1 rfl (Rv.tmp rfl) (fun wN HN => ?_)
 exact HN.ret () trivial rfl ulN rfl

theorem q166_38 (w : World) :
  Calls Tryz.prog 166 #[(.int .u32 1082130432)] w (Ret w (fun _ : Unit => True) (fun rz => (.int .u32 3229614080)) (fun rz => [])) := by
 refine enter (M := None) (L := []) (n := 9) (l := [(0, (.int .u32 1082130432))]) Tryz.func166 rfl rfl (Args.cons rfl (Args.nil _)) (Hp.start _ _) ?_
 refine GC.seq (GC.region ?_)
 refine GL.sg rfl (by decide) ?_
 refine GL.nil (GE.thenN (GC.seq (GC.seq (GC.region ?_))))
 refine GL.mv rfl (by decide) ?_
 refine GL.val (v := (.bool true)) (Ex.cast (Ex.lss rfl rfl) rfl) (by decide) ?_
 refine GL.nil (GE.thenN ?_)
 refine GC.cond rfl (fun _ => ?_) (fun hq1 => by cases hq1)
 refine GC.seq (GC.region ?_)
 refine GL.mv rfl (by decide) ?_
 refine GL.val (v := (.int .u32 3229614080)) (Ex.add rfl rfl (Z := 3229614080) (by decide)) (by decide) ?_
 refine GL.sg rfl (by decide) ?_
 refine GL.nil (GE.thenN (GC.ret (GE.thenR ?_)))
 refine GC.ret1 rfl (Rv.tmp rfl) (fun wN HN => ?_)
 exact HN.ret () trivial rfl ulN rfl

theorem q155_37 (w : World) :
  Calls Tryz.prog 155 #[(.int .u32 1082130432), (.int .u32 1069547520)] w (Ret w (fun _ : Unit => True) (fun rz => (.bool false)) (fun rz => [])) := by
 refine enter (M := None) (L := []) (n := 10) (l := [(0, (.int .u32 1082130432)), (1, (.int .u32 1069547520))]) Tryz.func155 rfl rfl (Args.cons rfl (Args.cons rfl (Args.nil _))) (Hp.start _ _) ?_
 refine GC.seq (GC.region ?_)
 refine GL.sg rfl (by decide) ?_
 refine GL.nil (GE.thenN (GC.seq (GC.region ?_)))
 refine GL.mv rfl (by decide) ?_
 refine GL.step (Stp.callR (vs := [(.int .u32 1082130432)]) rfl rfl T.own166 (by decide) (fun wc hw => q166_38  wc )) (fun xq1 hq2 => ?_)
 refine GL.mv rfl (by decide) ?_
 refine GL.step (Stp.callR (vs := [(.int .u32 1069547520)]) rfl rfl T.own166 (by decide) (fun wc hw => q166_25  wc )) (fun xq3 hq4 => ?_)
 refine GL.val (v := (.bool false)) (Ex.cast (Ex.lss rfl rfl) rfl) (by decide) ?_
 refine GL.sg rfl (by decide) ?_
 refine GL.nil (GE.thenN (GC.ret ?_))
 refine GC.ret1 rfl (Rv.tmp rfl) (fun wN HN => ?_)
 exact HN.ret () trivial rfl ulN rfl

theorem q111_36 (w : World) :
  Calls Tryz.prog 111 #[(.int .u32 1082130432), (.int .u32 1069547520)] w (Ret w (fun _ : Unit => True) (fun rz => (.int .u32 1082130432)) (fun rz => [])) := by
 refine enter (M := None) (L := []) (n := 10) (l := [(0, (.int .u32 1082130432)), (1, (.int .u32 1069547520))]) Tryz.func111 rfl rfl (Args.cons rfl (Args.cons rfl (Args.nil _))) (Hp.start _ _) ?_
 refine GC.seq (GC.region ?_)
 refine GL.sg rfl (by decide) ?_
 refine GL.nil (GE.thenN (GC.seq (GC.seq (GC.region ?_))))
 refine GL.mv rfl (by decide) ?_
 refine GL.mv rfl (by decide) ?_
 refine GL.step (Stp.callR (vs := [(.int .u32 1082130432), (.int .u32 1069547520)]) rfl rfl T.own155 (by decide) (fun wc hw => q155_37  wc )) (fun xq1 hq2 => ?_)
 refine GL.nil (GE.thenN ?_)
 refine GC.cond rfl (fun hq3 => by cases hq3) (fun _ => ?_)
 refine GC.skip (GE.thenN (GC.seq (GC.region ?_)))
 refine GL.mv rfl (by decide) ?_
 refine GL.sg rfl (by decide) ?_
 refine GL.nil (GE.thenN (GC.ret ?_))
 refine GC.ret1 rfl (Rv.tmp rfl) (fun wN HN => ?_)
 exact HN.ret () trivial rfl ulN rfl

theorem q155_40 (w : World) :
  Calls Tryz.prog 155 #[(.int .u32 1077936128), (.int .u32 1082130432)] w (Ret w (fun _ : Unit => True) (fun rz => (.bool true)) (fun rz => [])) := by
 refine enter (M := None) (L := []) (n := 10) (l := [(0, (.int .u32 1077936128)), (1, (.int .u32 1082130432))]) Tryz.func155 rfl rfl (Args.cons rfl (Args.cons rfl (Args.nil _))) (Hp.start _ _) ?_
 refine GC.seq (GC.region ?_)
 refine GL.sg rfl (by decide) ?_
 refine GL.nil (GE.thenN (GC.seq (GC.region ?_)))
 refine GL.mv rfl (by decide) ?_
 refine GL.step (Stp.callR (vs := [(.int .u32 1077936128)]) rfl rfl T.own166 (by decide) (fun wc hw => q166_28  wc )) (fun xq1 hq2 => ?_)
 refine GL.mv rfl (by decide) ?_
 refine GL.step (Stp.callR (vs := [(.int .u32 1082130432)]) rfl rfl T.own166 (by decide) (fun wc hw => q166_38  wc )) (fun xq3 hq4 => ?_)
 refine GL.val (v := (.bool true)) (Ex.cast (Ex.lss rfl rfl) rfl) (by decide) ?_
 refine GL.sg rfl (by decide) ?_
 refine GL.nil (GE.thenN (GC.ret ?_))
 refine GC.ret1 rfl (Rv.tmp rfl) (fun wN HN => ?_)
 exact HN.ret () trivial rfl ulN rfl

theorem q110_39 (w : World) :
  Calls Tryz.prog 110 #[(.int .u32 1082130432), (.int .u32 1077936128)] w (Ret w (fun _ : Unit => True) (fun rz => (.int .u32 1077936128)) (fun rz => [])) := by
 refine enter (M := None) (L := []) (n := 10) (l := [(0, (.int .u32 1082130432)), (1, (.int .u32 1077936128))]) Tryz.func110 rfl rfl (Args.cons rfl (Args.cons rfl (Args.nil _))) (Hp.start _ _) ?_
 refine GC.seq (GC.region ?_)
 refine GL.sg rfl (by decide) ?_
 refine GL.nil (GE.thenN (GC.seq (GC.seq (GC.region ?_))))
 refine GL.mv rfl (by decide) ?_
 refine GL.mv rfl (by decide) ?_
 refine GL.step (Stp.callR (vs := [(.int .u32 1077936128), (.int .u32 1082130432)]) rfl rfl T.own155 (by decide) (fun wc hw => q155_40  wc )) (fun xq1 hq2 => ?_)
 refine GL.nil (GE.thenN ?_)
 refine GC.cond rfl (fun _ => ?_) (fun hq3 => by cases hq3)
 refine GC.seq (GC.region ?_)
 refine GL.mv rfl (by decide) ?_
 refine GL.sg rfl (by decide) ?_
 refine GL.nil (GE.thenN (GC.ret (GE.thenR ?_)))
 refine GC.ret1 rfl (Rv.tmp rfl) (fun wN HN => ?_)
 exact HN.ret () trivial rfl ulN rfl

theorem q102_35 (w : World) :
  Calls Tryz.prog 102 #[(.int .u32 1082130432), (.int .u32 1069547520), (.int .u32 1077936128)] w (Ret w (fun _ : Unit => True) (fun rz => (.int .u32 1077936128)) (fun rz => [])) := by
 refine enter (M := None) (L := []) (n := 12) (l := [(0, (.int .u32 1082130432)), (1, (.int .u32 1069547520)), (2, (.int .u32 1077936128))]) Tryz.func102 rfl rfl (Args.cons rfl (Args.cons rfl (Args.cons rfl (Args.nil _)))) (Hp.start _ _) ?_
 refine GC.seq (GC.region ?_)
 refine GL.sg rfl (by decide) ?_
 refine GL.nil (GE.thenN (GC.seq (GC.region ?_)))
 refine GL.mv rfl (by decide) ?_
 refine GL.mv rfl (by decide) ?_
 refine GL.step (Stp.callR (vs := [(.int .u32 1082130432), (.int .u32 1069547520)]) rfl rfl T.own111 (by decide) (fun wc hw => q111_36  wc )) (fun xq1 hq2 => ?_)
 refine GL.mv rfl (by decide) ?_
 refine GL.step (Stp.callR (vs := [(.int .u32 1082130432), (.int .u32 1077936128)]) rfl rfl T.own110 (by decide) (fun wc hw => q110_39  wc )) (fun xq3 hq4 => ?_)
 refine GL.sg rfl (by decide) ?_
 refine GL.nil (GE.thenN (GC.ret ?_))
 refine GC.ret1 rfl (Rv.tmp rfl) (fun wN HN => ?_)
 exact HN.ret () trivial rfl ulN rfl

theorem kn_between (x : Int) (hx : x ∈ ([1065353216, 1073741824, 1082130432] : List Int)) (w : World) : Calls Tryz.prog 102 #[(.int .u32 x), (.int .u32 1069547520), (.int .u32 1077936128)] w (Ret w (fun _ : Unit => True) (fun _ => .int .u32 ((fun x : Int => if x = 1065353216 then (1069547520 : Int) else if x = 1073741824 then 1073741824 else 1077936128) x)) (fun _ => [])) := by
 simp only [List.mem_cons, List.mem_nil_iff, or_false] at hx
 rcases hx with rfl | rfl | rfl
 ·exact q102_21  w 
 ·exact q102_29  w 
 ·exact q102_35  w 

theorem q150_42 (w : World) :
  Calls Tryz.prog 150 #[(.float .f32 0)] w (Ret w (fun _ : Unit => True) (fun rz => (.int .u32 0)) (fun rz => [])) := by
 refine enter (M := None) (L := []) (n := 8) (l := [(0, (.float .f32 0))]) Tryz.func150 rfl rfl (Args.cons rfl (Args.nil _)) (Hp.start _ _) ?_
 refine GC.seq (GC.region ?_)
 refine GL.sg rfl (by decide) ?_
 refine GL.nil (GE.thenN (GC.seq (GC.seq (GC.region ?_))))
 refine GL.mv rfl (by decide) ?_
 refine GL.mv rfl (by decide) ?_
 refine GL.val (v := (.bool false)) (Ex.fneq (r := false) rfl rfl (by kernel_rfl)) (by decide) ?_
 refine GL.nil (GE.thenN ?_)
 refine GC.cond rfl (fun hq1 => by cases hq1) (fun _ => ?_)
 refine GC.skip (GE.thenN (GC.seq (GC.region ?_)))
 refine GL.mv rfl (by decide) ?_
 refine GL.val (v := (.int .u32 0)) (Ex.ext (vs := [(.float .f32 0)]) rfl rfl T.ext105 (fun _ => by first | rfl | kernel_rfl)) (by decide) ?_
 refine GL.sg rfl (by decide) ?_
 refine GL.nil (GE.thenN (GC.ret ?_))
 refine GC.ret1 rfl (Rv.tmp rfl) (fun wN HN => ?_)
 exact HN.ret () trivial rfl ulN rfl

theorem q108_41 (w : World) :
  Calls Tryz.prog 108 #[(.int .u32 1065353216), (.int .u32 1065353216)] w (Ret w (fun _ : Unit => True) (fun rz => (.int .u32 0)) (fun rz => [])) := by
 refine enter (M := None) (L := []) (n := 11) (l := [(0, (.int .u32 1065353216)), (1, (.int .u32 1065353216))]) Tryz.func108 rfl rfl (Args.cons rfl (Args.cons rfl (Args.nil _))) (Hp.start _ _) ?_
 refine GC.seq (GC.region ?_)
 refine GL.sg rfl (by decide) ?_
 refine GL.nil (GE.thenN (GC.seq (GC.region ?_)))
 refine GL.mv rfl (by decide) ?_
 refine GL.step (Stp.callR (vs := [(.int .u32 1065353216)]) rfl rfl T.own154 (by decide) (fun wc hw => q154_5  wc )) (fun xq1 hq2 => ?_)
 refine GL.mv rfl (by decide) ?_
 refine GL.step (Stp.callR (vs := [(.int .u32 1065353216)]) rfl rfl T.own154 (by decide) (fun wc hw => q154_5  wc )) (fun xq3 hq4 => ?_)
 refine GL.val (v := (.float .f32 0)) (Ex.farith (r := 0) rfl rfl (by kernel_rfl)) (by decide) ?_
 refine GL.step (Stp.callR (vs := [(.float .f32 0)]) rfl rfl T.own150 (by decide) (fun wc hw => q150_42  wc )) (fun xq5 hq6 => ?_)
 refine GL.sg rfl (by decide) ?_
 refine GL.nil (GE.thenN (GC.ret ?_))
 refine GC.ret1 rfl (Rv.tmp rfl) (fun wN HN => ?_)
 exact HN.ret () trivial rfl ulN rfl

theorem q108_43 (w : World) :
  Calls Tryz.prog 108 #[(.int .u32 1073741824), (.int .u32 1073741824)] w (Ret w (fun _ : Unit => True) (fun rz => (.int .u32 0)) (fun rz => [])) := by
 refine enter (M := None) (L := []) (n := 11) (l := [(0, (.int .u32 1073741824)), (1, (.int .u32 1073741824))]) Tryz.func108 rfl rfl (Args.cons rfl (Args.cons rfl (Args.nil _))) (Hp.start _ _) ?_
 refine GC.seq (GC.region ?_)
 refine GL.sg rfl (by decide) ?_
 refine GL.nil (GE.thenN (GC.seq (GC.region ?_)))
 refine GL.mv rfl (by decide) ?_
 refine GL.step (Stp.callR (vs := [(.int .u32 1073741824)]) rfl rfl T.own154 (by decide) (fun wc hw => q154_7  wc )) (fun xq1 hq2 => ?_)
 refine GL.mv rfl (by decide) ?_
 refine GL.step (Stp.callR (vs := [(.int .u32 1073741824)]) rfl rfl T.own154 (by decide) (fun wc hw => q154_7  wc )) (fun xq3 hq4 => ?_)
 refine GL.val (v := (.float .f32 0)) (Ex.farith (r := 0) rfl rfl (by kernel_rfl)) (by decide) ?_
 refine GL.step (Stp.callR (vs := [(.float .f32 0)]) rfl rfl T.own150 (by decide) (fun wc hw => q150_42  wc )) (fun xq5 hq6 => ?_)
 refine GL.sg rfl (by decide) ?_
 refine GL.nil (GE.thenN (GC.ret ?_))
 refine GC.ret1 rfl (Rv.tmp rfl) (fun wN HN => ?_)
 exact HN.ret () trivial rfl ulN rfl

theorem q108_44 (w : World) :
  Calls Tryz.prog 108 #[(.int .u32 1082130432), (.int .u32 1082130432)] w (Ret w (fun _ : Unit => True) (fun rz => (.int .u32 0)) (fun rz => [])) := by
 refine enter (M := None) (L := []) (n := 11) (l := [(0, (.int .u32 1082130432)), (1, (.int .u32 1082130432))]) Tryz.func108 rfl rfl (Args.cons rfl (Args.cons rfl (Args.nil _))) (Hp.start _ _) ?_
 refine GC.seq (GC.region ?_)
 refine GL.sg rfl (by decide) ?_
 refine GL.nil (GE.thenN (GC.seq (GC.region ?_)))
 refine GL.mv rfl (by decide) ?_
 refine GL.step (Stp.callR (vs := [(.int .u32 1082130432)]) rfl rfl T.own154 (by decide) (fun wc hw => q154_17  wc )) (fun xq1 hq2 => ?_)
 refine GL.mv rfl (by decide) ?_
 refine GL.step (Stp.callR (vs := [(.int .u32 1082130432)]) rfl rfl T.own154 (by decide) (fun wc hw => q154_17  wc )) (fun xq3 hq4 => ?_)
 refine GL.val (v := (.float .f32 0)) (Ex.farith (r := 0) rfl rfl (by kernel_rfl)) (by decide) ?_
 refine GL.step (Stp.callR (vs := [(.float .f32 0)]) rfl rfl T.own150 (by decide) (fun wc hw => q150_42  wc )) (fun xq5 hq6 => ?_)
 refine GL.sg rfl (by decide) ?_
 refine GL.nil (GE.thenN (GC.ret ?_))
 refine GC.ret1 rfl (Rv.tmp rfl) (fun wN HN => ?_)
 exact HN.ret () trivial rfl ulN rfl

theorem kn_sub (x : Int) (hx : x ∈ ([1065353216, 1073741824, 1082130432] : List Int)) (w : World) : Calls Tryz.prog 108 #[.int .u32 x, .int .u32 x] w (Ret w (fun _ : Unit => True) (fun _ => .int .u32 0) (fun _ => [])) := by
 simp only [List.mem_cons, List.mem_nil_iff, or_false] at hx
 rcases hx with rfl | rfl | rfl
 ·exact q108_41  w 
 ·exact q108_43  w 
 ·exact q108_44  w 

theorem q63_46 (w : World) :
  Calls Tryz.prog 63 #[(.int .u32 1073741824)] w (Ret w (fun _ : Unit => True) (fun rz => (.float .f64 4611686018427387904)) (fun rz => [])) := by
 refine enter (M := None) (L := []) (n := 6) (l := [(0, (.int .u32 1073741824))]) Tryz.func63 rfl rfl (Args.cons rfl (Args.nil _)) (Hp.start _ _) ?_
 refine GC.seq (GC.region ?_)
 refine GL.sg rfl (by decide) ?_
 refine GL.nil (GE.thenN (GC.seq (GC.region ?_)))
 refine GL.mv rfl (by decide) ?_
 refine GL.val (v := (.float .f32 1073741824)) (Ex.ext (vs := [(.int .u32 1073741824)]) rfl rfl T.ext103 (fun _ => by first | rfl | kernel_rfl)) (by decide) ?_
 refine GL.val (v := (.float .f64 4611686018427387904)) (Ex.cff (r := 4611686018427387904) rfl Tryz.underlying145 Tryz.underlying108 (by kernel_rfl)) (by decide) ?_
 refine GL.sg rfl (by decide) ?_
 refine GL.nil (GE.thenN (GC.ret ?_))
 refine GC.ret1 rfl (Rv.tmp rfl) (fun wN HN => ?_)
 exact HN.ret () trivial rfl ulN rfl

theorem q63_47 (w : World) :
  Calls Tryz.prog 63 #[(.int .u32 1082130432)] w (Ret w (fun _ : Unit => True) (fun rz => (.float .f64 4616189618054758400)) (fun rz => [])) := by
 refine enter (M := None) (L := []) (n := 6) (l := [(0, (.int .u32 1082130432))]) Tryz.func63 rfl rfl (Args.cons rfl (Args.nil _)) (Hp.start _ _) ?_
 refine GC.seq (GC.region ?_)
 refine GL.sg rfl (by decide) ?_
 refine GL.nil (GE.thenN (GC.seq (GC.region ?_)))
 refine GL.mv rfl (by decide) ?_
 refine GL.val (v := (.float .f32 1082130432)) (Ex.ext (vs := [(.int .u32 1082130432)]) rfl rfl T.ext103 (fun _ => by first | rfl | kernel_rfl)) (by decide) ?_
 refine GL.val (v := (.float .f64 4616189618054758400)) (Ex.cff (r := 4616189618054758400) rfl Tryz.underlying145 Tryz.underlying108 (by kernel_rfl)) (by decide) ?_
 refine GL.sg rfl (by decide) ?_
 refine GL.nil (GE.thenN (GC.ret ?_))
 refine GC.ret1 rfl (Rv.tmp rfl) (fun wN HN => ?_)
 exact HN.ret () trivial rfl ulN rfl

theorem q197_52 (w : World) :
  Calls Tryz.prog 197 #[(.int .u32 1082130432)] w (Ret w (fun _ : Unit => True) (fun rz => (.agg #[(.bool false), (.int .i64 129), (.int .i64 0)])) (fun rz => [])) := by
 refine enter (M := None) (L := []) (n := 13) (l := [(0, (.int .u32 1082130432))]) Tryz.func197 rfl rfl (Args.cons rfl (Args.nil _)) (Hp.start _ _) ?_
 refine GC.seq (GC.region ?_)
 refine GL.step (Stp.alloc T.zr192 (by decide)) (fun bq1 _ => ?_)
 refine GL.nil (GE.thenN (GC.seq (GC.region ?_)))
 refine GL.mv rfl (by decide) ?_
 refine GL.val (v := (.bool false)) (Ex.cast (Ex.geq rfl rfl) rfl) (by decide) ?_
 refine GL.mv rfl (by decide) ?_
 refine GL.val (v := (.int .u32 129)) (Ex.shr rfl (m := 23) rfl (by decide) (Z := 129) (by decide)) (by decide) ?_
 refine GL.val (v := (.int .u32 129)) (Ex.bits rfl rfl (by simp) (Z := 129) (by decide +kernel)) (by decide) ?_
 refine GL.val (v := (.int .i64 129)) (Ex.conv rfl Tryz.underlying52 Tryz.underlying3 (Z := 129) (by decide)) (by decide) ?_
 refine GL.mv rfl (by decide) ?_
 refine GL.val (v := (.int .u32 0)) (Ex.bits rfl rfl (by simp) (Z := 0) (by decide +kernel)) (by decide) ?_
 refine GL.val (v := (.int .i64 0)) (Ex.conv rfl Tryz.underlying52 Tryz.underlying3 (Z := 0) (by decide)) (by decide) ?_
 refine GL.val (v := (.agg #[(.bool false), (.int .i64 129), (.int .i64 0)])) (Ex.build (vs := [(0, (.bool false)), (1, (.int .i64 129)), (2, (.int .i64 0))]) rfl (by first | rfl | kernel_rfl)) (by decide) ?_
 refine GL.step (Stp.st0 (cs' := [(.bool false), (.int .i64 129), (.int .i64 0)]) rfl rfl rfl T.sz192 rfl rfl rfl) (fun _ _ => ?_)
 refine GL.nil (GE.thenN (GC.ret ?_))
 refine GC.ret1 rfl (Rv.cellA rfl T.ag192 T.sz192 (L := _) (i := 0) rfl (vs := [(.bool false), (.int .i64 129), (.int .i64 0)]) rfl rfl) (fun wN HN => ?_)
 exact HN.ret () trivial rfl (ulS ulN) rfl

theorem q183_51 (w : World) :
  Calls Tryz.prog 183 #[(.int .u32 1082130432)] w (Ret w (fun _ : Unit => True) (fun rz => (.int .i64 3)) (fun rz => [])) := by
 refine enter (M := None) (L := []) (n := 23) (l := [(0, (.int .u32 1082130432))]) Tryz.func183 rfl rfl (Args.cons rfl (Args.nil _)) (Hp.start _ _) ?_
 refine GC.seq (GC.region ?_)
 refine GL.sg rfl (by decide) ?_
 refine GL.nil (GE.thenN (GC.seq (GC.region ?_)))
 refine GL.mv rfl (by decide) ?_
 refine GL.step (Stp.callR (vs := [(.int .u32 1082130432)]) rfl rfl T.own197 (by decide) (fun wc hw => q197_52  wc )) (fun xq1 hq2 => ?_)
 refine GL.step (Stp.alloc T.zr192 (by decide)) (fun bq3 _ => ?_)
 refine GL.step (Stp.st0 (cs' := [(.bool false), (.int .i64 129), (.int .i64 0)]) rfl rfl rfl T.sz192 rfl rfl rfl) (fun _ _ => ?_)
 refine GL.nil (GE.thenN (GC.seq (GC.region ?_)))
 refine GL.val (v := (.pointer (some ⟨bq3, 0, none⟩))) (Ex.cast (Ex.fieldAddr rfl Tryz.underlying192 rfl T.sz4 (by decide)) rfl) (by decide) ?_
 refine GL.step (Stp.st0 (cs' := [(.bool false), (.int .i64 129), (.int .i64 0)]) rfl rfl rfl T.sz4 rfl rfl rfl) (fun _ _ => ?_)
 refine GL.nil (GE.thenN (GC.seq (GC.block (GC.seq (GC.region ?_)))))
 refine GL.val (v := (.agg #[(.bool false), (.int .i64 129), (.int .i64 0)])) (Ex.loadA rfl T.ag192 T.sz192 (i := 0) rfl (vs := [(.bool false), (.int .i64 129), (.int .i64 0)]) rfl rfl) (by decide) ?_
 refine GL.val (v := (.agg #[(.bool false), (.int .i64 0), (.int .i64 0)])) (Ex.build (vs := []) rfl (by first | rfl | kernel_rfl)) (by decide) ?_
 refine GL.val (v := (.bool false)) (Ex.eqS rfl rfl T.sfs192 (EqFs.cons rfl rfl (EqC.bool Tryz.underlying4) (EqFs.cons rfl rfl (EqC.int Tryz.underlying3) (EqFs.cons rfl rfl (EqC.int Tryz.underlying3) EqFs.nil))) (by decide)) (by decide) ?_
 refine GL.sg rfl (by decide) ?_
 refine GL.nil (GE.thenN ?_)
 refine GC.cond rfl (fun hq4 => by cases hq4) (fun _ => ?_)
 refine GC.seq (GC.region ?_)
 refine GL.val (v := (.agg #[(.bool false), (.int .i64 129), (.int .i64 0)])) (Ex.loadA rfl T.ag192 T.sz192 (i := 0) rfl (vs := [(.bool false), (.int .i64 129), (.int .i64 0)]) rfl rfl) (by decide) ?_
 refine GL.val (v := (.agg #[(.bool false), (.int .i64 255), (.int .i64 0)])) (Ex.build (vs := [(1, (.int .i64 255))]) rfl (by first | rfl | kernel_rfl)) (by decide) ?_
 refine GL.val (v := (.bool false)) (Ex.eqS rfl rfl T.sfs192 (EqFs.cons rfl rfl (EqC.bool Tryz.underlying4) (EqFs.cons rfl rfl (EqC.int Tryz.underlying3) (EqFs.cons rfl rfl (EqC.int Tryz.underlying3) EqFs.nil))) (by decide)) (by decide) ?_
 refine GL.sg rfl (by decide) ?_
 refine GL.nil (GE.thenN ?_)
 refine GC.cond rfl (fun hq5 => by cases hq5) (fun _ => ?_)
 refine GC.seq (GC.region ?_)
 refine GL.val (v := (.pointer (some ⟨bq3, 1, none⟩))) (Ex.cast (Ex.fieldAddr rfl Tryz.underlying192 rfl T.sz3 (by decide)) rfl) (by decide) ?_
 refine GL.val (Ex.load rfl T.ag3 (i := 0) rfl rfl) (by decide) ?_
 refine GL.val (v := (.bool false)) (Ex.cast (Ex.eql rfl rfl) rfl) (by decide) ?_
 refine GL.sg rfl (by decide) ?_
 refine GL.nil (GE.thenN ?_)
 refine GC.cond rfl (fun hq6 => by cases hq6) (fun _ => ?_)
 refine GC.seq (GC.region ?_)
 refine GL.val (v := (.pointer (some ⟨bq3, 1, none⟩))) (Ex.cast (Ex.fieldAddr rfl Tryz.underlying192 rfl T.sz3 (by decide)) rfl) (by decide) ?_
 refine GL.val (Ex.load rfl T.ag3 (i := 0) rfl rfl) (by decide) ?_
 refine GL.val (v := (.bool false)) (Ex.cast (Ex.eql rfl rfl) rfl) (by decide) ?_
 refine GL.sg rfl (by decide) ?_
 refine GL.nil (GE.thenN ?_)
 refine GC.cond rfl (fun hq7 => by cases hq7) (fun _ => ?_)
 refine GC.skip (GE.blockN (GE.thenN (GC.seq (GC.region ?_))))
 refine GL.sg rfl (by decide) ?_
 refine GL.nil (GE.thenN (GC.ret ?_))
 refine GC.ret1 rfl (Rv.tmp rfl) (fun wN HN => ?_)
 exact HN.ret () trivial rfl (ulS ulN) rfl

theorem q153_50 (w : World) :
  Calls Tryz.prog 153 #[(.int .u32 1082130432)] w (Ret w (fun _ : Unit => True) (fun rz => (.bool false)) (fun rz => [])) := by
 refine enter (M := None) (L := []) (n := 6) (l := [(0, (.int .u32 1082130432))]) Tryz.func153 rfl rfl (Args.cons rfl (Args.nil _)) (Hp.start _ _) ?_
 refine GC.seq (GC.region ?_)
 refine GL.sg rfl (by decide) ?_
 refine GL.nil (GE.thenN (GC.seq (GC.region ?_)))
 refine GL.mv rfl (by decide) ?_
 refine GL.step (Stp.callR (vs := [(.int .u32 1082130432)]) rfl rfl T.own183 (by decide) (fun wc hw => q183_51  wc )) (fun xq1 hq2 => ?_)
 refine GL.val (v := (.bool false)) (Ex.cast (Ex.eql rfl rfl) rfl) (by decide) ?_
 refine GL.sg rfl (by decide) ?_
 refine GL.nil (GE.thenN (GC.ret ?_))
 refine GC.ret1 rfl (Rv.tmp rfl) (fun wN HN => ?_)
 exact HN.ret () trivial rfl ulN rfl

theorem q104_49 (w : World) :
  Calls Tryz.prog 104 #[(.int .u32 1082130432)] w (Ret w (fun _ : Unit => True) (fun rz => (.int .u32 1082130432)) (fun rz => [])) := by
 refine enter (M := None) (L := []) (n := 6) (l := [(0, (.int .u32 1082130432))]) Tryz.func104 rfl rfl (Args.cons rfl (Args.nil _)) (Hp.start _ _) ?_
 refine GC.seq (GC.region ?_)
 refine GL.sg rfl (by decide) ?_
 refine GL.nil (GE.thenN (GC.seq (GC.seq (GC.region ?_))))
 refine GL.mv rfl (by decide) ?_
 refine GL.step (Stp.callR (vs := [(.int .u32 1082130432)]) rfl rfl T.own153 (by decide) (fun wc hw => q153_50  wc )) (fun xq1 hq2 => ?_)
 refine GL.nil (GE.thenN ?_)
 refine GC.cond rfl (fun hq3 => by cases hq3) (fun _ => ?_)
 refine GC.skip (GE.thenN (GC.seq (GC.region ?_)))
 refine GL.mv rfl (by decide) ?_
 refine GL.sg rfl (by decide) ?_
 refine GL.nil (GE.thenN (GC.ret ?_))
 refine GC.ret1 rfl (Rv.tmp rfl) (fun wN HN => ?_)
 exact HN.ret () trivial rfl ulN rfl

theorem q65_48 (w : World) :
  Calls Tryz.prog 65 #[(.float .f64 4616189618054758400)] w (Ret w (fun _ : Unit => True) (fun rz => (.int .u32 1082130432)) (fun rz => [])) := by
 refine enter (M := None) (L := []) (n := 7) (l := [(0, (.float .f64 4616189618054758400))]) Tryz.func65 rfl rfl (Args.cons rfl (Args.nil _)) (Hp.start _ _) ?_
 refine GC.seq (GC.region ?_)
 refine GL.sg rfl (by decide) ?_
 refine GL.nil (GE.thenN (GC.seq (GC.region ?_)))
 refine GL.mv rfl (by decide) ?_
 refine GL.val (v := (.float .f32 1082130432)) (Ex.cff (r := 1082130432) rfl Tryz.underlying108 Tryz.underlying145 (by kernel_rfl)) (by decide) ?_
 refine GL.val (v := (.int .u32 1082130432)) (Ex.ext (vs := [(.float .f32 1082130432)]) rfl rfl T.ext105 (fun _ => by first | rfl | kernel_rfl)) (by decide) ?_
 refine GL.step (Stp.callR (vs := [(.int .u32 1082130432)]) rfl rfl T.own104 (by decide) (fun wc hw => q104_49  wc )) (fun xq1 hq2 => ?_)
 refine GL.sg rfl (by decide) ?_
 refine GL.nil (GE.thenN (GC.ret ?_))
 refine GC.ret1 rfl (Rv.tmp rfl) (fun wN HN => ?_)
 exact HN.ret () trivial rfl ulN rfl

theorem q197_57 (w : World) :
  Calls Tryz.prog 197 #[(.int .u32 1073741824)] w (Ret w (fun _ : Unit => True) (fun rz => (.agg #[(.bool false), (.int .i64 128), (.int .i64 0)])) (fun rz => [])) := by
 refine enter (M := None) (L := []) (n := 13) (l := [(0, (.int .u32 1073741824))]) Tryz.func197 rfl rfl (Args.cons rfl (Args.nil _)) (Hp.start _ _) ?_
 refine GC.seq (GC.region ?_)
 refine GL.step (Stp.alloc T.zr192 (by decide)) (fun bq1 _ => ?_)
 refine GL.nil (GE.thenN (GC.seq (GC.region ?_)))
 refine GL.mv rfl (by decide) ?_
 refine GL.val (v := (.bool false)) (Ex.cast (Ex.geq rfl rfl) rfl) (by decide) ?_
 refine GL.mv rfl (by decide) ?_
 refine GL.val (v := (.int .u32 128)) (Ex.shr rfl (m := 23) rfl (by decide) (Z := 128) (by decide)) (by decide) ?_
 refine GL.val (v := (.int .u32 128)) (Ex.bits rfl rfl (by simp) (Z := 128) (by decide +kernel)) (by decide) ?_
 refine GL.val (v := (.int .i64 128)) (Ex.conv rfl Tryz.underlying52 Tryz.underlying3 (Z := 128) (by decide)) (by decide) ?_
 refine GL.mv rfl (by decide) ?_
 refine GL.val (v := (.int .u32 0)) (Ex.bits rfl rfl (by simp) (Z := 0) (by decide +kernel)) (by decide) ?_
 refine GL.val (v := (.int .i64 0)) (Ex.conv rfl Tryz.underlying52 Tryz.underlying3 (Z := 0) (by decide)) (by decide) ?_
 refine GL.val (v := (.agg #[(.bool false), (.int .i64 128), (.int .i64 0)])) (Ex.build (vs := [(0, (.bool false)), (1, (.int .i64 128)), (2, (.int .i64 0))]) rfl (by first | rfl | kernel_rfl)) (by decide) ?_
 refine GL.step (Stp.st0 (cs' := [(.bool false), (.int .i64 128), (.int .i64 0)]) rfl rfl rfl T.sz192 rfl rfl rfl) (fun _ _ => ?_)
 refine GL.nil (GE.thenN (GC.ret ?_))
 refine GC.ret1 rfl (Rv.cellA rfl T.ag192 T.sz192 (L := _) (i := 0) rfl (vs := [(.bool false), (.int .i64 128), (.int .i64 0)]) rfl rfl) (fun wN HN => ?_)
 exact HN.ret () trivial rfl (ulS ulN) rfl

theorem q183_56 (w : World) :
  Calls Tryz.prog 183 #[(.int .u32 1073741824)] w (Ret w (fun _ : Unit => True) (fun rz => (.int .i64 3)) (fun rz => [])) := by
 refine enter (M := None) (L := []) (n := 23) (l := [(0, (.int .u32 1073741824))]) Tryz.func183 rfl rfl (Args.cons rfl (Args.nil _)) (Hp.start _ _) ?_
 refine GC.seq (GC.region ?_)
 refine GL.sg rfl (by decide) ?_
 refine GL.nil (GE.thenN (GC.seq (GC.region ?_)))
 refine GL.mv rfl (by decide) ?_
 refine GL.step (Stp.callR (vs := [(.int .u32 1073741824)]) rfl rfl T.own197 (by decide) (fun wc hw => q197_57  wc )) (fun xq1 hq2 => ?_)
 refine GL.step (Stp.alloc T.zr192 (by decide)) (fun bq3 _ => ?_)
 refine GL.step (Stp.st0 (cs' := [(.bool false), (.int .i64 128), (.int .i64 0)]) rfl rfl rfl T.sz192 rfl rfl rfl) (fun _ _ => ?_)
 refine GL.nil (GE.thenN (GC.seq (GC.region ?_)))
 refine GL.val (v := (.pointer (some ⟨bq3, 0, none⟩))) (Ex.cast (Ex.fieldAddr rfl Tryz.underlying192 rfl T.sz4 (by decide)) rfl) (by decide) ?_
 refine GL.step (Stp.st0 (cs' := [(.bool false), (.int .i64 128), (.int .i64 0)]) rfl rfl rfl T.sz4 rfl rfl rfl) (fun _ _ => ?_)
 refine GL.nil (GE.thenN (GC.seq (GC.block (GC.seq (GC.region ?_)))))
 refine GL.val (v := (.agg #[(.bool false), (.int .i64 128), (.int .i64 0)])) (Ex.loadA rfl T.ag192 T.sz192 (i := 0) rfl (vs := [(.bool false), (.int .i64 128), (.int .i64 0)]) rfl rfl) (by decide) ?_
 refine GL.val (v := (.agg #[(.bool false), (.int .i64 0), (.int .i64 0)])) (Ex.build (vs := []) rfl (by first | rfl | kernel_rfl)) (by decide) ?_
 refine GL.val (v := (.bool false)) (Ex.eqS rfl rfl T.sfs192 (EqFs.cons rfl rfl (EqC.bool Tryz.underlying4) (EqFs.cons rfl rfl (EqC.int Tryz.underlying3) (EqFs.cons rfl rfl (EqC.int Tryz.underlying3) EqFs.nil))) (by decide)) (by decide) ?_
 refine GL.sg rfl (by decide) ?_
 refine GL.nil (GE.thenN ?_)
 refine GC.cond rfl (fun hq4 => by cases hq4) (fun _ => ?_)
 refine GC.seq (GC.region ?_)
 refine GL.val (v := (.agg #[(.bool false), (.int .i64 128), (.int .i64 0)])) (Ex.loadA rfl T.ag192 T.sz192 (i := 0) rfl (vs := [(.bool false), (.int .i64 128), (.int .i64 0)]) rfl rfl) (by decide) ?_
 refine GL.val (v := (.agg #[(.bool false), (.int .i64 255), (.int .i64 0)])) (Ex.build (vs := [(1, (.int .i64 255))]) rfl (by first | rfl | kernel_rfl)) (by decide) ?_
 refine GL.val (v := (.bool false)) (Ex.eqS rfl rfl T.sfs192 (EqFs.cons rfl rfl (EqC.bool Tryz.underlying4) (EqFs.cons rfl rfl (EqC.int Tryz.underlying3) (EqFs.cons rfl rfl (EqC.int Tryz.underlying3) EqFs.nil))) (by decide)) (by decide) ?_
 refine GL.sg rfl (by decide) ?_
 refine GL.nil (GE.thenN ?_)
 refine GC.cond rfl (fun hq5 => by cases hq5) (fun _ => ?_)
 refine GC.seq (GC.region ?_)
 refine GL.val (v := (.pointer (some ⟨bq3, 1, none⟩))) (Ex.cast (Ex.fieldAddr rfl Tryz.underlying192 rfl T.sz3 (by decide)) rfl) (by decide) ?_
 refine GL.val (Ex.load rfl T.ag3 (i := 0) rfl rfl) (by decide) ?_
 refine GL.val (v := (.bool false)) (Ex.cast (Ex.eql rfl rfl) rfl) (by decide) ?_
 refine GL.sg rfl (by decide) ?_
 refine GL.nil (GE.thenN ?_)
 refine GC.cond rfl (fun hq6 => by cases hq6) (fun _ => ?_)
 refine GC.seq (GC.region ?_)
 refine GL.val (v := (.pointer (some ⟨bq3, 1, none⟩))) (Ex.cast (Ex.fieldAddr rfl Tryz.underlying192 rfl T.sz3 (by decide)) rfl) (by decide) ?_
 refine GL.val (Ex.load rfl T.ag3 (i := 0) rfl rfl) (by decide) ?_
 refine GL.val (v := (.bool false)) (Ex.cast (Ex.eql rfl rfl) rfl) (by decide) ?_
 refine GL.sg rfl (by decide) ?_
 refine GL.nil (GE.thenN ?_)
 refine GC.cond rfl (fun hq7 => by cases hq7) (fun _ => ?_)
 refine GC.skip (GE.blockN (GE.thenN (GC.seq (GC.region ?_))))
 refine GL.sg rfl (by decide) ?_
 refine GL.nil (GE.thenN (GC.ret ?_))
 refine GC.ret1 rfl (Rv.tmp rfl) (fun wN HN => ?_)
 exact HN.ret () trivial rfl (ulS ulN) rfl

theorem q153_55 (w : World) :
  Calls Tryz.prog 153 #[(.int .u32 1073741824)] w (Ret w (fun _ : Unit => True) (fun rz => (.bool false)) (fun rz => [])) := by
 refine enter (M := None) (L := []) (n := 6) (l := [(0, (.int .u32 1073741824))]) Tryz.func153 rfl rfl (Args.cons rfl (Args.nil _)) (Hp.start _ _) ?_
 refine GC.seq (GC.region ?_)
 refine GL.sg rfl (by decide) ?_
 refine GL.nil (GE.thenN (GC.seq (GC.region ?_)))
 refine GL.mv rfl (by decide) ?_
 refine GL.step (Stp.callR (vs := [(.int .u32 1073741824)]) rfl rfl T.own183 (by decide) (fun wc hw => q183_56  wc )) (fun xq1 hq2 => ?_)
 refine GL.val (v := (.bool false)) (Ex.cast (Ex.eql rfl rfl) rfl) (by decide) ?_
 refine GL.sg rfl (by decide) ?_
 refine GL.nil (GE.thenN (GC.ret ?_))
 refine GC.ret1 rfl (Rv.tmp rfl) (fun wN HN => ?_)
 exact HN.ret () trivial rfl ulN rfl

theorem q104_54 (w : World) :
  Calls Tryz.prog 104 #[(.int .u32 1073741824)] w (Ret w (fun _ : Unit => True) (fun rz => (.int .u32 1073741824)) (fun rz => [])) := by
 refine enter (M := None) (L := []) (n := 6) (l := [(0, (.int .u32 1073741824))]) Tryz.func104 rfl rfl (Args.cons rfl (Args.nil _)) (Hp.start _ _) ?_
 refine GC.seq (GC.region ?_)
 refine GL.sg rfl (by decide) ?_
 refine GL.nil (GE.thenN (GC.seq (GC.seq (GC.region ?_))))
 refine GL.mv rfl (by decide) ?_
 refine GL.step (Stp.callR (vs := [(.int .u32 1073741824)]) rfl rfl T.own153 (by decide) (fun wc hw => q153_55  wc )) (fun xq1 hq2 => ?_)
 refine GL.nil (GE.thenN ?_)
 refine GC.cond rfl (fun hq3 => by cases hq3) (fun _ => ?_)
 refine GC.skip (GE.thenN (GC.seq (GC.region ?_)))
 refine GL.mv rfl (by decide) ?_
 refine GL.sg rfl (by decide) ?_
 refine GL.nil (GE.thenN (GC.ret ?_))
 refine GC.ret1 rfl (Rv.tmp rfl) (fun wN HN => ?_)
 exact HN.ret () trivial rfl ulN rfl

theorem q65_53 (w : World) :
  Calls Tryz.prog 65 #[(.float .f64 4611686018427387904)] w (Ret w (fun _ : Unit => True) (fun rz => (.int .u32 1073741824)) (fun rz => [])) := by
 refine enter (M := None) (L := []) (n := 7) (l := [(0, (.float .f64 4611686018427387904))]) Tryz.func65 rfl rfl (Args.cons rfl (Args.nil _)) (Hp.start _ _) ?_
 refine GC.seq (GC.region ?_)
 refine GL.sg rfl (by decide) ?_
 refine GL.nil (GE.thenN (GC.seq (GC.region ?_)))
 refine GL.mv rfl (by decide) ?_
 refine GL.val (v := (.float .f32 1073741824)) (Ex.cff (r := 1073741824) rfl Tryz.underlying108 Tryz.underlying145 (by kernel_rfl)) (by decide) ?_
 refine GL.val (v := (.int .u32 1073741824)) (Ex.ext (vs := [(.float .f32 1073741824)]) rfl rfl T.ext105 (fun _ => by first | rfl | kernel_rfl)) (by decide) ?_
 refine GL.step (Stp.callR (vs := [(.int .u32 1073741824)]) rfl rfl T.own104 (by decide) (fun wc hw => q104_54  wc )) (fun xq1 hq2 => ?_)
 refine GL.sg rfl (by decide) ?_
 refine GL.nil (GE.thenN (GC.ret ?_))
 refine GC.ret1 rfl (Rv.tmp rfl) (fun wN HN => ?_)
 exact HN.ret () trivial rfl ulN rfl

theorem q197_62 (w : World) :
  Calls Tryz.prog 197 #[(.int .u32 1065353216)] w (Ret w (fun _ : Unit => True) (fun rz => (.agg #[(.bool false), (.int .i64 127), (.int .i64 0)])) (fun rz => [])) := by
 refine enter (M := None) (L := []) (n := 13) (l := [(0, (.int .u32 1065353216))]) Tryz.func197 rfl rfl (Args.cons rfl (Args.nil _)) (Hp.start _ _) ?_
 refine GC.seq (GC.region ?_)
 refine GL.step (Stp.alloc T.zr192 (by decide)) (fun bq1 _ => ?_)
 refine GL.nil (GE.thenN (GC.seq (GC.region ?_)))
 refine GL.mv rfl (by decide) ?_
 refine GL.val (v := (.bool false)) (Ex.cast (Ex.geq rfl rfl) rfl) (by decide) ?_
 refine GL.mv rfl (by decide) ?_
 refine GL.val (v := (.int .u32 127)) (Ex.shr rfl (m := 23) rfl (by decide) (Z := 127) (by decide)) (by decide) ?_
 refine GL.val (v := (.int .u32 127)) (Ex.bits rfl rfl (by simp) (Z := 127) (by decide +kernel)) (by decide) ?_
 refine GL.val (v := (.int .i64 127)) (Ex.conv rfl Tryz.underlying52 Tryz.underlying3 (Z := 127) (by decide)) (by decide) ?_
 refine GL.mv rfl (by decide) ?_
 refine GL.val (v := (.int .u32 0)) (Ex.bits rfl rfl (by simp) (Z := 0) (by decide +kernel)) (by decide) ?_
 refine GL.val (v := (.int .i64 0)) (Ex.conv rfl Tryz.underlying52 Tryz.underlying3 (Z := 0) (by decide)) (by decide) ?_
 refine GL.val (v := (.agg #[(.bool false), (.int .i64 127), (.int .i64 0)])) (Ex.build (vs := [(0, (.bool false)), (1, (.int .i64 127)), (2, (.int .i64 0))]) rfl (by first | rfl | kernel_rfl)) (by decide) ?_
 refine GL.step (Stp.st0 (cs' := [(.bool false), (.int .i64 127), (.int .i64 0)]) rfl rfl rfl T.sz192 rfl rfl rfl) (fun _ _ => ?_)
 refine GL.nil (GE.thenN (GC.ret ?_))
 refine GC.ret1 rfl (Rv.cellA rfl T.ag192 T.sz192 (L := _) (i := 0) rfl (vs := [(.bool false), (.int .i64 127), (.int .i64 0)]) rfl rfl) (fun wN HN => ?_)
 exact HN.ret () trivial rfl (ulS ulN) rfl

theorem q183_61 (w : World) :
  Calls Tryz.prog 183 #[(.int .u32 1065353216)] w (Ret w (fun _ : Unit => True) (fun rz => (.int .i64 3)) (fun rz => [])) := by
 refine enter (M := None) (L := []) (n := 23) (l := [(0, (.int .u32 1065353216))]) Tryz.func183 rfl rfl (Args.cons rfl (Args.nil _)) (Hp.start _ _) ?_
 refine GC.seq (GC.region ?_)
 refine GL.sg rfl (by decide) ?_
 refine GL.nil (GE.thenN (GC.seq (GC.region ?_)))
 refine GL.mv rfl (by decide) ?_
 refine GL.step (Stp.callR (vs := [(.int .u32 1065353216)]) rfl rfl T.own197 (by decide) (fun wc hw => q197_62  wc )) (fun xq1 hq2 => ?_)
 refine GL.step (Stp.alloc T.zr192 (by decide)) (fun bq3 _ => ?_)
 refine GL.step (Stp.st0 (cs' := [(.bool false), (.int .i64 127), (.int .i64 0)]) rfl rfl rfl T.sz192 rfl rfl rfl) (fun _ _ => ?_)
 refine GL.nil (GE.thenN (GC.seq (GC.region ?_)))
 refine GL.val (v := (.pointer (some ⟨bq3, 0, none⟩))) (Ex.cast (Ex.fieldAddr rfl Tryz.underlying192 rfl T.sz4 (by decide)) rfl) (by decide) ?_
 refine GL.step (Stp.st0 (cs' := [(.bool false), (.int .i64 127), (.int .i64 0)]) rfl rfl rfl T.sz4 rfl rfl rfl) (fun _ _ => ?_)
 refine GL.nil (GE.thenN (GC.seq (GC.block (GC.seq (GC.region ?_)))))
 refine GL.val (v := (.agg #[(.bool false), (.int .i64 127), (.int .i64 0)])) (Ex.loadA rfl T.ag192 T.sz192 (i := 0) rfl (vs := [(.bool false), (.int .i64 127), (.int .i64 0)]) rfl rfl) (by decide) ?_
 refine GL.val (v := (.agg #[(.bool false), (.int .i64 0), (.int .i64 0)])) (Ex.build (vs := []) rfl (by first | rfl | kernel_rfl)) (by decide) ?_
 refine GL.val (v := (.bool false)) (Ex.eqS rfl rfl T.sfs192 (EqFs.cons rfl rfl (EqC.bool Tryz.underlying4) (EqFs.cons rfl rfl (EqC.int Tryz.underlying3) (EqFs.cons rfl rfl (EqC.int Tryz.underlying3) EqFs.nil))) (by decide)) (by decide) ?_
 refine GL.sg rfl (by decide) ?_
 refine GL.nil (GE.thenN ?_)
 refine GC.cond rfl (fun hq4 => by cases hq4) (fun _ => ?_)
 refine GC.seq (GC.region ?_)
 refine GL.val (v := (.agg #[(.bool false), (.int .i64 127), (.int .i64 0)])) (Ex.loadA rfl T.ag192 T.sz192 (i := 0) rfl (vs := [(.bool false), (.int .i64 127), (.int .i64 0)]) rfl rfl) (by decide) ?_
 refine GL.val (v := (.agg #[(.bool false), (.int .i64 255), (.int .i64 0)])) (Ex.build (vs := [(1, (.int .i64 255))]) rfl (by first | rfl | kernel_rfl)) (by decide) ?_
 refine GL.val (v := (.bool false)) (Ex.eqS rfl rfl T.sfs192 (EqFs.cons rfl rfl (EqC.bool Tryz.underlying4) (EqFs.cons rfl rfl (EqC.int Tryz.underlying3) (EqFs.cons rfl rfl (EqC.int Tryz.underlying3) EqFs.nil))) (by decide)) (by decide) ?_
 refine GL.sg rfl (by decide) ?_
 refine GL.nil (GE.thenN ?_)
 refine GC.cond rfl (fun hq5 => by cases hq5) (fun _ => ?_)
 refine GC.seq (GC.region ?_)
 refine GL.val (v := (.pointer (some ⟨bq3, 1, none⟩))) (Ex.cast (Ex.fieldAddr rfl Tryz.underlying192 rfl T.sz3 (by decide)) rfl) (by decide) ?_
 refine GL.val (Ex.load rfl T.ag3 (i := 0) rfl rfl) (by decide) ?_
 refine GL.val (v := (.bool false)) (Ex.cast (Ex.eql rfl rfl) rfl) (by decide) ?_
 refine GL.sg rfl (by decide) ?_
 refine GL.nil (GE.thenN ?_)
 refine GC.cond rfl (fun hq6 => by cases hq6) (fun _ => ?_)
 refine GC.seq (GC.region ?_)
 refine GL.val (v := (.pointer (some ⟨bq3, 1, none⟩))) (Ex.cast (Ex.fieldAddr rfl Tryz.underlying192 rfl T.sz3 (by decide)) rfl) (by decide) ?_
 refine GL.val (Ex.load rfl T.ag3 (i := 0) rfl rfl) (by decide) ?_
 refine GL.val (v := (.bool false)) (Ex.cast (Ex.eql rfl rfl) rfl) (by decide) ?_
 refine GL.sg rfl (by decide) ?_
 refine GL.nil (GE.thenN ?_)
 refine GC.cond rfl (fun hq7 => by cases hq7) (fun _ => ?_)
 refine GC.skip (GE.blockN (GE.thenN (GC.seq (GC.region ?_))))
 refine GL.sg rfl (by decide) ?_
 refine GL.nil (GE.thenN (GC.ret ?_))
 refine GC.ret1 rfl (Rv.tmp rfl) (fun wN HN => ?_)
 exact HN.ret () trivial rfl (ulS ulN) rfl

theorem q153_60 (w : World) :
  Calls Tryz.prog 153 #[(.int .u32 1065353216)] w (Ret w (fun _ : Unit => True) (fun rz => (.bool false)) (fun rz => [])) := by
 refine enter (M := None) (L := []) (n := 6) (l := [(0, (.int .u32 1065353216))]) Tryz.func153 rfl rfl (Args.cons rfl (Args.nil _)) (Hp.start _ _) ?_
 refine GC.seq (GC.region ?_)
 refine GL.sg rfl (by decide) ?_
 refine GL.nil (GE.thenN (GC.seq (GC.region ?_)))
 refine GL.mv rfl (by decide) ?_
 refine GL.step (Stp.callR (vs := [(.int .u32 1065353216)]) rfl rfl T.own183 (by decide) (fun wc hw => q183_61  wc )) (fun xq1 hq2 => ?_)
 refine GL.val (v := (.bool false)) (Ex.cast (Ex.eql rfl rfl) rfl) (by decide) ?_
 refine GL.sg rfl (by decide) ?_
 refine GL.nil (GE.thenN (GC.ret ?_))
 refine GC.ret1 rfl (Rv.tmp rfl) (fun wN HN => ?_)
 exact HN.ret () trivial rfl ulN rfl

theorem q104_59 (w : World) :
  Calls Tryz.prog 104 #[(.int .u32 1065353216)] w (Ret w (fun _ : Unit => True) (fun rz => (.int .u32 1065353216)) (fun rz => [])) := by
 refine enter (M := None) (L := []) (n := 6) (l := [(0, (.int .u32 1065353216))]) Tryz.func104 rfl rfl (Args.cons rfl (Args.nil _)) (Hp.start _ _) ?_
 refine GC.seq (GC.region ?_)
 refine GL.sg rfl (by decide) ?_
 refine GL.nil (GE.thenN (GC.seq (GC.seq (GC.region ?_))))
 refine GL.mv rfl (by decide) ?_
 refine GL.step (Stp.callR (vs := [(.int .u32 1065353216)]) rfl rfl T.own153 (by decide) (fun wc hw => q153_60  wc )) (fun xq1 hq2 => ?_)
 refine GL.nil (GE.thenN ?_)
 refine GC.cond rfl (fun hq3 => by cases hq3) (fun _ => ?_)
 refine GC.skip (GE.thenN (GC.seq (GC.region ?_)))
 refine GL.mv rfl (by decide) ?_
 refine GL.sg rfl (by decide) ?_
 refine GL.nil (GE.thenN (GC.ret ?_))
 refine GC.ret1 rfl (Rv.tmp rfl) (fun wN HN => ?_)
 exact HN.ret () trivial rfl ulN rfl

theorem q65_58 (w : World) :
  Calls Tryz.prog 65 #[(.float .f64 4607182418800017408)] w (Ret w (fun _ : Unit => True) (fun rz => (.int .u32 1065353216)) (fun rz => [])) := by
 refine enter (M := None) (L := []) (n := 7) (l := [(0, (.float .f64 4607182418800017408))]) Tryz.func65 rfl rfl (Args.cons rfl (Args.nil _)) (Hp.start _ _) ?_
 refine GC.seq (GC.region ?_)
 refine GL.sg rfl (by decide) ?_
 refine GL.nil (GE.thenN (GC.seq (GC.region ?_)))
 refine GL.mv rfl (by decide) ?_
 refine GL.val (v := (.float .f32 1065353216)) (Ex.cff (r := 1065353216) rfl Tryz.underlying108 Tryz.underlying145 (by kernel_rfl)) (by decide) ?_
 refine GL.val (v := (.int .u32 1065353216)) (Ex.ext (vs := [(.float .f32 1065353216)]) rfl rfl T.ext105 (fun _ => by first | rfl | kernel_rfl)) (by decide) ?_
 refine GL.step (Stp.callR (vs := [(.int .u32 1065353216)]) rfl rfl T.own104 (by decide) (fun wc hw => q104_59  wc )) (fun xq1 hq2 => ?_)
 refine GL.sg rfl (by decide) ?_
 refine GL.nil (GE.thenN (GC.ret ?_))
 refine GC.ret1 rfl (Rv.tmp rfl) (fun wN HN => ?_)
 exact HN.ret () trivial rfl ulN rfl

theorem q64_45 (c0 : Nat) (w : World) (hh : Has w [⟨c0, [(.float .f64 0), (.float .f64 0), (.float .f64 4607182418800017408), (.float .f64 0), (.float .f64 4607182418800017408), (.float .f64 0), (.float .f64 4607182418800017408), (.float .f64 0), (.float .f64 0)], 110, false⟩]) :
  Calls Tryz.prog 64 #[(.int .u32 1065353216), (.int .u32 1073741824), (.int .u32 1082130432), (.pointer (some ⟨c0, 0, none⟩))] w (Ret w (fun _ : Unit => True) (fun rz => (.tuple #[(.int .u32 1082130432), (.int .u32 1073741824), (.int .u32 1065353216)])) (fun rz => [])) := by
 refine enter (M := None) (L := [⟨c0, [(.float .f64 0), (.float .f64 0), (.float .f64 4607182418800017408), (.float .f64 0), (.float .f64 4607182418800017408), (.float .f64 0), (.float .f64 4607182418800017408), (.float .f64 0), (.float .f64 0)], 110, false⟩]) (n := 49) (l := [(0, (.int .u32 1065353216)), (1, (.int .u32 1073741824)), (2, (.int .u32 1082130432)), (3, (.pointer (some ⟨c0, 0, none⟩)))]) Tryz.func64 rfl rfl (Args.cons rfl (Args.cons rfl (Args.cons rfl (Args.cons rfl (Args.nil _))))) (Hp.reads hh rfl) ?_
 refine GC.seq (GC.region ?_)
 refine GL.sg rfl (by decide) ?_
 refine GL.sg rfl (by decide) ?_
 refine GL.sg rfl (by decide) ?_
 refine GL.nil (GE.thenN (GC.seq (GC.region ?_)))
 refine GL.step (Stp.alloc T.zr112 (by decide)) (fun bq1 _ => ?_)
 refine GL.nil (GE.thenN (GC.seq (GC.seq (GC.region ?_))))
 refine GL.val (v := (.agg #[(.float .f64 0), (.float .f64 0), (.float .f64 4607182418800017408), (.float .f64 0), (.float .f64 4607182418800017408), (.float .f64 0), (.float .f64 4607182418800017408), (.float .f64 0), (.float .f64 0)])) (Ex.loadA rfl T.ag110 T.sz110 (i := 1) rfl (vs := [(.float .f64 0), (.float .f64 0), (.float .f64 4607182418800017408), (.float .f64 0), (.float .f64 4607182418800017408), (.float .f64 0), (.float .f64 4607182418800017408), (.float .f64 0), (.float .f64 0)]) rfl rfl) (by decide) ?_
 refine GL.mv rfl (by decide) ?_
 refine GL.nil (GE.thenN (GC.block ?_))
 refine GC.unroll 200 ?_
 refine GE.round (GC.seq (GC.region ?_))
 refine GL.val (v := (.bool true)) (Ex.cast (Ex.lss rfl rfl) rfl) (by decide) ?_
 refine GL.nil (GE.thenN (GC.seq ?_))
 refine GC.cond rfl (fun _ => ?_) (fun hq2 => by cases hq2)
 refine GC.skip (GE.thenN (GC.seq (GC.block (GC.seq (GC.region ?_)))))
 refine GL.mv rfl (by decide) ?_
 refine GL.val (v := (.agg #[(.float .f64 0), (.float .f64 0), (.float .f64 4607182418800017408)])) (Ex.indexA rfl rfl Tryz.underlying110 T.sz109 T.ag109 (by decide) (by decide) (vs := [(.float .f64 0), (.float .f64 0), (.float .f64 4607182418800017408)]) rfl) (by decide) ?_
 refine GL.step (Stp.alloc T.zr109 (by decide)) (fun bq3 _ => ?_)
 refine GL.sg rfl (by decide) ?_
 refine GL.step (Stp.st0 (cs' := [(.float .f64 0), (.float .f64 0), (.float .f64 4607182418800017408)]) rfl rfl rfl T.sz109 rfl rfl rfl) (fun _ _ => ?_)
 refine GL.nil (GE.thenN (GC.seq ?_))
 refine GC.drawP [⟨bq3, [(.float .f64 0), (.float .f64 0), (.float .f64 4607182418800017408)], 109, true⟩, ⟨bq1, [(.int .u32 0), (.int .u32 0), (.int .u32 0)], 112, true⟩, ⟨c0, [(.float .f64 0), (.float .f64 0), (.float .f64 4607182418800017408), (.float .f64 0), (.float .f64 4607182418800017408), (.float .f64 0), (.float .f64 4607182418800017408), (.float .f64 0), (.float .f64 0)], 110, false⟩] T.mixed (by kernel_rfl) (by kernel_rfl) (fuel := 5) rfl rfl ?_
 refine GH.tk 0 (v := (.pointer (some ⟨bq3, 0, none⟩))) rfl (by kernel_rfl) (fun _ _ _ h => h) (Ex.cast (Ex.indexArr (m := 3) rfl rfl Tryz.underlying109 T.sz108 (by decide) (by decide)) rfl) (ulC (ulC (ulC ulN))) (by decide) ?_
 refine GH.tk 1 (v := (.float .f64 0)) rfl (by kernel_rfl) (fun _ _ _ h => h) (Ex.load rfl T.ag108 (i := 0) rfl rfl) (ulC (ulC (ulC ulN))) (by decide) ?_
 refine GH.tk 2 (v := (.int .u32 1065353216)) rfl (by kernel_rfl) (fun _ _ _ h => h) (Ex.move rfl) (ulC (ulC (ulC ulN))) (by decide) ?_
 refine GH.one 3 rfl (by kernel_rfl) (Stp.callR (vs := [(.int .u32 1065353216)]) rfl rfl T.own63 (by decide) (fun wc hw => q63_2  wc )) (fun _ => (ulC (ulC (ulC ulN)))) (fun xq6 hq7 => ?_)
 refine GH.tk 4 (v := (.float .f64 0)) rfl (by kernel_rfl) (fun _ _ _ h => h) (Ex.farith (r := 0) rfl rfl (by kernel_rfl)) (ulC (ulC (ulC ulN))) (by decide) ?_
 refine GH.done (by kernel_rfl) ?_
 refine GE.thenN ?_
 refine GE.tail rfl (Ex.wp (v := (.float .f64 0)) (Ex.assign rfl) (by decide)) (fun _ _ => ?_)
 refine GE.thenN (GC.seq ?_)
 refine GC.drawP [⟨bq3, [(.float .f64 0), (.float .f64 0), (.float .f64 4607182418800017408)], 109, true⟩, ⟨bq1, [(.int .u32 0), (.int .u32 0), (.int .u32 0)], 112, true⟩, ⟨c0, [(.float .f64 0), (.float .f64 0), (.float .f64 4607182418800017408), (.float .f64 0), (.float .f64 4607182418800017408), (.float .f64 0), (.float .f64 4607182418800017408), (.float .f64 0), (.float .f64 0)], 110, false⟩] T.mixed (by kernel_rfl) (by kernel_rfl) (fuel := 7) rfl rfl ?_
 refine GH.tk 0 (v := (.float .f64 0)) rfl (by kernel_rfl) (fun _ _ _ h => h) (Ex.move rfl) (ulC (ulC (ulC ulN))) (by decide) ?_
 refine GH.tk 1 (v := (.pointer (some ⟨bq3, 1, none⟩))) rfl (by kernel_rfl) (fun _ _ _ h => h) (Ex.cast (Ex.indexArr (m := 3) rfl rfl Tryz.underlying109 T.sz108 (by decide) (by decide)) rfl) (ulC (ulC (ulC ulN))) (by decide) ?_
 refine GH.tk 2 (v := (.float .f64 0)) rfl (by kernel_rfl) (fun _ _ _ h => h) (Ex.load rfl T.ag108 (i := 0) rfl rfl) (ulC (ulC (ulC ulN))) (by decide) ?_
 refine GH.tk 3 (v := (.int .u32 1073741824)) rfl (by kernel_rfl) (fun _ _ _ h => h) (Ex.move rfl) (ulC (ulC (ulC ulN))) (by decide) ?_
 refine GH.one 4 rfl (by kernel_rfl) (Stp.callR (vs := [(.int .u32 1073741824)]) rfl rfl T.own63 (by decide) (fun wc hw => q63_46  wc )) (fun _ => (ulC (ulC (ulC ulN)))) (fun xq10 hq11 => ?_)
 refine GH.tk 5 (v := (.float .f64 0)) rfl (by kernel_rfl) (fun _ _ _ h => h) (Ex.farith (r := 0) rfl rfl (by kernel_rfl)) (ulC (ulC (ulC ulN))) (by decide) ?_
 refine GH.tk 6 (v := (.float .f64 0)) rfl (by kernel_rfl) (fun _ _ _ h => h) (Ex.farith (r := 0) rfl rfl (by kernel_rfl)) (ulC (ulC (ulC ulN))) (by decide) ?_
 refine GH.done (by kernel_rfl) ?_
 refine GE.thenN ?_
 refine GE.tail rfl (Ex.wp (v := (.float .f64 0)) (Ex.assign rfl) (by decide)) (fun _ _ => ?_)
 refine GE.thenN (GC.seq ?_)
 refine GC.drawP [⟨bq3, [(.float .f64 0), (.float .f64 0), (.float .f64 4607182418800017408)], 109, true⟩, ⟨bq1, [(.int .u32 0), (.int .u32 0), (.int .u32 0)], 112, true⟩, ⟨c0, [(.float .f64 0), (.float .f64 0), (.float .f64 4607182418800017408), (.float .f64 0), (.float .f64 4607182418800017408), (.float .f64 0), (.float .f64 4607182418800017408), (.float .f64 0), (.float .f64 0)], 110, false⟩] T.mixed (by kernel_rfl) (by kernel_rfl) (fuel := 7) rfl rfl ?_
 refine GH.tk 0 (v := (.float .f64 0)) rfl (by kernel_rfl) (fun _ _ _ h => h) (Ex.move rfl) (ulC (ulC (ulC ulN))) (by decide) ?_
 refine GH.tk 1 (v := (.pointer (some ⟨bq3, 2, none⟩))) rfl (by kernel_rfl) (fun _ _ _ h => h) (Ex.cast (Ex.indexArr (m := 3) rfl rfl Tryz.underlying109 T.sz108 (by decide) (by decide)) rfl) (ulC (ulC (ulC ulN))) (by decide) ?_
 refine GH.tk 2 (v := (.float .f64 4607182418800017408)) rfl (by kernel_rfl) (fun _ _ _ h => h) (Ex.load rfl T.ag108 (i := 0) rfl rfl) (ulC (ulC (ulC ulN))) (by decide) ?_
 refine GH.tk 3 (v := (.int .u32 1082130432)) rfl (by kernel_rfl) (fun _ _ _ h => h) (Ex.move rfl) (ulC (ulC (ulC ulN))) (by decide) ?_
 refine GH.one 4 rfl (by kernel_rfl) (Stp.callR (vs := [(.int .u32 1082130432)]) rfl rfl T.own63 (by decide) (fun wc hw => q63_47  wc )) (fun _ => (ulC (ulC (ulC ulN)))) (fun xq14 hq15 => ?_)
 refine GH.tk 5 (v := (.float .f64 4616189618054758400)) rfl (by kernel_rfl) (fun _ _ _ h => h) (Ex.farith (r := 4616189618054758400) rfl rfl (by kernel_rfl)) (ulC (ulC (ulC ulN))) (by decide) ?_
 refine GH.tk 6 (v := (.float .f64 4616189618054758400)) rfl (by kernel_rfl) (fun _ _ _ h => h) (Ex.farith (r := 4616189618054758400) rfl rfl (by kernel_rfl)) (ulC (ulC (ulC ulN))) (by decide) ?_
 refine GH.done (by kernel_rfl) ?_
 refine GE.thenN ?_
 refine GE.tail rfl (Ex.wp (v := (.float .f64 4616189618054758400)) (Ex.assign rfl) (by decide)) (fun _ _ => ?_)
 refine GE.thenN (GC.region ?_)
 refine GL.mv rfl (by decide) ?_
 refine GL.mv rfl (by decide) ?_
 refine GL.step (Stp.callR (vs := [(.float .f64 4616189618054758400)]) rfl rfl T.own65 (by decide) (fun wc hw => q65_48  wc )) (fun xq16 hq17 => ?_)
 refine GL.val (v := (.pointer (some ⟨bq1, 0, none⟩))) (Ex.cast (Ex.indexArr (m := 3) rfl rfl Tryz.underlying112 T.sz52 (by decide) (by decide)) rfl) (by decide) ?_
 refine GL.step (Stp.st1 (cs' := [(.int .u32 1082130432), (.int .u32 0), (.int .u32 0)]) rfl rfl rfl T.sz52 rfl rfl rfl) (fun _ _ => ?_)
 refine GL.nil (GE.blockN (GE.thenN (GC.region ?_)))
 refine GL.val (v := (.int .i64 1)) (Ex.add rfl rfl (Z := 1) (by decide)) (by decide) ?_
 refine GL.mv rfl (by decide) ?_
 refine GL.nil (GE.thenN (GE.round (GC.seq (GC.region ?_))))
 refine GL.val (v := (.bool true)) (Ex.cast (Ex.lss rfl rfl) rfl) (by decide) ?_
 refine GL.nil (GE.thenN (GC.seq ?_))
 refine GC.cond rfl (fun _ => ?_) (fun hq18 => by cases hq18)
 refine GC.skip (GE.thenN (GC.seq (GC.block (GC.seq (GC.region ?_)))))
 refine GL.mv rfl (by decide) ?_
 refine GL.val (v := (.agg #[(.float .f64 0), (.float .f64 4607182418800017408), (.float .f64 0)])) (Ex.indexA rfl rfl Tryz.underlying110 T.sz109 T.ag109 (by decide) (by decide) (vs := [(.float .f64 0), (.float .f64 4607182418800017408), (.float .f64 0)]) rfl) (by decide) ?_
 refine GL.step (Stp.alloc T.zr109 (by decide)) (fun bq19 _ => ?_)
 refine GL.sg rfl (by decide) ?_
 refine GL.step (Stp.st0 (cs' := [(.float .f64 0), (.float .f64 4607182418800017408), (.float .f64 0)]) rfl rfl rfl T.sz109 rfl rfl rfl) (fun _ _ => ?_)
 refine GL.nil (GE.thenN (GC.seq ?_))
 refine GC.drawP [⟨bq19, [(.float .f64 0), (.float .f64 4607182418800017408), (.float .f64 0)], 109, true⟩, ⟨bq3, [(.float .f64 0), (.float .f64 0), (.float .f64 4607182418800017408)], 109, true⟩, ⟨bq1, [(.int .u32 1082130432), (.int .u32 0), (.int .u32 0)], 112, true⟩, ⟨c0, [(.float .f64 0), (.float .f64 0), (.float .f64 4607182418800017408), (.float .f64 0), (.float .f64 4607182418800017408), (.float .f64 0), (.float .f64 4607182418800017408), (.float .f64 0), (.float .f64 0)], 110, false⟩] T.mixed (by kernel_rfl) (by kernel_rfl) (fuel := 5) rfl rfl ?_
 refine GH.tk 0 (v := (.pointer (some ⟨bq19, 0, none⟩))) rfl (by kernel_rfl) (fun _ _ _ h => h) (Ex.cast (Ex.indexArr (m := 3) rfl rfl Tryz.underlying109 T.sz108 (by decide) (by decide)) rfl) (ulC (ulC (ulC (ulC ulN)))) (by decide) ?_
 refine GH.tk 1 (v := (.float .f64 0)) rfl (by kernel_rfl) (fun _ _ _ h => h) (Ex.load rfl T.ag108 (i := 0) rfl rfl) (ulC (ulC (ulC (ulC ulN)))) (by decide) ?_
 refine GH.tk 2 (v := (.int .u32 1065353216)) rfl (by kernel_rfl) (fun _ _ _ h => h) (Ex.move rfl) (ulC (ulC (ulC (ulC ulN)))) (by decide) ?_
 refine GH.one 3 rfl (by kernel_rfl) (Stp.callR (vs := [(.int .u32 1065353216)]) rfl rfl T.own63 (by decide) (fun wc hw => q63_2  wc )) (fun _ => (ulC (ulC (ulC (ulC ulN))))) (fun xq22 hq23 => ?_)
 refine GH.tk 4 (v := (.float .f64 0)) rfl (by kernel_rfl) (fun _ _ _ h => h) (Ex.farith (r := 0) rfl rfl (by kernel_rfl)) (ulC (ulC (ulC (ulC ulN)))) (by decide) ?_
 refine GH.done (by kernel_rfl) ?_
 refine GE.thenN ?_
 refine GE.tail rfl (Ex.wp (v := (.float .f64 0)) (Ex.assign rfl) (by decide)) (fun _ _ => ?_)
 refine GE.thenN (GC.seq ?_)
 refine GC.drawP [⟨bq19, [(.float .f64 0), (.float .f64 4607182418800017408), (.float .f64 0)], 109, true⟩, ⟨bq3, [(.float .f64 0), (.float .f64 0), (.float .f64 4607182418800017408)], 109, true⟩, ⟨bq1, [(.int .u32 1082130432), (.int .u32 0), (.int .u32 0)], 112, true⟩, ⟨c0, [(.float .f64 0), (.float .f64 0), (.float .f64 4607182418800017408), (.float .f64 0), (.float .f64 4607182418800017408), (.float .f64 0), (.float .f64 4607182418800017408), (.float .f64 0), (.float .f64 0)], 110, false⟩] T.mixed (by kernel_rfl) (by kernel_rfl) (fuel := 7) rfl rfl ?_
 refine GH.tk 0 (v := (.float .f64 0)) rfl (by kernel_rfl) (fun _ _ _ h => h) (Ex.move rfl) (ulC (ulC (ulC (ulC ulN)))) (by decide) ?_
 refine GH.tk 1 (v := (.pointer (some ⟨bq19, 1, none⟩))) rfl (by kernel_rfl) (fun _ _ _ h => h) (Ex.cast (Ex.indexArr (m := 3) rfl rfl Tryz.underlying109 T.sz108 (by decide) (by decide)) rfl) (ulC (ulC (ulC (ulC ulN)))) (by decide) ?_
 refine GH.tk 2 (v := (.float .f64 4607182418800017408)) rfl (by kernel_rfl) (fun _ _ _ h => h) (Ex.load rfl T.ag108 (i := 0) rfl rfl) (ulC (ulC (ulC (ulC ulN)))) (by decide) ?_
 refine GH.tk 3 (v := (.int .u32 1073741824)) rfl (by kernel_rfl) (fun _ _ _ h => h) (Ex.move rfl) (ulC (ulC (ulC (ulC ulN)))) (by decide) ?_
 refine GH.one 4 rfl (by kernel_rfl) (Stp.callR (vs := [(.int .u32 1073741824)]) rfl rfl T.own63 (by decide) (fun wc hw => q63_46  wc )) (fun _ => (ulC (ulC (ulC (ulC ulN))))) (fun xq26 hq27 => ?_)
 refine GH.tk 5 (v := (.float .f64 4611686018427387904)) rfl (by kernel_rfl) (fun _ _ _ h => h) (Ex.farith (r := 4611686018427387904) rfl rfl (by kernel_rfl)) (ulC (ulC (ulC (ulC ulN)))) (by decide) ?_
 refine GH.tk 6 (v := (.float .f64 4611686018427387904)) rfl (by kernel_rfl) (fun _ _ _ h => h) (Ex.farith (r := 4611686018427387904) rfl rfl (by kernel_rfl)) (ulC (ulC (ulC (ulC ulN)))) (by decide) ?_
 refine GH.done (by kernel_rfl) ?_
 refine GE.thenN ?_
 refine GE.tail rfl (Ex.wp (v := (.float .f64 4611686018427387904)) (Ex.assign rfl) (by decide)) (fun _ _ => ?_)
 refine GE.thenN (GC.seq ?_)
 refine GC.drawP [⟨bq19, [(.float .f64 0), (.float .f64 4607182418800017408), (.float .f64 0)], 109, true⟩, ⟨bq3, [(.float .f64 0), (.float .f64 0), (.float .f64 4607182418800017408)], 109, true⟩, ⟨bq1, [(.int .u32 1082130432), (.int .u32 0), (.int .u32 0)], 112, true⟩, ⟨c0, [(.float .f64 0), (.float .f64 0), (.float .f64 4607182418800017408), (.float .f64 0), (.float .f64 4607182418800017408), (.float .f64 0), (.float .f64 4607182418800017408), (.float .f64 0), (.float .f64 0)], 110, false⟩] T.mixed (by kernel_rfl) (by kernel_rfl) (fuel := 7) rfl rfl ?_
 refine GH.tk 0 (v := (.float .f64 4611686018427387904)) rfl (by kernel_rfl) (fun _ _ _ h => h) (Ex.move rfl) (ulC (ulC (ulC (ulC ulN)))) (by decide) ?_
 refine GH.tk 1 (v := (.pointer (some ⟨bq19, 2, none⟩))) rfl (by kernel_rfl) (fun _ _ _ h => h) (Ex.cast (Ex.indexArr (m := 3) rfl rfl Tryz.underlying109 T.sz108 (by decide) (by decide)) rfl) (ulC (ulC (ulC (ulC ulN)))) (by decide) ?_
 refine GH.tk 2 (v := (.float .f64 0)) rfl (by kernel_rfl) (fun _ _ _ h => h) (Ex.load rfl T.ag108 (i := 0) rfl rfl) (ulC (ulC (ulC (ulC ulN)))) (by decide) ?_
 refine GH.tk 3 (v := (.int .u32 1082130432)) rfl (by kernel_rfl) (fun _ _ _ h => h) (Ex.move rfl) (ulC (ulC (ulC (ulC ulN)))) (by decide) ?_
 refine GH.one 4 rfl (by kernel_rfl) (Stp.callR (vs := [(.int .u32 1082130432)]) rfl rfl T.own63 (by decide) (fun wc hw => q63_47  wc )) (fun _ => (ulC (ulC (ulC (ulC ulN))))) (fun xq30 hq31 => ?_)
 refine GH.tk 5 (v := (.float .f64 0)) rfl (by kernel_rfl) (fun _ _ _ h => h) (Ex.farith (r := 0) rfl rfl (by kernel_rfl)) (ulC (ulC (ulC (ulC ulN)))) (by decide) ?_
 refine GH.tk 6 (v := (.float .f64 4611686018427387904)) rfl (by kernel_rfl) (fun _ _ _ h => h) (Ex.farith (r := 4611686018427387904) rfl rfl (by kernel_rfl)) (ulC (ulC (ulC (ulC ulN)))) (by decide) ?_
 refine GH.done (by kernel_rfl) ?_
 refine GE.thenN ?_
 refine GE.tail rfl (Ex.wp (v := (.float .f64 4611686018427387904)) (Ex.assign rfl) (by decide)) (fun _ _ => ?_)
 refine GE.thenN (GC.region ?_)
 refine GL.mv rfl (by decide) ?_
 refine GL.mv rfl (by decide) ?_
 refine GL.step (Stp.callR (vs := [(.float .f64 4611686018427387904)]) rfl rfl T.own65 (by decide) (fun wc hw => q65_53  wc )) (fun xq32 hq33 => ?_)
 refine GL.val (v := (.pointer (some ⟨bq1, 1, none⟩))) (Ex.cast (Ex.indexArr (m := 3) rfl rfl Tryz.underlying112 T.sz52 (by decide) (by decide)) rfl) (by decide) ?_
 refine GL.step (Stp.st2 (cs' := [(.int .u32 1082130432), (.int .u32 1073741824), (.int .u32 0)]) rfl rfl rfl T.sz52 rfl rfl rfl) (fun _ _ => ?_)
 refine GL.nil (GE.blockN (GE.thenN (GC.region ?_)))
 refine GL.val (v := (.int .i64 2)) (Ex.add rfl rfl (Z := 2) (by decide)) (by decide) ?_
 refine GL.mv rfl (by decide) ?_
 refine GL.nil (GE.thenN (GE.round ?_))
 refine GC.pick (idx := [0, 2, 3]) (by decide) rfl ?_
 refine GC.seq (GC.region ?_)
 refine GL.val (v := (.bool true)) (Ex.cast (Ex.lss rfl rfl) rfl) (by decide) ?_
 refine GL.nil (GE.thenN (GC.seq ?_))
 refine GC.cond rfl (fun _ => ?_) (fun hq34 => by cases hq34)
 refine GC.skip (GE.thenN (GC.seq (GC.block (GC.seq (GC.region ?_)))))
 refine GL.mv rfl (by decide) ?_
 refine GL.val (v := (.agg #[(.float .f64 4607182418800017408), (.float .f64 0), (.float .f64 0)])) (Ex.indexA rfl rfl Tryz.underlying110 T.sz109 T.ag109 (by decide) (by decide) (vs := [(.float .f64 4607182418800017408), (.float .f64 0), (.float .f64 0)]) rfl) (by decide) ?_
 refine GL.step (Stp.alloc T.zr109 (by decide)) (fun bq35 _ => ?_)
 refine GL.sg rfl (by decide) ?_
 refine GL.step (Stp.st0 (cs' := [(.float .f64 4607182418800017408), (.float .f64 0), (.float .f64 0)]) rfl rfl rfl T.sz109 rfl rfl rfl) (fun _ _ => ?_)
 refine GL.nil (GE.thenN (GC.seq ?_))
 refine GC.drawP [⟨bq35, [(.float .f64 4607182418800017408), (.float .f64 0), (.float .f64 0)], 109, true⟩, ⟨bq19, [(.float .f64 0), (.float .f64 4607182418800017408), (.float .f64 0)], 109, true⟩, ⟨bq1, [(.int .u32 1082130432), (.int .u32 1073741824), (.int .u32 0)], 112, true⟩, ⟨c0, [(.float .f64 0), (.float .f64 0), (.float .f64 4607182418800017408), (.float .f64 0), (.float .f64 4607182418800017408), (.float .f64 0), (.float .f64 4607182418800017408), (.float .f64 0), (.float .f64 0)], 110, false⟩] T.mixed (by kernel_rfl) (by kernel_rfl) (fuel := 5) rfl rfl ?_
 refine GH.tk 0 (v := (.pointer (some ⟨bq35, 0, none⟩))) rfl (by kernel_rfl) (fun _ _ _ h => h) (Ex.cast (Ex.indexArr (m := 3) rfl rfl Tryz.underlying109 T.sz108 (by decide) (by decide)) rfl) (ulC (ulC (ulC (ulC ulN)))) (by decide) ?_
 refine GH.tk 1 (v := (.float .f64 4607182418800017408)) rfl (by kernel_rfl) (fun _ _ _ h => h) (Ex.load rfl T.ag108 (i := 0) rfl rfl) (ulC (ulC (ulC (ulC ulN)))) (by decide) ?_
 refine GH.tk 2 (v := (.int .u32 1065353216)) rfl (by kernel_rfl) (fun _ _ _ h => h) (Ex.move rfl) (ulC (ulC (ulC (ulC ulN)))) (by decide) ?_
 refine GH.one 3 rfl (by kernel_rfl) (Stp.callR (vs := [(.int .u32 1065353216)]) rfl rfl T.own63 (by decide) (fun wc hw => q63_2  wc )) (fun _ => (ulC (ulC (ulC (ulC ulN))))) (fun xq38 hq39 => ?_)
 refine GH.tk 4 (v := (.float .f64 4607182418800017408)) rfl (by kernel_rfl) (fun _ _ _ h => h) (Ex.farith (r := 4607182418800017408) rfl rfl (by kernel_rfl)) (ulC (ulC (ulC (ulC ulN)))) (by decide) ?_
 refine GH.done (by kernel_rfl) ?_
 refine GE.thenN ?_
 refine GE.tail rfl (Ex.wp (v := (.float .f64 4607182418800017408)) (Ex.assign rfl) (by decide)) (fun _ _ => ?_)
 refine GE.thenN (GC.seq ?_)
 refine GC.drawP [⟨bq35, [(.float .f64 4607182418800017408), (.float .f64 0), (.float .f64 0)], 109, true⟩, ⟨bq19, [(.float .f64 0), (.float .f64 4607182418800017408), (.float .f64 0)], 109, true⟩, ⟨bq1, [(.int .u32 1082130432), (.int .u32 1073741824), (.int .u32 0)], 112, true⟩, ⟨c0, [(.float .f64 0), (.float .f64 0), (.float .f64 4607182418800017408), (.float .f64 0), (.float .f64 4607182418800017408), (.float .f64 0), (.float .f64 4607182418800017408), (.float .f64 0), (.float .f64 0)], 110, false⟩] T.mixed (by kernel_rfl) (by kernel_rfl) (fuel := 7) rfl rfl ?_
 refine GH.tk 0 (v := (.float .f64 4607182418800017408)) rfl (by kernel_rfl) (fun _ _ _ h => h) (Ex.move rfl) (ulC (ulC (ulC (ulC ulN)))) (by decide) ?_
 refine GH.tk 1 (v := (.pointer (some ⟨bq35, 1, none⟩))) rfl (by kernel_rfl) (fun _ _ _ h => h) (Ex.cast (Ex.indexArr (m := 3) rfl rfl Tryz.underlying109 T.sz108 (by decide) (by decide)) rfl) (ulC (ulC (ulC (ulC ulN)))) (by decide) ?_
 refine GH.tk 2 (v := (.float .f64 0)) rfl (by kernel_rfl) (fun _ _ _ h => h) (Ex.load rfl T.ag108 (i := 0) rfl rfl) (ulC (ulC (ulC (ulC ulN)))) (by decide) ?_
 refine GH.tk 3 (v := (.int .u32 1073741824)) rfl (by kernel_rfl) (fun _ _ _ h => h) (Ex.move rfl) (ulC (ulC (ulC (ulC ulN)))) (by decide) ?_
 refine GH.one 4 rfl (by kernel_rfl) (Stp.callR (vs := [(.int .u32 1073741824)]) rfl rfl T.own63 (by decide) (fun wc hw => q63_46  wc )) (fun _ => (ulC (ulC (ulC (ulC ulN))))) (fun xq42 hq43 => ?_)
 refine GH.tk 5 (v := (.float .f64 0)) rfl (by kernel_rfl) (fun _ _ _ h => h) (Ex.farith (r := 0) rfl rfl (by kernel_rfl)) (ulC (ulC (ulC (ulC ulN)))) (by decide) ?_
 refine GH.tk 6 (v := (.float .f64 4607182418800017408)) rfl (by kernel_rfl) (fun _ _ _ h => h) (Ex.farith (r := 4607182418800017408) rfl rfl (by kernel_rfl)) (ulC (ulC (ulC (ulC ulN)))) (by decide) ?_
 refine GH.done (by kernel_rfl) ?_
 refine GE.thenN ?_
 refine GE.tail rfl (Ex.wp (v := (.float .f64 4607182418800017408)) (Ex.assign rfl) (by decide)) (fun _ _ => ?_)
 refine GE.thenN (GC.seq ?_)
 refine GC.drawP [⟨bq35, [(.float .f64 4607182418800017408), (.float .f64 0), (.float .f64 0)], 109, true⟩, ⟨bq19, [(.float .f64 0), (.float .f64 4607182418800017408), (.float .f64 0)], 109, true⟩, ⟨bq1, [(.int .u32 1082130432), (.int .u32 1073741824), (.int .u32 0)], 112, true⟩, ⟨c0, [(.float .f64 0), (.float .f64 0), (.float .f64 4607182418800017408), (.float .f64 0), (.float .f64 4607182418800017408), (.float .f64 0), (.float .f64 4607182418800017408), (.float .f64 0), (.float .f64 0)], 110, false⟩] T.mixed (by kernel_rfl) (by kernel_rfl) (fuel := 7) rfl rfl ?_
 refine GH.tk 0 (v := (.float .f64 4607182418800017408)) rfl (by kernel_rfl) (fun _ _ _ h => h) (Ex.move rfl) (ulC (ulC (ulC (ulC ulN)))) (by decide) ?_
 refine GH.tk 1 (v := (.pointer (some ⟨bq35, 2, none⟩))) rfl (by kernel_rfl) (fun _ _ _ h => h) (Ex.cast (Ex.indexArr (m := 3) rfl rfl Tryz.underlying109 T.sz108 (by decide) (by decide)) rfl) (ulC (ulC (ulC (ulC ulN)))) (by decide) ?_
 refine GH.tk 2 (v := (.float .f64 0)) rfl (by kernel_rfl) (fun _ _ _ h => h) (Ex.load rfl T.ag108 (i := 0) rfl rfl) (ulC (ulC (ulC (ulC ulN)))) (by decide) ?_
 refine GH.tk 3 (v := (.int .u32 1082130432)) rfl (by kernel_rfl) (fun _ _ _ h => h) (Ex.move rfl) (ulC (ulC (ulC (ulC ulN)))) (by decide) ?_
 refine GH.one 4 rfl (by kernel_rfl) (Stp.callR (vs := [(.int .u32 1082130432)]) rfl rfl T.own63 (by decide) (fun wc hw => q63_47  wc )) (fun _ => (ulC (ulC (ulC (ulC ulN))))) (fun xq46 hq47 => ?_)
 refine GH.tk 5 (v := (.float .f64 0)) rfl (by kernel_rfl) (fun _ _ _ h => h) (Ex.farith (r := 0) rfl rfl (by kernel_rfl)) (ulC (ulC (ulC (ulC ulN)))) (by decide) ?_
 refine GH.tk 6 (v := (.float .f64 4607182418800017408)) rfl (by kernel_rfl) (fun _ _ _ h => h) (Ex.farith (r := 4607182418800017408) rfl rfl (by kernel_rfl)) (ulC (ulC (ulC (ulC ulN)))) (by decide) ?_
 refine GH.done (by kernel_rfl) ?_
 refine GE.thenN ?_
 refine GE.tail rfl (Ex.wp (v := (.float .f64 4607182418800017408)) (Ex.assign rfl) (by decide)) (fun _ _ => ?_)
 refine GE.thenN (GC.region ?_)
 refine GL.mv rfl (by decide) ?_
 refine GL.mv rfl (by decide) ?_
 refine GL.step (Stp.callR (vs := [(.float .f64 4607182418800017408)]) rfl rfl T.own65 (by decide) (fun wc hw => q65_58  wc )) (fun xq48 hq49 => ?_)
 refine GL.val (v := (.pointer (some ⟨bq1, 2, none⟩))) (Ex.cast (Ex.indexArr (m := 3) rfl rfl Tryz.underlying112 T.sz52 (by decide) (by decide)) rfl) (by decide) ?_
 refine GL.step (Stp.st2 (cs' := [(.int .u32 1082130432), (.int .u32 1073741824), (.int .u32 1065353216)]) rfl rfl rfl T.sz52 rfl rfl rfl) (fun _ _ => ?_)
 refine GL.nil (GE.blockN (GE.thenN (GC.region ?_)))
 refine GL.val (v := (.int .i64 3)) (Ex.add rfl rfl (Z := 3) (by decide)) (by decide) ?_
 refine GL.mv rfl (by decide) ?_
 refine GL.nil (GE.thenN (GE.round ?_))
 refine GC.pick (idx := [0, 2, 3]) (by decide) rfl ?_
 refine GC.seq (GC.region ?_)
 refine GL.val (v := (.bool false)) (Ex.cast (Ex.lss rfl rfl) rfl) (by decide) ?_
 refine GL.nil (GE.thenN (GC.seq ?_))
 refine GC.cond rfl (fun hq50 => by cases hq50) (fun _ => ?_)
 refine GC.exit (GE.thenE (GE.thenE (GE.blockE (GE.thenN (GC.seq ?_)))))
 refine GC.drawP [⟨bq35, [(.float .f64 4607182418800017408), (.float .f64 0), (.float .f64 0)], 109, true⟩, ⟨bq1, [(.int .u32 1082130432), (.int .u32 1073741824), (.int .u32 1065353216)], 112, true⟩, ⟨c0, [(.float .f64 0), (.float .f64 0), (.float .f64 4607182418800017408), (.float .f64 0), (.float .f64 4607182418800017408), (.float .f64 0), (.float .f64 4607182418800017408), (.float .f64 0), (.float .f64 0)], 110, false⟩] T.mixed (by kernel_rfl) (by kernel_rfl) (fuel := 8) rfl rfl ?_
 refine GH.tk 0 (v := (.pointer (some ⟨bq1, 0, none⟩))) rfl (by kernel_rfl) (fun _ _ _ h => h) (Ex.cast (Ex.indexArr (m := 3) rfl rfl Tryz.underlying112 T.sz52 (by decide) (by decide)) rfl) (ulC (ulC (ulC ulN))) (by decide) ?_
 refine GH.tk 1 (v := (.int .u32 1082130432)) rfl (by kernel_rfl) (fun _ _ _ h => h) (Ex.load rfl T.ag52 (i := 1) rfl rfl) (ulC (ulC (ulC ulN))) (by decide) ?_
 refine GH.tk 2 (v := (.pointer (some ⟨bq1, 1, none⟩))) rfl (by kernel_rfl) (fun _ _ _ h => h) (Ex.cast (Ex.indexArr (m := 3) rfl rfl Tryz.underlying112 T.sz52 (by decide) (by decide)) rfl) (ulC (ulC (ulC ulN))) (by decide) ?_
 refine GH.tk 3 (v := (.int .u32 1073741824)) rfl (by kernel_rfl) (fun _ _ _ h => h) (Ex.load rfl T.ag52 (i := 1) rfl rfl) (ulC (ulC (ulC ulN))) (by decide) ?_
 refine GH.tk 4 (v := (.pointer (some ⟨bq1, 2, none⟩))) rfl (by kernel_rfl) (fun _ _ _ h => h) (Ex.cast (Ex.indexArr (m := 3) rfl rfl Tryz.underlying112 T.sz52 (by decide) (by decide)) rfl) (ulC (ulC (ulC ulN))) (by decide) ?_
 refine GH.tk 5 (v := (.int .u32 1065353216)) rfl (by kernel_rfl) (fun _ _ _ h => h) (Ex.load rfl T.ag52 (i := 1) rfl rfl) (ulC (ulC (ulC ulN))) (by decide) ?_
 refine GH.tk 6 (v := (.int .u32 1082130432)) rfl (by kernel_rfl) (fun _ _ _ h => h) (Ex.assign rfl) (ulC (ulC (ulC ulN))) (by decide) ?_
 refine GH.tk 7 (v := (.int .u32 1073741824)) rfl (by kernel_rfl) (fun _ _ _ h => h) (Ex.assign rfl) (ulC (ulC (ulC ulN))) (by decide) ?_
 refine GH.done (by kernel_rfl) ?_
 refine GE.thenN ?_
 refine GE.tail rfl (Ex.wp (v := (.int .u32 1065353216)) (Ex.assign rfl) (by decide)) (fun _ _ => ?_)
 refine GE.thenN (GC.ret ?_)
 refine GC.ret3 rfl (Rv.tmp rfl) (Rv.tmp rfl) (Rv.tmp rfl) (fun wN HN => ?_)
 exact HN.ret () trivial rfl (ulS (ulS (ulS ulN))) rfl

theorem kn_new81 (w : World) : Calls Tryz.prog 34 #[(.int .i64 1), (.int .i64 2), (.int .i64 1), (.int .i64 1), (.int .u32 0)] w (Ret w (fun r : Ac => r.Ok ∧ (∀ q ∈ r.qs, q.Ok) ∧ r.ds = newD 1 2 1 1 0) (fun r => (.tuple #[(.agg #[(.int .i64 ((picS 81 1))), (.slice r.ad r.n r.cp)]), (.int .i64 81)])) (fun r => r.blks 75 52)) := by
 have h := newp_u 1 2 1 1 0 w
 rw [show newE 1 2 1 1 = 81 from by decide] at h
 exact h

end Go.Proofs.YtiikkhbmhojbaaaGreat.C
