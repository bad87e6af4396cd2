/- PictureKeeps: what its code does, walked. -/
import Derived.Test.YtiikkhbmhojbaaaKKeeps1
namespace Go.Proofs.Ytiikkhbmhojbaaa.C
open Go Go.RowKit Sx
set_option linter.unusedVariables false
set_option maxRecDepth 100000
set_option maxHeartbeats 1000000
theorem triples_ok (sp : Int) (b o n cap : Nat) (ps : List Pn) (W H : Nat) (A : Nat) (fid : FuncId) (caps : Array Value) (f : Int → Int → Int → Int × Int × Int) (w : World) (hps : Pns w b o ps) (hn : n = ps.length) (hok : OkPic sp ps W H) (hA : A = W * H) (hn3 : 3 ≤ n) (hf : FnS3 Try.prog w fid caps (pAt ps 0).xs (pAt ps 1).xs (pAt ps 2).xs f) :
  Calls Try.prog 42 #[(.agg #[(.int .i64 sp), (.slice (some ⟨b, o, none⟩) n cap)]), (.func (.func fid) #[] caps)] w (Ret w (fun r : Ac => r.qs ≠ [] ∧ r.ds = ((List.range n).map (trD f ps A)) ∧ r.Ok ∧ ∀ q ∈ r.qs, q.Ok) (fun r => .tuple #[(.agg #[(.int .i64 sp), (.slice r.ad r.n r.cp)]), .int .i64 0]) (fun r => r.blks 43 28)) := by
 have hAb := hok.ok.2.2.2.2
 refine enter (M := None) (L := []) (n := 70) (l := [(0, (.agg #[(.int .i64 sp), (.slice (some ⟨b, o, none⟩) n cap)])), (1, (.func (.func fid) #[] caps))]) Try.func42 rfl rfl (Args.cons rfl (Args.cons rfl (Args.nil _))) (Hp.start _ _) ?_
 refine GC.seq (GC.region ?_)
 refine GL.step (Stp.box (cs := [(.int .i64 sp), (.slice (some ⟨b, o, none⟩) n cap)]) rfl rfl (by decide)) (fun bq1 _ => ?_)
 refine GL.step (Stp.alloc T.zr25 (by decide)) (fun bq2 _ => ?_)
 refine GL.sg rfl (by decide) ?_
 refine GL.nil (GE.thenN (GC.seq (GC.region ?_)))
 refine GL.val (v := (.agg #[(.int .i64 sp), (.slice (some ⟨b, o, none⟩) n cap)])) (Ex.loadA rfl T.ag25 T.sz25 (i := 1) rfl (vs := [(.int .i64 sp), (.slice (some ⟨b, o, none⟩) n cap)]) rfl rfl) (by decide) ?_
 refine GL.step (Stp.call (vs := [(.agg #[(.int .i64 sp), (.slice (some ⟨b, o, none⟩) n cap)]), (.func (.func 77) #[] #[])]) rfl rfl T.own36 (by decide) (fun wc hw => (Ret.frm (L' := fun x => (⟨bq2, [(.int .i64 0), (.slice none 0 0)], 25, true⟩ :: ⟨bq1, [(.int .i64 sp), (.slice (some ⟨b, o, none⟩) n cap)], 25, true⟩ :: (x.blks 43 28 ++ []))) hw (every_ok sp b o n cap ps W H 77 #[] (fun i => (pAt ps i).d) wc (hps.later hw.1) hn hok ⟨T.own77, fun i hi w' hk' => triples1 i W H (pAt ps i) w' hok.ok (hok.at hi) ((hps.ok _ (pAt_mem hi)).later (hw.1.trans hk' (fun _ _ h => h)))⟩) (fun x w' _ h => by exact Hp.segsD (A := [x.blks 43 28, [⟨bq2, [(.int .i64 0), (.slice none 0 0)], 25, true⟩, ⟨bq1, [(.int .i64 sp), (.slice (some ⟨b, o, none⟩) n cap)], 25, true⟩]]) (idx := [1, 0]) 2 [] h rfl (by decide) rfl)))) (fun xq3 hq4 => ?_)
 refine GL.mv rfl (by decide) ?_
 refine GL.val (Ex.extract rfl rfl) (by decide) ?_
 refine GL.val (Ex.extract rfl rfl) (by decide) ?_
 refine GL.step (Stp.alloc T.zr25 (by decide)) (fun bq5 _ => ?_)
 refine GL.step (Stp.st0 (cs' := [(.int .i64 sp), (.slice xq3.ad xq3.n xq3.cp)]) rfl rfl rfl T.sz25 rfl rfl rfl) (fun _ _ => ?_)
 refine GL.sg rfl (by decide) ?_
 refine GL.nil (GE.thenN (GC.seq (GC.seq (GC.region ?_))))
 refine GL.mv rfl (by decide) ?_
 refine GL.val (v := (.bool false)) (Ex.cast (Ex.neq rfl rfl) rfl) (by decide) ?_
 refine GL.nil (GE.thenN ?_)
 refine GC.cond rfl (fun hq6 => by cases hq6) (fun _ => ?_)
 refine GC.skip (GE.thenN (GC.seq ?_))
 have hnx : xq3.n = n := by rw [← Ac.ds_len, hq4.2.1]; simp
 rw [hnx]
 have hx0 : (pAt ps 0).xs.length = A := by rw [hA]; exact ((hps.ok _ (pAt_mem (show 0 < ps.length by omega))).1.1).trans (hok.at (by omega)).2.2
 have hx1 : (pAt ps 1).xs.length = A := by rw [hA]; exact ((hps.ok _ (pAt_mem (show 1 < ps.length by omega))).1.1).trans (hok.at (by omega)).2.2
 have hx2 : (pAt ps 2).xs.length = A := by rw [hA]; exact ((hps.ok _ (pAt_mem (show 2 < ps.length by omega))).1.1).trans (hok.at (by omega)).2.2
 obtain ⟨q0, q1, q2, rs, e3, d0, d1, d2, d3⟩ := three hq4.2.1 hn3
 obtain ⟨qs0, xb, xc, xsp⟩ := xq3
 dsimp only at e3
 subst e3
 obtain ⟨w0, h0, x0, b0, c0, s0⟩ := q0
 obtain ⟨ew0, eh0, ex0⟩ := Nq.d_eq d0
 dsimp only at ew0 eh0 ex0
 subst ew0 eh0 ex0
 obtain ⟨w1, h1, x1, b1, c1, s1⟩ := q1
 obtain ⟨ew1, eh1, ex1⟩ := Nq.d_eq d1
 dsimp only at ew1 eh1 ex1
 subst ew1 eh1 ex1
 obtain ⟨w2, h2, x2, b2, c2, s2⟩ := q2
 obtain ⟨ew2, eh2, ex2⟩ := Nq.d_eq d2
 dsimp only at ew2 eh2 ex2
 subst ew2 eh2 ex2
 have hrow : pcs ((⟨(pAt ps 0).W, (pAt ps 0).H, (pAt ps 0).xs, b0, c0, s0⟩ :: ⟨(pAt ps 1).W, (pAt ps 1).H, (pAt ps 1).xs, b1, c1, s1⟩ :: ⟨(pAt ps 2).W, (pAt ps 2).H, (pAt ps 2).xs, b2, c2, s2⟩ :: rs : List Nq).map Nq.pn) ++ xsp = [(.int .i64 ((pAt ps 0).W)), (.int .i64 ((pAt ps 0).H)), (.slice (some ⟨b0, 0, none⟩) A c0), (.int .i64 ((pAt ps 1).W)), (.int .i64 ((pAt ps 1).H)), (.slice (some ⟨b1, 0, none⟩) A c1), (.int .i64 ((pAt ps 2).W)), (.int .i64 ((pAt ps 2).H)), (.slice (some ⟨b2, 0, none⟩) A c2)] ++ (pcs (rs.map Nq.pn) ++ xsp) := by simp [pcs, Pn.cs, Nq.pn, hx0, hx1, hx2]
 refine GC.hp (L2 := (⟨bq5, [(.int .i64 sp), (.slice (some ⟨xb, 0, none⟩) n xc)], 25, true⟩ :: ⟨bq2, [(.int .i64 0), (.slice none 0 0)], 25, true⟩ :: ⟨bq1, [(.int .i64 sp), (.slice (some ⟨b, o, none⟩) n cap)], 25, true⟩ :: ⟨xb, [(.int .i64 ((pAt ps 0).W)), (.int .i64 ((pAt ps 0).H)), (.slice (some ⟨b0, 0, none⟩) A c0), (.int .i64 ((pAt ps 1).W)), (.int .i64 ((pAt ps 1).H)), (.slice (some ⟨b1, 0, none⟩) A c1), (.int .i64 ((pAt ps 2).W)), (.int .i64 ((pAt ps 2).H)), (.slice (some ⟨b2, 0, none⟩) A c2)] ++ (pcs (rs.map Nq.pn) ++ xsp), 43, true⟩ :: ⟨b0, (trL (fun k => (trF f ps k).1) (pAt ps 0).xs 0).map u32 ++ s0, 28, true⟩ :: ⟨b1, (trL (fun k => (trF f ps k).2.1) (pAt ps 1).xs 0).map u32 ++ s1, 28, true⟩ :: ⟨b2, (trL (fun k => (trF f ps k).2.2) (pAt ps 2).xs 0).map u32 ++ s2, 28, true⟩ :: (((rs.map (Nq.blk 28)) ++ []) ++ []))) (fun w h' => by rw [← hrow, trL_zero, trL_zero, trL_zero]; exact h') ?_
 refine GC.sub (l' := [(1, (.func (.func fid) #[] caps)), (4, (.pointer (some ⟨bq2, 0, none⟩))), (6, (.pointer (some ⟨bq5, 0, none⟩)))]) ((sub_cons rfl ((sub_cons rfl ((sub_cons rfl ((sub_nil _)))))))) ulR ?_
 refine GC.drawP (⟨bq5, [(.int .i64 sp), (.slice (some ⟨xb, 0, none⟩) n xc)], 25, true⟩ :: ⟨bq2, [(.int .i64 0), (.slice none 0 0)], 25, true⟩ :: ⟨bq1, [(.int .i64 sp), (.slice (some ⟨b, o, none⟩) n cap)], 25, true⟩ :: ⟨xb, [(.int .i64 ((pAt ps 0).W)), (.int .i64 ((pAt ps 0).H)), (.slice (some ⟨b0, 0, none⟩) A c0), (.int .i64 ((pAt ps 1).W)), (.int .i64 ((pAt ps 1).H)), (.slice (some ⟨b1, 0, none⟩) A c1), (.int .i64 ((pAt ps 2).W)), (.int .i64 ((pAt ps 2).H)), (.slice (some ⟨b2, 0, none⟩) A c2)] ++ (pcs (rs.map Nq.pn) ++ xsp), 43, true⟩ :: ⟨b0, (trL (fun k => (trF f ps k).1) (pAt ps 0).xs 0).map u32 ++ s0, 28, true⟩ :: ⟨b1, (trL (fun k => (trF f ps k).2.1) (pAt ps 1).xs 0).map u32 ++ s1, 28, true⟩ :: ⟨b2, (trL (fun k => (trF f ps k).2.2) (pAt ps 2).xs 0).map u32 ++ s2, 28, true⟩ :: (((rs.map (Nq.blk 28)) ++ []) ++ [])) T.mixed (by kernel_rfl) (by kernel_rfl) (fuel := 17) rfl rfl ?_
 refine GH.tk 0 (v := (.pointer (some ⟨bq5, 1, none⟩))) rfl (by kernel_rfl) (fun _ _ _ h => h) (Ex.cast (Ex.fieldAddr rfl Try.underlying25 rfl T.sz23 (by decide)) rfl) (ulC (ulC (ulC (ulC (ulC (ulC (ulC ulR))))))) (by decide) ?_
 refine GH.tk 1 (v := (.slice (some ⟨xb, 0, none⟩) n xc)) rfl (by kernel_rfl) (fun _ _ _ h => h) (Ex.load rfl T.ag23 (i := 0) rfl rfl) (ulC (ulC (ulC (ulC (ulC (ulC (ulC ulR))))))) (by decide) ?_
 refine GH.tk 2 (v := (.pointer (some ⟨xb, 0, none⟩))) rfl (by kernel_rfl) (fun _ _ _ h => h) (Ex.cast (Ex.indexAddr rfl rfl Try.underlying23 T.sz43 (by omega) (by omega)) rfl) (ulC (ulC (ulC (ulC (ulC (ulC (ulC ulR))))))) (by decide) ?_
 refine GH.tk 3 (v := (.pointer (some ⟨xb, 2, none⟩))) rfl (by kernel_rfl) (fun _ _ _ h => h) (Ex.cast (Ex.fieldAddr rfl Try.underlying43 rfl T.sz41 (by decide)) rfl) (ulC (ulC (ulC (ulC (ulC (ulC (ulC ulR))))))) (by decide) ?_
 refine GH.tk 4 (v := (.slice (some ⟨b0, 0, none⟩) A c0)) rfl (by kernel_rfl) (fun _ _ _ h => h) (Ex.load rfl T.ag41 (i := 3) rfl rfl) (ulC (ulC (ulC (ulC (ulC (ulC (ulC ulR))))))) (by decide) ?_
 refine GH.tk 5 (v := (.pointer (some ⟨bq5, 1, none⟩))) rfl (by kernel_rfl) (fun _ _ _ h => h) (Ex.cast (Ex.fieldAddr rfl Try.underlying25 rfl T.sz23 (by decide)) rfl) (ulC (ulC (ulC (ulC (ulC (ulC (ulC ulR))))))) (by decide) ?_
 refine GH.tk 6 (v := (.slice (some ⟨xb, 0, none⟩) n xc)) rfl (by kernel_rfl) (fun _ _ _ h => h) (Ex.load rfl T.ag23 (i := 0) rfl rfl) (ulC (ulC (ulC (ulC (ulC (ulC (ulC ulR))))))) (by decide) ?_
 refine GH.tk 7 (v := (.pointer (some ⟨xb, 3, none⟩))) rfl (by kernel_rfl) (fun _ _ _ h => h) (Ex.cast (Ex.indexAddr rfl rfl Try.underlying23 T.sz43 (by omega) (by omega)) rfl) (ulC (ulC (ulC (ulC (ulC (ulC (ulC ulR))))))) (by decide) ?_
 refine GH.tk 8 (v := (.pointer (some ⟨xb, 5, none⟩))) rfl (by kernel_rfl) (fun _ _ _ h => h) (Ex.cast (Ex.fieldAddr rfl Try.underlying43 rfl T.sz41 (by decide)) rfl) (ulC (ulC (ulC (ulC (ulC (ulC (ulC ulR))))))) (by decide) ?_
 refine GH.tk 9 (v := (.slice (some ⟨b1, 0, none⟩) A c1)) rfl (by kernel_rfl) (fun _ _ _ h => h) (Ex.load rfl T.ag41 (i := 3) rfl rfl) (ulC (ulC (ulC (ulC (ulC (ulC (ulC ulR))))))) (by decide) ?_
 refine GH.tk 10 (v := (.pointer (some ⟨bq5, 1, none⟩))) rfl (by kernel_rfl) (fun _ _ _ h => h) (Ex.cast (Ex.fieldAddr rfl Try.underlying25 rfl T.sz23 (by decide)) rfl) (ulC (ulC (ulC (ulC (ulC (ulC (ulC ulR))))))) (by decide) ?_
 refine GH.tk 11 (v := (.slice (some ⟨xb, 0, none⟩) n xc)) rfl (by kernel_rfl) (fun _ _ _ h => h) (Ex.load rfl T.ag23 (i := 0) rfl rfl) (ulC (ulC (ulC (ulC (ulC (ulC (ulC ulR))))))) (by decide) ?_
 refine GH.tk 12 (v := (.pointer (some ⟨xb, 6, none⟩))) rfl (by kernel_rfl) (fun _ _ _ h => h) (Ex.cast (Ex.indexAddr rfl rfl Try.underlying23 T.sz43 (by omega) (by omega)) rfl) (ulC (ulC (ulC (ulC (ulC (ulC (ulC ulR))))))) (by decide) ?_
 refine GH.tk 13 (v := (.pointer (some ⟨xb, 8, none⟩))) rfl (by kernel_rfl) (fun _ _ _ h => h) (Ex.cast (Ex.fieldAddr rfl Try.underlying43 rfl T.sz41 (by decide)) rfl) (ulC (ulC (ulC (ulC (ulC (ulC (ulC ulR))))))) (by decide) ?_
 refine GH.tk 14 (v := (.slice (some ⟨b2, 0, none⟩) A c2)) rfl (by kernel_rfl) (fun _ _ _ h => h) (Ex.load rfl T.ag41 (i := 3) rfl rfl) (ulC (ulC (ulC (ulC (ulC (ulC (ulC ulR))))))) (by decide) ?_
 refine GH.tk 15 (v := (.slice (some ⟨b0, 0, none⟩) A c0)) rfl (by kernel_rfl) (fun _ _ _ h => h) (Ex.assign rfl) (ulC (ulC (ulC (ulC (ulC (ulC (ulC ulR))))))) (by decide) ?_
 refine GH.tk 16 (v := (.slice (some ⟨b1, 0, none⟩) A c1)) rfl (by kernel_rfl) (fun _ _ _ h => h) (Ex.assign rfl) (ulC (ulC (ulC (ulC (ulC (ulC (ulC ulR))))))) (by decide) ?_
 refine GH.done (by kernel_rfl) ?_
 refine GE.thenN ?_
 refine GE.tail rfl (Ex.wp (v := (.slice (some ⟨b2, 0, none⟩) A c2)) (Ex.assign rfl) (by decide)) (fun _ _ => ?_)
 refine GE.thenN (GC.seq (GC.seq (GC.region ?_)))
 refine GL.mv rfl (by decide) ?_
 refine GL.val (v := (.int .i64 ((A : Int)))) (Ex.len rfl Try.underlying41) (by decide) ?_
 refine GL.mv rfl (by decide) ?_
 refine GL.nil (GE.thenN (GC.block ?_))
 refine GC.loop (σ := Nat) (fun k => k ≤ A) (fun k => [(1, (.func (.func fid) #[] caps)), (4, (.pointer (some ⟨bq2, 0, none⟩))), (6, (.pointer (some ⟨bq5, 0, none⟩))), (8, (.slice (some ⟨b0, 0, none⟩) A c0)), (9, (.slice (some ⟨b1, 0, none⟩) A c1)), (10, (.slice (some ⟨b2, 0, none⟩) A c2)), (37, (.int .i64 ((A : Int)))), (38, (.int .i64 (((k : Nat) : Int))))]) (fun k => (⟨bq5, [(.int .i64 sp), (.slice (some ⟨xb, 0, none⟩) n xc)], 25, true⟩ :: ⟨bq2, [(.int .i64 0), (.slice none 0 0)], 25, true⟩ :: ⟨bq1, [(.int .i64 sp), (.slice (some ⟨b, o, none⟩) n cap)], 25, true⟩ :: ⟨xb, [(.int .i64 ((pAt ps 0).W)), (.int .i64 ((pAt ps 0).H)), (.slice (some ⟨b0, 0, none⟩) A c0), (.int .i64 ((pAt ps 1).W)), (.int .i64 ((pAt ps 1).H)), (.slice (some ⟨b1, 0, none⟩) A c1), (.int .i64 ((pAt ps 2).W)), (.int .i64 ((pAt ps 2).H)), (.slice (some ⟨b2, 0, none⟩) A c2)] ++ (pcs (rs.map Nq.pn) ++ xsp), 43, true⟩ :: ⟨b0, (trL (fun k => (trF f ps k).1) (pAt ps 0).xs k).map u32 ++ s0, 28, true⟩ :: ⟨b1, (trL (fun k => (trF f ps k).2.1) (pAt ps 1).xs k).map u32 ++ s1, 28, true⟩ :: ⟨b2, (trL (fun k => (trF f ps k).2.2) (pAt ps 2).xs k).map u32 ++ s2, 28, true⟩ :: (((rs.map (Nq.blk 28)) ++ []) ++ []))) (fun k => A - k) (0) (Nat.zero_le _) ((sub_cons rfl ((sub_cons rfl ((sub_cons rfl ((sub_cons rfl ((sub_cons rfl ((sub_cons rfl ((sub_cons rfl ((sub_cons rfl ((sub_nil _)))))))))))))))))) (ulC (ulC (ulC (ulC (ulC (ulC (ulC ulR))))))) (fun k hp => ?_)
 refine GC.seq (GC.region ?_)
 refine GL.val (v := (.bool (decide ((((k : Nat) : Int)) < ((A : Int)))))) (Ex.lss rfl rfl) (by decide) ?_
 refine GL.nil (GE.thenN (GC.seq ?_))
 refine GC.cond rfl (fun hq7 => ?_) (fun hq7 => ?_)
 ·replace hq7 := of_decide_eq_true hq7
  refine GC.skip (GE.thenN (GC.seq (GC.block (GC.seq (GC.region ?_)))))
  refine GL.mv rfl (by decide) ?_
  refine GL.sg rfl (by decide) ?_
  refine GL.nil (GE.thenN ?_)
  refine GC.join (σ := Unit) (fun j => True) (fun j => [(1, (.func (.func fid) #[] caps)), (4, (.pointer (some ⟨bq2, 0, none⟩))), (6, (.pointer (some ⟨bq5, 0, none⟩))), (8, (.slice (some ⟨b0, 0, none⟩) A c0)), (9, (.slice (some ⟨b1, 0, none⟩) A c1)), (10, (.slice (some ⟨b2, 0, none⟩) A c2)), (37, (.int .i64 ((A : Int)))), (38, (.int .i64 (((k : Nat) : Int)))), (39, (.bool (decide ((((k : Nat) : Int)) < ((A : Int)))))), (40, (.int .i64 (((k : Nat) : Int))))]) (fun j => (⟨bq5, [(.int .i64 sp), (.slice (some ⟨xb, 0, none⟩) n xc)], 25, true⟩ :: ⟨bq2, [(.int .i64 0), (.slice none 0 0)], 25, true⟩ :: ⟨bq1, [(.int .i64 sp), (.slice (some ⟨b, o, none⟩) n cap)], 25, true⟩ :: ⟨xb, [(.int .i64 ((pAt ps 0).W)), (.int .i64 ((pAt ps 0).H)), (.slice (some ⟨b0, 0, none⟩) A c0), (.int .i64 ((pAt ps 1).W)), (.int .i64 ((pAt ps 1).H)), (.slice (some ⟨b1, 0, none⟩) A c1), (.int .i64 ((pAt ps 2).W)), (.int .i64 ((pAt ps 2).H)), (.slice (some ⟨b2, 0, none⟩) A c2)] ++ (pcs (rs.map Nq.pn) ++ xsp), 43, true⟩ :: ⟨b0, (trL (fun k => (trF f ps k).1) (pAt ps 0).xs (k + 1)).map u32 ++ s0, 28, true⟩ :: ⟨b1, (trL (fun k => (trF f ps k).2.1) (pAt ps 1).xs (k + 1)).map u32 ++ s1, 28, true⟩ :: ⟨b2, (trL (fun k => (trF f ps k).2.2) (pAt ps 2).xs (k + 1)).map u32 ++ s2, 28, true⟩ :: (((rs.map (Nq.blk 28)) ++ []) ++ []))) ?_ (fun j20 hj => ?_)
  ·refine GC.drawP (⟨bq5, [(.int .i64 sp), (.slice (some ⟨xb, 0, none⟩) n xc)], 25, true⟩ :: ⟨bq2, [(.int .i64 0), (.slice none 0 0)], 25, true⟩ :: ⟨bq1, [(.int .i64 sp), (.slice (some ⟨b, o, none⟩) n cap)], 25, true⟩ :: ⟨xb, [(.int .i64 ((pAt ps 0).W)), (.int .i64 ((pAt ps 0).H)), (.slice (some ⟨b0, 0, none⟩) A c0), (.int .i64 ((pAt ps 1).W)), (.int .i64 ((pAt ps 1).H)), (.slice (some ⟨b1, 0, none⟩) A c1), (.int .i64 ((pAt ps 2).W)), (.int .i64 ((pAt ps 2).H)), (.slice (some ⟨b2, 0, none⟩) A c2)] ++ (pcs (rs.map Nq.pn) ++ xsp), 43, true⟩ :: (((rs.map (Nq.blk 28)) ++ []) ++ [])) T.mixed (by kernel_rfl) (by kernel_rfl) (fuel := 29) rfl rfl ?_
   refine GH.tk 0 (v := (.slice (some ⟨b0, 0, none⟩) A c0)) rfl (by kernel_rfl) (fun _ _ _ h => h) (Ex.move rfl) (ulC (ulC (ulC (ulC (ulS (ulS (ulS ulR))))))) (by decide) ?_
   refine GH.tk 1 (v := (.int .i64 (((k : Nat) : Int)))) rfl (by kernel_rfl) (fun _ _ _ h => h) (Ex.move rfl) (ulC (ulC (ulC (ulC (ulS (ulS (ulS ulR))))))) (by decide) ?_
   refine GH.tk 2 (v := (.slice (some ⟨b1, 0, none⟩) A c1)) rfl (by kernel_rfl) (fun _ _ _ h => h) (Ex.move rfl) (ulC (ulC (ulC (ulC (ulS (ulS (ulS ulR))))))) (by decide) ?_
   refine GH.tk 3 (v := (.int .i64 (((k : Nat) : Int)))) rfl (by kernel_rfl) (fun _ _ _ h => h) (Ex.move rfl) (ulC (ulC (ulC (ulC (ulS (ulS (ulS ulR))))))) (by decide) ?_
   refine GH.tk 4 (v := (.slice (some ⟨b2, 0, none⟩) A c2)) rfl (by kernel_rfl) (fun _ _ _ h => h) (Ex.move rfl) (ulC (ulC (ulC (ulC (ulS (ulS (ulS ulR))))))) (by decide) ?_
   refine GH.tk 5 (v := (.int .i64 (((k : Nat) : Int)))) rfl (by kernel_rfl) (fun _ _ _ h => h) (Ex.move rfl) (ulC (ulC (ulC (ulC (ulS (ulS (ulS ulR))))))) (by decide) ?_
   refine GH.tk 6 (v := (.func (.func fid) #[] caps)) rfl (by kernel_rfl) (fun _ _ _ h => h) (Ex.move rfl) (ulC (ulC (ulC (ulC (ulS (ulS (ulS ulR))))))) (by decide) ?_
   refine GH.tk 7 (v := (.slice (some ⟨b0, 0, none⟩) A c0)) rfl (by kernel_rfl) (fun _ _ _ h => h) (Ex.move rfl) (ulC (ulC (ulC (ulC (ulS (ulS (ulS ulR))))))) (by decide) ?_
   refine GH.tk 8 (v := (.int .i64 (((k : Nat) : Int)))) rfl (by kernel_rfl) (fun _ _ _ h => h) (Ex.move rfl) (ulC (ulC (ulC (ulC (ulS (ulS (ulS ulR))))))) (by decide) ?_
   refine GH.tk 9 (v := (.pointer (some ⟨b0, k, none⟩))) rfl (by kernel_rfl) (fun _ _ _ h => h) (Ex.cast (Ex.indexAddr rfl rfl Try.underlying41 T.sz28 (by omega) (by omega)) (by simp)) (ulC (ulC (ulC (ulC (ulS (ulS (ulS ulR))))))) (by decide) ?_
   refine GH.tk 11 (v := (.slice (some ⟨b1, 0, none⟩) A c1)) rfl (by kernel_rfl) (fun _ _ _ h => h) (Ex.move rfl) (ulC (ulC (ulC (ulC (ulS (ulS (ulS ulR))))))) (by decide) ?_
   refine GH.tk 12 (v := (.int .i64 (((k : Nat) : Int)))) rfl (by kernel_rfl) (fun _ _ _ h => h) (Ex.move rfl) (ulC (ulC (ulC (ulC (ulS (ulS (ulS ulR))))))) (by decide) ?_
   refine GH.tk 13 (v := (.pointer (some ⟨b1, k, none⟩))) rfl (by kernel_rfl) (fun _ _ _ h => h) (Ex.cast (Ex.indexAddr rfl rfl Try.underlying41 T.sz28 (by omega) (by omega)) (by simp)) (ulC (ulC (ulC (ulC (ulS (ulS (ulS ulR))))))) (by decide) ?_
   refine GH.tk 15 (v := (.slice (some ⟨b2, 0, none⟩) A c2)) rfl (by kernel_rfl) (fun _ _ _ h => h) (Ex.move rfl) (ulC (ulC (ulC (ulC (ulS (ulS (ulS ulR))))))) (by decide) ?_
   refine GH.tk 16 (v := (.int .i64 (((k : Nat) : Int)))) rfl (by kernel_rfl) (fun _ _ _ h => h) (Ex.move rfl) (ulC (ulC (ulC (ulC (ulS (ulS (ulS ulR))))))) (by decide) ?_
   refine GH.tk 17 (v := (.pointer (some ⟨b2, k, none⟩))) rfl (by kernel_rfl) (fun _ _ _ h => h) (Ex.cast (Ex.indexAddr rfl rfl Try.underlying41 T.sz28 (by omega) (by omega)) (by simp)) (ulC (ulC (ulC (ulC (ulS (ulS (ulS ulR))))))) (by decide) ?_
   refine GH.many (rs := [10, 14, 18]) (by kernel_rfl) (by simp) ?_
   refine GHs.cons rfl (Ex.wp (v := (.int .u32 (((pAt ps 0).xs.getD k 0)))) (Ex.load rfl T.ag28 (i := 4) rfl (trL_at _ _ k _ (by omega))) (by decide)) (fun _ => (ulC (ulC (ulC (ulC (ulS (ulS (ulS ulR)))))))) (fun _ _ => ?_) ?_
   ·refine GH.many (rs := [14, 18]) (by kernel_rfl) (by simp) ?_
    refine GHs.cons rfl (Ex.wp (v := (.int .u32 (((pAt ps 1).xs.getD k 0)))) (Ex.load rfl T.ag28 (i := 5) rfl (trL_at _ _ k _ (by omega))) (by decide)) (fun _ => (ulC (ulC (ulC (ulC (ulS (ulS (ulS ulR)))))))) (fun _ _ => ?_) ?_
    ·refine GH.one 18 rfl (by kernel_rfl) (Ex.wp (v := (.int .u32 (((pAt ps 2).xs.getD k 0)))) (Ex.load rfl T.ag28 (i := 6) rfl (trL_at _ _ k _ (by omega))) (by decide)) (fun _ => (ulC (ulC (ulC (ulC (ulS (ulS (ulS ulR)))))))) (fun _ _ => ?_)
     refine GH.one 19 rfl (by kernel_rfl) (Stp.callR (vs := [(.int .u32 (((pAt ps 0).xs.getD k 0))), (.int .u32 (((pAt ps 1).xs.getD k 0))), (.int .u32 (((pAt ps 2).xs.getD k 0)))]) rfl rfl hf.1 (by decide) (fun wc hw => hf.2 _ (getD_mem (by omega)) _ (getD_mem (by omega)) _ (getD_mem (by omega)) wc hw.1)) (fun _ => (ulC (ulC (ulC (ulC (ulS (ulS (ulS ulR)))))))) (fun xq21 hq22 => ?_)
     refine GH.tk 20 (v := (.tuple #[(.int .u32 ((trF f ps k).1)), (.int .u32 ((trF f ps k).2.1)), (.int .u32 ((trF f ps k).2.2))])) rfl (by kernel_rfl) (fun _ _ _ h => h) (Ex.move rfl) (ulC (ulC (ulC (ulC (ulS (ulS (ulS ulR))))))) (by decide) ?_
     refine GH.tk 21 (v := (.int .u32 ((trF f ps k).1))) rfl (by kernel_rfl) (fun _ _ _ h => h) (Ex.extract rfl rfl) (ulC (ulC (ulC (ulC (ulS (ulS (ulS ulR))))))) (by decide) ?_
     refine GH.tk 22 (v := (.int .u32 ((trF f ps k).2.1))) rfl (by kernel_rfl) (fun _ _ _ h => h) (Ex.extract rfl rfl) (ulC (ulC (ulC (ulC (ulS (ulS (ulS ulR))))))) (by decide) ?_
     refine GH.tk 23 (v := (.int .u32 ((trF f ps k).2.2))) rfl (by kernel_rfl) (fun _ _ _ h => h) (Ex.extract rfl rfl) (ulC (ulC (ulC (ulC (ulS (ulS (ulS ulR))))))) (by decide) ?_
     refine GH.tk 24 (v := (.pointer (some ⟨b0, k, none⟩))) rfl (by kernel_rfl) (fun _ _ _ h => h) (Ex.cast (Ex.indexAddr rfl rfl Try.underlying41 T.sz28 (by omega) (by omega)) (by simp)) (ulC (ulC (ulC (ulC (ulS (ulS (ulS ulR))))))) (by decide) ?_
     refine GH.one 25 rfl (by kernel_rfl) (Stp.storeL (i := 4) (cs := (trL (fun k => (trF f ps k).1) (pAt ps 0).xs k).map u32 ++ s0) (vs := [(.int .u32 ((trF f ps k).1))]) (o := k) (L1 := (⟨bq5, [(.int .i64 sp), (.slice (some ⟨xb, 0, none⟩) n xc)], 25, true⟩ :: ⟨bq2, [(.int .i64 0), (.slice none 0 0)], 25, true⟩ :: ⟨bq1, [(.int .i64 sp), (.slice (some ⟨b, o, none⟩) n cap)], 25, true⟩ :: ⟨xb, [(.int .i64 ((pAt ps 0).W)), (.int .i64 ((pAt ps 0).H)), (.slice (some ⟨b0, 0, none⟩) A c0), (.int .i64 ((pAt ps 1).W)), (.int .i64 ((pAt ps 1).H)), (.slice (some ⟨b1, 0, none⟩) A c1), (.int .i64 ((pAt ps 2).W)), (.int .i64 ((pAt ps 2).H)), (.slice (some ⟨b2, 0, none⟩) A c2)] ++ (pcs (rs.map Nq.pn) ++ xsp), 43, true⟩ :: ⟨b0, (trL (fun k => (trF f ps k).1) (pAt ps 0).xs (k + 1)).map u32 ++ s0, 28, true⟩ :: ⟨b1, (trL (fun k => (trF f ps k).2.1) (pAt ps 1).xs k).map u32 ++ s1, 28, true⟩ :: ⟨b2, (trL (fun k => (trF f ps k).2.2) (pAt ps 2).xs k).map u32 ++ s2, 28, true⟩ :: (((rs.map (Nq.blk 28)) ++ []) ++ []))) rfl rfl rfl T.sz28 rfl (Nat.ble_eq_true_of_le (by rw [List.length_append, List.length_map, trL_len]; simp; omega)) rfl (by rw [show splice ((trL (fun k => (trF f ps k).1) (pAt ps 0).xs k).map u32 ++ s0) k [(.int .u32 ((trF f ps k).1))] = (trL (fun k => (trF f ps k).1) (pAt ps 0).xs (k + 1)).map u32 ++ s0 from trL_put (fun k => (trF f ps k).1) (pAt ps 0).xs k s0 (by omega)]; rfl)) (fun _ => (ulC (ulC (ulC (ulC (ulS (ulS (ulS ulR)))))))) (fun _ _ => ?_)
     refine GH.tk 26 (v := (.pointer (some ⟨b1, k, none⟩))) rfl (by kernel_rfl) (fun _ _ _ h => h) (Ex.cast (Ex.indexAddr rfl rfl Try.underlying41 T.sz28 (by omega) (by omega)) (by simp)) (ulC (ulC (ulC (ulC (ulS (ulS (ulS ulR))))))) (by decide) ?_
     refine GH.one 27 rfl (by kernel_rfl) (Stp.storeL (i := 5) (cs := (trL (fun k => (trF f ps k).2.1) (pAt ps 1).xs k).map u32 ++ s1) (vs := [(.int .u32 ((trF f ps k).2.1))]) (o := k) (L1 := (⟨bq5, [(.int .i64 sp), (.slice (some ⟨xb, 0, none⟩) n xc)], 25, true⟩ :: ⟨bq2, [(.int .i64 0), (.slice none 0 0)], 25, true⟩ :: ⟨bq1, [(.int .i64 sp), (.slice (some ⟨b, o, none⟩) n cap)], 25, true⟩ :: ⟨xb, [(.int .i64 ((pAt ps 0).W)), (.int .i64 ((pAt ps 0).H)), (.slice (some ⟨b0, 0, none⟩) A c0), (.int .i64 ((pAt ps 1).W)), (.int .i64 ((pAt ps 1).H)), (.slice (some ⟨b1, 0, none⟩) A c1), (.int .i64 ((pAt ps 2).W)), (.int .i64 ((pAt ps 2).H)), (.slice (some ⟨b2, 0, none⟩) A c2)] ++ (pcs (rs.map Nq.pn) ++ xsp), 43, true⟩ :: ⟨b0, (trL (fun k => (trF f ps k).1) (pAt ps 0).xs (k + 1)).map u32 ++ s0, 28, true⟩ :: ⟨b1, (trL (fun k => (trF f ps k).2.1) (pAt ps 1).xs (k + 1)).map u32 ++ s1, 28, true⟩ :: ⟨b2, (trL (fun k => (trF f ps k).2.2) (pAt ps 2).xs k).map u32 ++ s2, 28, true⟩ :: (((rs.map (Nq.blk 28)) ++ []) ++ []))) rfl rfl rfl T.sz28 rfl (Nat.ble_eq_true_of_le (by rw [List.length_append, List.length_map, trL_len]; simp; omega)) rfl (by rw [show splice ((trL (fun k => (trF f ps k).2.1) (pAt ps 1).xs k).map u32 ++ s1) k [(.int .u32 ((trF f ps k).2.1))] = (trL (fun k => (trF f ps k).2.1) (pAt ps 1).xs (k + 1)).map u32 ++ s1 from trL_put (fun k => (trF f ps k).2.1) (pAt ps 1).xs k s1 (by omega)]; rfl)) (fun _ => (ulC (ulC (ulC (ulC (ulS (ulS (ulS ulR)))))))) (fun _ _ => ?_)
     refine GH.tk 28 (v := (.pointer (some ⟨b2, k, none⟩))) rfl (by kernel_rfl) (fun _ _ _ h => h) (Ex.cast (Ex.indexAddr rfl rfl Try.underlying41 T.sz28 (by omega) (by omega)) (by simp)) (ulC (ulC (ulC (ulC (ulS (ulS (ulS ulR))))))) (by decide) ?_
     refine GH.done (by kernel_rfl) ?_
     refine GE.thenN ?_
     refine GE.tail rfl (Stp.storeL (i := 6) (cs := (trL (fun k => (trF f ps k).2.2) (pAt ps 2).xs k).map u32 ++ s2) (vs := [(.int .u32 ((trF f ps k).2.2))]) (o := k) (L1 := (⟨bq5, [(.int .i64 sp), (.slice (some ⟨xb, 0, none⟩) n xc)], 25, true⟩ :: ⟨bq2, [(.int .i64 0), (.slice none 0 0)], 25, true⟩ :: ⟨bq1, [(.int .i64 sp), (.slice (some ⟨b, o, none⟩) n cap)], 25, true⟩ :: ⟨xb, [(.int .i64 ((pAt ps 0).W)), (.int .i64 ((pAt ps 0).H)), (.slice (some ⟨b0, 0, none⟩) A c0), (.int .i64 ((pAt ps 1).W)), (.int .i64 ((pAt ps 1).H)), (.slice (some ⟨b1, 0, none⟩) A c1), (.int .i64 ((pAt ps 2).W)), (.int .i64 ((pAt ps 2).H)), (.slice (some ⟨b2, 0, none⟩) A c2)] ++ (pcs (rs.map Nq.pn) ++ xsp), 43, true⟩ :: ⟨b0, (trL (fun k => (trF f ps k).1) (pAt ps 0).xs (k + 1)).map u32 ++ s0, 28, true⟩ :: ⟨b1, (trL (fun k => (trF f ps k).2.1) (pAt ps 1).xs (k + 1)).map u32 ++ s1, 28, true⟩ :: ⟨b2, (trL (fun k => (trF f ps k).2.2) (pAt ps 2).xs (k + 1)).map u32 ++ s2, 28, true⟩ :: (((rs.map (Nq.blk 28)) ++ []) ++ []))) rfl rfl rfl T.sz28 rfl (Nat.ble_eq_true_of_le (by rw [List.length_append, List.length_map, trL_len]; simp; omega)) rfl (by rw [show splice ((trL (fun k => (trF f ps k).2.2) (pAt ps 2).xs k).map u32 ++ s2) k [(.int .u32 ((trF f ps k).2.2))] = (trL (fun k => (trF f ps k).2.2) (pAt ps 2).xs (k + 1)).map u32 ++ s2 from trL_put (fun k => (trF f ps k).2.2) (pAt ps 2).xs k s2 (by omega)]; rfl)) (fun _ _ => ?_)
     refine GE.thenN ?_
     exact St.hp (()) trivial ((sub_cons rfl ((sub_cons rfl ((sub_cons rfl ((sub_cons rfl ((sub_cons rfl ((sub_cons rfl ((sub_cons rfl ((sub_cons rfl ((sub_cons rfl ((sub_cons rfl ((sub_nil _)))))))))))))))))))))) (fun w h => by exact Hp.segsT (T := []) (A := [[⟨bq5, [(.int .i64 sp), (.slice (some ⟨xb, 0, none⟩) n xc)], 25, true⟩], [⟨bq2, [(.int .i64 0), (.slice none 0 0)], 25, true⟩], [⟨bq1, [(.int .i64 sp), (.slice (some ⟨b, o, none⟩) n cap)], 25, true⟩], [⟨xb, [(.int .i64 ((pAt ps 0).W)), (.int .i64 ((pAt ps 0).H)), (.slice (some ⟨b0, 0, none⟩) A c0), (.int .i64 ((pAt ps 1).W)), (.int .i64 ((pAt ps 1).H)), (.slice (some ⟨b1, 0, none⟩) A c1), (.int .i64 ((pAt ps 2).W)), (.int .i64 ((pAt ps 2).H)), (.slice (some ⟨b2, 0, none⟩) A c2)] ++ (pcs (rs.map Nq.pn) ++ xsp), 43, true⟩], [⟨b0, (trL (fun k => (trF f ps k).1) (pAt ps 0).xs (k + 1)).map u32 ++ s0, 28, true⟩], [⟨b1, (trL (fun k => (trF f ps k).2.1) (pAt ps 1).xs (k + 1)).map u32 ++ s1, 28, true⟩], [⟨b2, (trL (fun k => (trF f ps k).2.2) (pAt ps 2).xs (k + 1)).map u32 ++ s2, 28, true⟩], ((rs.map (Nq.blk 28)) ++ [])]) (idx := [0, 1, 2, 3, 4, 5, 6, 7]) 8 [] h rfl (by decide) rfl)
    refine GHs.cons rfl (Ex.wp (v := (.int .u32 (((pAt ps 2).xs.getD k 0)))) (Ex.load rfl T.ag28 (i := 6) rfl (trL_at _ _ k _ (by omega))) (by decide)) (fun _ => (ulC (ulC (ulC (ulC (ulS (ulS (ulS ulR)))))))) (fun _ _ => ?_) ?_
    ·refine GH.one 14 rfl (by kernel_rfl) (Ex.wp (v := (.int .u32 (((pAt ps 1).xs.getD k 0)))) (Ex.load rfl T.ag28 (i := 5) rfl (trL_at _ _ k _ (by omega))) (by decide)) (fun _ => (ulC (ulC (ulC (ulC (ulS (ulS (ulS ulR)))))))) (fun _ _ => ?_)
     refine GH.one 19 rfl (by kernel_rfl) (Stp.callR (vs := [(.int .u32 (((pAt ps 0).xs.getD k 0))), (.int .u32 (((pAt ps 1).xs.getD k 0))), (.int .u32 (((pAt ps 2).xs.getD k 0)))]) rfl rfl hf.1 (by decide) (fun wc hw => hf.2 _ (getD_mem (by omega)) _ (getD_mem (by omega)) _ (getD_mem (by omega)) wc hw.1)) (fun _ => (ulC (ulC (ulC (ulC (ulS (ulS (ulS ulR)))))))) (fun xq23 hq24 => ?_)
     refine GH.tk 20 (v := (.tuple #[(.int .u32 ((trF f ps k).1)), (.int .u32 ((trF f ps k).2.1)), (.int .u32 ((trF f ps k).2.2))])) rfl (by kernel_rfl) (fun _ _ _ h => h) (Ex.move rfl) (ulC (ulC (ulC (ulC (ulS (ulS (ulS ulR))))))) (by decide) ?_
     refine GH.tk 21 (v := (.int .u32 ((trF f ps k).1))) rfl (by kernel_rfl) (fun _ _ _ h => h) (Ex.extract rfl rfl) (ulC (ulC (ulC (ulC (ulS (ulS (ulS ulR))))))) (by decide) ?_
     refine GH.tk 22 (v := (.int .u32 ((trF f ps k).2.1))) rfl (by kernel_rfl) (fun _ _ _ h => h) (Ex.extract rfl rfl) (ulC (ulC (ulC (ulC (ulS (ulS (ulS ulR))))))) (by decide) ?_
     refine GH.tk 23 (v := (.int .u32 ((trF f ps k).2.2))) rfl (by kernel_rfl) (fun _ _ _ h => h) (Ex.extract rfl rfl) (ulC (ulC (ulC (ulC (ulS (ulS (ulS ulR))))))) (by decide) ?_
     refine GH.tk 24 (v := (.pointer (some ⟨b0, k, none⟩))) rfl (by kernel_rfl) (fun _ _ _ h => h) (Ex.cast (Ex.indexAddr rfl rfl Try.underlying41 T.sz28 (by omega) (by omega)) (by simp)) (ulC (ulC (ulC (ulC (ulS (ulS (ulS ulR))))))) (by decide) ?_
     refine GH.one 25 rfl (by kernel_rfl) (Stp.storeL (i := 4) (cs := (trL (fun k => (trF f ps k).1) (pAt ps 0).xs k).map u32 ++ s0) (vs := [(.int .u32 ((trF f ps k).1))]) (o := k) (L1 := (⟨bq5, [(.int .i64 sp), (.slice (some ⟨xb, 0, none⟩) n xc)], 25, true⟩ :: ⟨bq2, [(.int .i64 0), (.slice none 0 0)], 25, true⟩ :: ⟨bq1, [(.int .i64 sp), (.slice (some ⟨b, o, none⟩) n cap)], 25, true⟩ :: ⟨xb, [(.int .i64 ((pAt ps 0).W)), (.int .i64 ((pAt ps 0).H)), (.slice (some ⟨b0, 0, none⟩) A c0), (.int .i64 ((pAt ps 1).W)), (.int .i64 ((pAt ps 1).H)), (.slice (some ⟨b1, 0, none⟩) A c1), (.int .i64 ((pAt ps 2).W)), (.int .i64 ((pAt ps 2).H)), (.slice (some ⟨b2, 0, none⟩) A c2)] ++ (pcs (rs.map Nq.pn) ++ xsp), 43, true⟩ :: ⟨b0, (trL (fun k => (trF f ps k).1) (pAt ps 0).xs (k + 1)).map u32 ++ s0, 28, true⟩ :: ⟨b1, (trL (fun k => (trF f ps k).2.1) (pAt ps 1).xs k).map u32 ++ s1, 28, true⟩ :: ⟨b2, (trL (fun k => (trF f ps k).2.2) (pAt ps 2).xs k).map u32 ++ s2, 28, true⟩ :: (((rs.map (Nq.blk 28)) ++ []) ++ []))) rfl rfl rfl T.sz28 rfl (Nat.ble_eq_true_of_le (by rw [List.length_append, List.length_map, trL_len]; simp; omega)) rfl (by rw [show splice ((trL (fun k => (trF f ps k).1) (pAt ps 0).xs k).map u32 ++ s0) k [(.int .u32 ((trF f ps k).1))] = (trL (fun k => (trF f ps k).1) (pAt ps 0).xs (k + 1)).map u32 ++ s0 from trL_put (fun k => (trF f ps k).1) (pAt ps 0).xs k s0 (by omega)]; rfl)) (fun _ => (ulC (ulC (ulC (ulC (ulS (ulS (ulS ulR)))))))) (fun _ _ => ?_)
     refine GH.tk 26 (v := (.pointer (some ⟨b1, k, none⟩))) rfl (by kernel_rfl) (fun _ _ _ h => h) (Ex.cast (Ex.indexAddr rfl rfl Try.underlying41 T.sz28 (by omega) (by omega)) (by simp)) (ulC (ulC (ulC (ulC (ulS (ulS (ulS ulR))))))) (by decide) ?_
     refine GH.one 27 rfl (by kernel_rfl) (Stp.storeL (i := 5) (cs := (trL (fun k => (trF f ps k).2.1) (pAt ps 1).xs k).map u32 ++ s1) (vs := [(.int .u32 ((trF f ps k).2.1))]) (o := k) (L1 := (⟨bq5, [(.int .i64 sp), (.slice (some ⟨xb, 0, none⟩) n xc)], 25, true⟩ :: ⟨bq2, [(.int .i64 0), (.slice none 0 0)], 25, true⟩ :: ⟨bq1, [(.int .i64 sp), (.slice (some ⟨b, o, none⟩) n cap)], 25, true⟩ :: ⟨xb, [(.int .i64 ((pAt ps 0).W)), (.int .i64 ((pAt ps 0).H)), (.slice (some ⟨b0, 0, none⟩) A c0), (.int .i64 ((pAt ps 1).W)), (.int .i64 ((pAt ps 1).H)), (.slice (some ⟨b1, 0, none⟩) A c1), (.int .i64 ((pAt ps 2).W)), (.int .i64 ((pAt ps 2).H)), (.slice (some ⟨b2, 0, none⟩) A c2)] ++ (pcs (rs.map Nq.pn) ++ xsp), 43, true⟩ :: ⟨b0, (trL (fun k => (trF f ps k).1) (pAt ps 0).xs (k + 1)).map u32 ++ s0, 28, true⟩ :: ⟨b1, (trL (fun k => (trF f ps k).2.1) (pAt ps 1).xs (k + 1)).map u32 ++ s1, 28, true⟩ :: ⟨b2, (trL (fun k => (trF f ps k).2.2) (pAt ps 2).xs k).map u32 ++ s2, 28, true⟩ :: (((rs.map (Nq.blk 28)) ++ []) ++ []))) rfl rfl rfl T.sz28 rfl (Nat.ble_eq_true_of_le (by rw [List.length_append, List.length_map, trL_len]; simp; omega)) rfl (by rw [show splice ((trL (fun k => (trF f ps k).2.1) (pAt ps 1).xs k).map u32 ++ s1) k [(.int .u32 ((trF f ps k).2.1))] = (trL (fun k => (trF f ps k).2.1) (pAt ps 1).xs (k + 1)).map u32 ++ s1 from trL_put (fun k => (trF f ps k).2.1) (pAt ps 1).xs k s1 (by omega)]; rfl)) (fun _ => (ulC (ulC (ulC (ulC (ulS (ulS (ulS ulR)))))))) (fun _ _ => ?_)
     refine GH.tk 28 (v := (.pointer (some ⟨b2, k, none⟩))) rfl (by kernel_rfl) (fun _ _ _ h => h) (Ex.cast (Ex.indexAddr rfl rfl Try.underlying41 T.sz28 (by omega) (by omega)) (by simp)) (ulC (ulC (ulC (ulC (ulS (ulS (ulS ulR))))))) (by decide) ?_
     refine GH.done (by kernel_rfl) ?_
     refine GE.thenN ?_
     refine GE.tail rfl (Stp.storeL (i := 6) (cs := (trL (fun k => (trF f ps k).2.2) (pAt ps 2).xs k).map u32 ++ s2) (vs := [(.int .u32 ((trF f ps k).2.2))]) (o := k) (L1 := (⟨bq5, [(.int .i64 sp), (.slice (some ⟨xb, 0, none⟩) n xc)], 25, true⟩ :: ⟨bq2, [(.int .i64 0), (.slice none 0 0)], 25, true⟩ :: ⟨bq1, [(.int .i64 sp), (.slice (some ⟨b, o, none⟩) n cap)], 25, true⟩ :: ⟨xb, [(.int .i64 ((pAt ps 0).W)), (.int .i64 ((pAt ps 0).H)), (.slice (some ⟨b0, 0, none⟩) A c0), (.int .i64 ((pAt ps 1).W)), (.int .i64 ((pAt ps 1).H)), (.slice (some ⟨b1, 0, none⟩) A c1), (.int .i64 ((pAt ps 2).W)), (.int .i64 ((pAt ps 2).H)), (.slice (some ⟨b2, 0, none⟩) A c2)] ++ (pcs (rs.map Nq.pn) ++ xsp), 43, true⟩ :: ⟨b0, (trL (fun k => (trF f ps k).1) (pAt ps 0).xs (k + 1)).map u32 ++ s0, 28, true⟩ :: ⟨b1, (trL (fun k => (trF f ps k).2.1) (pAt ps 1).xs (k + 1)).map u32 ++ s1, 28, true⟩ :: ⟨b2, (trL (fun k => (trF f ps k).2.2) (pAt ps 2).xs (k + 1)).map u32 ++ s2, 28, true⟩ :: (((rs.map (Nq.blk 28)) ++ []) ++ []))) rfl rfl rfl T.sz28 rfl (Nat.ble_eq_true_of_le (by rw [List.length_append, List.length_map, trL_len]; simp; omega)) rfl (by rw [show splice ((trL (fun k => (trF f ps k).2.2) (pAt ps 2).xs k).map u32 ++ s2) k [(.int .u32 ((trF f ps k).2.2))] = (trL (fun k => (trF f ps k).2.2) (pAt ps 2).xs (k + 1)).map u32 ++ s2 from trL_put (fun k => (trF f ps k).2.2) (pAt ps 2).xs k s2 (by omega)]; rfl)) (fun _ _ => ?_)
     refine GE.thenN ?_
     exact St.hp (()) trivial ((sub_cons rfl ((sub_cons rfl ((sub_cons rfl ((sub_cons rfl ((sub_cons rfl ((sub_cons rfl ((sub_cons rfl ((sub_cons rfl ((sub_cons rfl ((sub_cons rfl ((sub_nil _)))))))))))))))))))))) (fun w h => by exact Hp.segsT (T := []) (A := [[⟨bq5, [(.int .i64 sp), (.slice (some ⟨xb, 0, none⟩) n xc)], 25, true⟩], [⟨bq2, [(.int .i64 0), (.slice none 0 0)], 25, true⟩], [⟨bq1, [(.int .i64 sp), (.slice (some ⟨b, o, none⟩) n cap)], 25, true⟩], [⟨xb, [(.int .i64 ((pAt ps 0).W)), (.int .i64 ((pAt ps 0).H)), (.slice (some ⟨b0, 0, none⟩) A c0), (.int .i64 ((pAt ps 1).W)), (.int .i64 ((pAt ps 1).H)), (.slice (some ⟨b1, 0, none⟩) A c1), (.int .i64 ((pAt ps 2).W)), (.int .i64 ((pAt ps 2).H)), (.slice (some ⟨b2, 0, none⟩) A c2)] ++ (pcs (rs.map Nq.pn) ++ xsp), 43, true⟩], [⟨b0, (trL (fun k => (trF f ps k).1) (pAt ps 0).xs (k + 1)).map u32 ++ s0, 28, true⟩], [⟨b1, (trL (fun k => (trF f ps k).2.1) (pAt ps 1).xs (k + 1)).map u32 ++ s1, 28, true⟩], [⟨b2, (trL (fun k => (trF f ps k).2.2) (pAt ps 2).xs (k + 1)).map u32 ++ s2, 28, true⟩], ((rs.map (Nq.blk 28)) ++ [])]) (idx := [0, 1, 2, 3, 4, 5, 6, 7]) 8 [] h rfl (by decide) rfl)
    exact GHs.nil
   refine GHs.cons rfl (Ex.wp (v := (.int .u32 (((pAt ps 1).xs.getD k 0)))) (Ex.load rfl T.ag28 (i := 5) rfl (trL_at _ _ k _ (by omega))) (by decide)) (fun _ => (ulC (ulC (ulC (ulC (ulS (ulS (ulS ulR)))))))) (fun _ _ => ?_) ?_
   ·refine GH.many (rs := [10, 18]) (by kernel_rfl) (by simp) ?_
    refine GHs.cons rfl (Ex.wp (v := (.int .u32 (((pAt ps 0).xs.getD k 0)))) (Ex.load rfl T.ag28 (i := 4) rfl (trL_at _ _ k _ (by omega))) (by decide)) (fun _ => (ulC (ulC (ulC (ulC (ulS (ulS (ulS ulR)))))))) (fun _ _ => ?_) ?_
    ·refine GH.one 18 rfl (by kernel_rfl) (Ex.wp (v := (.int .u32 (((pAt ps 2).xs.getD k 0)))) (Ex.load rfl T.ag28 (i := 6) rfl (trL_at _ _ k _ (by omega))) (by decide)) (fun _ => (ulC (ulC (ulC (ulC (ulS (ulS (ulS ulR)))))))) (fun _ _ => ?_)
     refine GH.one 19 rfl (by kernel_rfl) (Stp.callR (vs := [(.int .u32 (((pAt ps 0).xs.getD k 0))), (.int .u32 (((pAt ps 1).xs.getD k 0))), (.int .u32 (((pAt ps 2).xs.getD k 0)))]) rfl rfl hf.1 (by decide) (fun wc hw => hf.2 _ (getD_mem (by omega)) _ (getD_mem (by omega)) _ (getD_mem (by omega)) wc hw.1)) (fun _ => (ulC (ulC (ulC (ulC (ulS (ulS (ulS ulR)))))))) (fun xq25 hq26 => ?_)
     refine GH.tk 20 (v := (.tuple #[(.int .u32 ((trF f ps k).1)), (.int .u32 ((trF f ps k).2.1)), (.int .u32 ((trF f ps k).2.2))])) rfl (by kernel_rfl) (fun _ _ _ h => h) (Ex.move rfl) (ulC (ulC (ulC (ulC (ulS (ulS (ulS ulR))))))) (by decide) ?_
     refine GH.tk 21 (v := (.int .u32 ((trF f ps k).1))) rfl (by kernel_rfl) (fun _ _ _ h => h) (Ex.extract rfl rfl) (ulC (ulC (ulC (ulC (ulS (ulS (ulS ulR))))))) (by decide) ?_
     refine GH.tk 22 (v := (.int .u32 ((trF f ps k).2.1))) rfl (by kernel_rfl) (fun _ _ _ h => h) (Ex.extract rfl rfl) (ulC (ulC (ulC (ulC (ulS (ulS (ulS ulR))))))) (by decide) ?_
     refine GH.tk 23 (v := (.int .u32 ((trF f ps k).2.2))) rfl (by kernel_rfl) (fun _ _ _ h => h) (Ex.extract rfl rfl) (ulC (ulC (ulC (ulC (ulS (ulS (ulS ulR))))))) (by decide) ?_
     refine GH.tk 24 (v := (.pointer (some ⟨b0, k, none⟩))) rfl (by kernel_rfl) (fun _ _ _ h => h) (Ex.cast (Ex.indexAddr rfl rfl Try.underlying41 T.sz28 (by omega) (by omega)) (by simp)) (ulC (ulC (ulC (ulC (ulS (ulS (ulS ulR))))))) (by decide) ?_
     refine GH.one 25 rfl (by kernel_rfl) (Stp.storeL (i := 4) (cs := (trL (fun k => (trF f ps k).1) (pAt ps 0).xs k).map u32 ++ s0) (vs := [(.int .u32 ((trF f ps k).1))]) (o := k) (L1 := (⟨bq5, [(.int .i64 sp), (.slice (some ⟨xb, 0, none⟩) n xc)], 25, true⟩ :: ⟨bq2, [(.int .i64 0), (.slice none 0 0)], 25, true⟩ :: ⟨bq1, [(.int .i64 sp), (.slice (some ⟨b, o, none⟩) n cap)], 25, true⟩ :: ⟨xb, [(.int .i64 ((pAt ps 0).W)), (.int .i64 ((pAt ps 0).H)), (.slice (some ⟨b0, 0, none⟩) A c0), (.int .i64 ((pAt ps 1).W)), (.int .i64 ((pAt ps 1).H)), (.slice (some ⟨b1, 0, none⟩) A c1), (.int .i64 ((pAt ps 2).W)), (.int .i64 ((pAt ps 2).H)), (.slice (some ⟨b2, 0, none⟩) A c2)] ++ (pcs (rs.map Nq.pn) ++ xsp), 43, true⟩ :: ⟨b0, (trL (fun k => (trF f ps k).1) (pAt ps 0).xs (k + 1)).map u32 ++ s0, 28, true⟩ :: ⟨b1, (trL (fun k => (trF f ps k).2.1) (pAt ps 1).xs k).map u32 ++ s1, 28, true⟩ :: ⟨b2, (trL (fun k => (trF f ps k).2.2) (pAt ps 2).xs k).map u32 ++ s2, 28, true⟩ :: (((rs.map (Nq.blk 28)) ++ []) ++ []))) rfl rfl rfl T.sz28 rfl (Nat.ble_eq_true_of_le (by rw [List.length_append, List.length_map, trL_len]; simp; omega)) rfl (by rw [show splice ((trL (fun k => (trF f ps k).1) (pAt ps 0).xs k).map u32 ++ s0) k [(.int .u32 ((trF f ps k).1))] = (trL (fun k => (trF f ps k).1) (pAt ps 0).xs (k + 1)).map u32 ++ s0 from trL_put (fun k => (trF f ps k).1) (pAt ps 0).xs k s0 (by omega)]; rfl)) (fun _ => (ulC (ulC (ulC (ulC (ulS (ulS (ulS ulR)))))))) (fun _ _ => ?_)
     refine GH.tk 26 (v := (.pointer (some ⟨b1, k, none⟩))) rfl (by kernel_rfl) (fun _ _ _ h => h) (Ex.cast (Ex.indexAddr rfl rfl Try.underlying41 T.sz28 (by omega) (by omega)) (by simp)) (ulC (ulC (ulC (ulC (ulS (ulS (ulS ulR))))))) (by decide) ?_
     refine GH.one 27 rfl (by kernel_rfl) (Stp.storeL (i := 5) (cs := (trL (fun k => (trF f ps k).2.1) (pAt ps 1).xs k).map u32 ++ s1) (vs := [(.int .u32 ((trF f ps k).2.1))]) (o := k) (L1 := (⟨bq5, [(.int .i64 sp), (.slice (some ⟨xb, 0, none⟩) n xc)], 25, true⟩ :: ⟨bq2, [(.int .i64 0), (.slice none 0 0)], 25, true⟩ :: ⟨bq1, [(.int .i64 sp), (.slice (some ⟨b, o, none⟩) n cap)], 25, true⟩ :: ⟨xb, [(.int .i64 ((pAt ps 0).W)), (.int .i64 ((pAt ps 0).H)), (.slice (some ⟨b0, 0, none⟩) A c0), (.int .i64 ((pAt ps 1).W)), (.int .i64 ((pAt ps 1).H)), (.slice (some ⟨b1, 0, none⟩) A c1), (.int .i64 ((pAt ps 2).W)), (.int .i64 ((pAt ps 2).H)), (.slice (some ⟨b2, 0, none⟩) A c2)] ++ (pcs (rs.map Nq.pn) ++ xsp), 43, true⟩ :: ⟨b0, (trL (fun k => (trF f ps k).1) (pAt ps 0).xs (k + 1)).map u32 ++ s0, 28, true⟩ :: ⟨b1, (trL (fun k => (trF f ps k).2.1) (pAt ps 1).xs (k + 1)).map u32 ++ s1, 28, true⟩ :: ⟨b2, (trL (fun k => (trF f ps k).2.2) (pAt ps 2).xs k).map u32 ++ s2, 28, true⟩ :: (((rs.map (Nq.blk 28)) ++ []) ++ []))) rfl rfl rfl T.sz28 rfl (Nat.ble_eq_true_of_le (by rw [List.length_append, List.length_map, trL_len]; simp; omega)) rfl (by rw [show splice ((trL (fun k => (trF f ps k).2.1) (pAt ps 1).xs k).map u32 ++ s1) k [(.int .u32 ((trF f ps k).2.1))] = (trL (fun k => (trF f ps k).2.1) (pAt ps 1).xs (k + 1)).map u32 ++ s1 from trL_put (fun k => (trF f ps k).2.1) (pAt ps 1).xs k s1 (by omega)]; rfl)) (fun _ => (ulC (ulC (ulC (ulC (ulS (ulS (ulS ulR)))))))) (fun _ _ => ?_)
     refine GH.tk 28 (v := (.pointer (some ⟨b2, k, none⟩))) rfl (by kernel_rfl) (fun _ _ _ h => h) (Ex.cast (Ex.indexAddr rfl rfl Try.underlying41 T.sz28 (by omega) (by omega)) (by simp)) (ulC (ulC (ulC (ulC (ulS (ulS (ulS ulR))))))) (by decide) ?_
     refine GH.done (by kernel_rfl) ?_
     refine GE.thenN ?_
     refine GE.tail rfl (Stp.storeL (i := 6) (cs := (trL (fun k => (trF f ps k).2.2) (pAt ps 2).xs k).map u32 ++ s2) (vs := [(.int .u32 ((trF f ps k).2.2))]) (o := k) (L1 := (⟨bq5, [(.int .i64 sp), (.slice (some ⟨xb, 0, none⟩) n xc)], 25, true⟩ :: ⟨bq2, [(.int .i64 0), (.slice none 0 0)], 25, true⟩ :: ⟨bq1, [(.int .i64 sp), (.slice (some ⟨b, o, none⟩) n cap)], 25, true⟩ :: ⟨xb, [(.int .i64 ((pAt ps 0).W)), (.int .i64 ((pAt ps 0).H)), (.slice (some ⟨b0, 0, none⟩) A c0), (.int .i64 ((pAt ps 1).W)), (.int .i64 ((pAt ps 1).H)), (.slice (some ⟨b1, 0, none⟩) A c1), (.int .i64 ((pAt ps 2).W)), (.int .i64 ((pAt ps 2).H)), (.slice (some ⟨b2, 0, none⟩) A c2)] ++ (pcs (rs.map Nq.pn) ++ xsp), 43, true⟩ :: ⟨b0, (trL (fun k => (trF f ps k).1) (pAt ps 0).xs (k + 1)).map u32 ++ s0, 28, true⟩ :: ⟨b1, (trL (fun k => (trF f ps k).2.1) (pAt ps 1).xs (k + 1)).map u32 ++ s1, 28, true⟩ :: ⟨b2, (trL (fun k => (trF f ps k).2.2) (pAt ps 2).xs (k + 1)).map u32 ++ s2, 28, true⟩ :: (((rs.map (Nq.blk 28)) ++ []) ++ []))) rfl rfl rfl T.sz28 rfl (Nat.ble_eq_true_of_le (by rw [List.length_append, List.length_map, trL_len]; simp; omega)) rfl (by rw [show splice ((trL (fun k => (trF f ps k).2.2) (pAt ps 2).xs k).map u32 ++ s2) k [(.int .u32 ((trF f ps k).2.2))] = (trL (fun k => (trF f ps k).2.2) (pAt ps 2).xs (k + 1)).map u32 ++ s2 from trL_put (fun k => (trF f ps k).2.2) (pAt ps 2).xs k s2 (by omega)]; rfl)) (fun _ _ => ?_)
     refine GE.thenN ?_
     exact St.hp (()) trivial ((sub_cons rfl ((sub_cons rfl ((sub_cons rfl ((sub_cons rfl ((sub_cons rfl ((sub_cons rfl ((sub_cons rfl ((sub_cons rfl ((sub_cons rfl ((sub_cons rfl ((sub_nil _)))))))))))))))))))))) (fun w h => by exact Hp.segsT (T := []) (A := [[⟨bq5, [(.int .i64 sp), (.slice (some ⟨xb, 0, none⟩) n xc)], 25, true⟩], [⟨bq2, [(.int .i64 0), (.slice none 0 0)], 25, true⟩], [⟨bq1, [(.int .i64 sp), (.slice (some ⟨b, o, none⟩) n cap)], 25, true⟩], [⟨xb, [(.int .i64 ((pAt ps 0).W)), (.int .i64 ((pAt ps 0).H)), (.slice (some ⟨b0, 0, none⟩) A c0), (.int .i64 ((pAt ps 1).W)), (.int .i64 ((pAt ps 1).H)), (.slice (some ⟨b1, 0, none⟩) A c1), (.int .i64 ((pAt ps 2).W)), (.int .i64 ((pAt ps 2).H)), (.slice (some ⟨b2, 0, none⟩) A c2)] ++ (pcs (rs.map Nq.pn) ++ xsp), 43, true⟩], [⟨b0, (trL (fun k => (trF f ps k).1) (pAt ps 0).xs (k + 1)).map u32 ++ s0, 28, true⟩], [⟨b1, (trL (fun k => (trF f ps k).2.1) (pAt ps 1).xs (k + 1)).map u32 ++ s1, 28, true⟩], [⟨b2, (trL (fun k => (trF f ps k).2.2) (pAt ps 2).xs (k + 1)).map u32 ++ s2, 28, true⟩], ((rs.map (Nq.blk 28)) ++ [])]) (idx := [0, 1, 2, 3, 4, 5, 6, 7]) 8 [] h rfl (by decide) rfl)
    refine GHs.cons rfl (Ex.wp (v := (.int .u32 (((pAt ps 2).xs.getD k 0)))) (Ex.load rfl T.ag28 (i := 6) rfl (trL_at _ _ k _ (by omega))) (by decide)) (fun _ => (ulC (ulC (ulC (ulC (ulS (ulS (ulS ulR)))))))) (fun _ _ => ?_) ?_
    ·refine GH.one 10 rfl (by kernel_rfl) (Ex.wp (v := (.int .u32 (((pAt ps 0).xs.getD k 0)))) (Ex.load rfl T.ag28 (i := 4) rfl (trL_at _ _ k _ (by omega))) (by decide)) (fun _ => (ulC (ulC (ulC (ulC (ulS (ulS (ulS ulR)))))))) (fun _ _ => ?_)
     refine GH.one 19 rfl (by kernel_rfl) (Stp.callR (vs := [(.int .u32 (((pAt ps 0).xs.getD k 0))), (.int .u32 (((pAt ps 1).xs.getD k 0))), (.int .u32 (((pAt ps 2).xs.getD k 0)))]) rfl rfl hf.1 (by decide) (fun wc hw => hf.2 _ (getD_mem (by omega)) _ (getD_mem (by omega)) _ (getD_mem (by omega)) wc hw.1)) (fun _ => (ulC (ulC (ulC (ulC (ulS (ulS (ulS ulR)))))))) (fun xq27 hq28 => ?_)
     refine GH.tk 20 (v := (.tuple #[(.int .u32 ((trF f ps k).1)), (.int .u32 ((trF f ps k).2.1)), (.int .u32 ((trF f ps k).2.2))])) rfl (by kernel_rfl) (fun _ _ _ h => h) (Ex.move rfl) (ulC (ulC (ulC (ulC (ulS (ulS (ulS ulR))))))) (by decide) ?_
     refine GH.tk 21 (v := (.int .u32 ((trF f ps k).1))) rfl (by kernel_rfl) (fun _ _ _ h => h) (Ex.extract rfl rfl) (ulC (ulC (ulC (ulC (ulS (ulS (ulS ulR))))))) (by decide) ?_
     refine GH.tk 22 (v := (.int .u32 ((trF f ps k).2.1))) rfl (by kernel_rfl) (fun _ _ _ h => h) (Ex.extract rfl rfl) (ulC (ulC (ulC (ulC (ulS (ulS (ulS ulR))))))) (by decide) ?_
     refine GH.tk 23 (v := (.int .u32 ((trF f ps k).2.2))) rfl (by kernel_rfl) (fun _ _ _ h => h) (Ex.extract rfl rfl) (ulC (ulC (ulC (ulC (ulS (ulS (ulS ulR))))))) (by decide) ?_
     refine GH.tk 24 (v := (.pointer (some ⟨b0, k, none⟩))) rfl (by kernel_rfl) (fun _ _ _ h => h) (Ex.cast (Ex.indexAddr rfl rfl Try.underlying41 T.sz28 (by omega) (by omega)) (by simp)) (ulC (ulC (ulC (ulC (ulS (ulS (ulS ulR))))))) (by decide) ?_
     refine GH.one 25 rfl (by kernel_rfl) (Stp.storeL (i := 4) (cs := (trL (fun k => (trF f ps k).1) (pAt ps 0).xs k).map u32 ++ s0) (vs := [(.int .u32 ((trF f ps k).1))]) (o := k) (L1 := (⟨bq5, [(.int .i64 sp), (.slice (some ⟨xb, 0, none⟩) n xc)], 25, true⟩ :: ⟨bq2, [(.int .i64 0), (.slice none 0 0)], 25, true⟩ :: ⟨bq1, [(.int .i64 sp), (.slice (some ⟨b, o, none⟩) n cap)], 25, true⟩ :: ⟨xb, [(.int .i64 ((pAt ps 0).W)), (.int .i64 ((pAt ps 0).H)), (.slice (some ⟨b0, 0, none⟩) A c0), (.int .i64 ((pAt ps 1).W)), (.int .i64 ((pAt ps 1).H)), (.slice (some ⟨b1, 0, none⟩) A c1), (.int .i64 ((pAt ps 2).W)), (.int .i64 ((pAt ps 2).H)), (.slice (some ⟨b2, 0, none⟩) A c2)] ++ (pcs (rs.map Nq.pn) ++ xsp), 43, true⟩ :: ⟨b0, (trL (fun k => (trF f ps k).1) (pAt ps 0).xs (k + 1)).map u32 ++ s0, 28, true⟩ :: ⟨b1, (trL (fun k => (trF f ps k).2.1) (pAt ps 1).xs k).map u32 ++ s1, 28, true⟩ :: ⟨b2, (trL (fun k => (trF f ps k).2.2) (pAt ps 2).xs k).map u32 ++ s2, 28, true⟩ :: (((rs.map (Nq.blk 28)) ++ []) ++ []))) rfl rfl rfl T.sz28 rfl (Nat.ble_eq_true_of_le (by rw [List.length_append, List.length_map, trL_len]; simp; omega)) rfl (by rw [show splice ((trL (fun k => (trF f ps k).1) (pAt ps 0).xs k).map u32 ++ s0) k [(.int .u32 ((trF f ps k).1))] = (trL (fun k => (trF f ps k).1) (pAt ps 0).xs (k + 1)).map u32 ++ s0 from trL_put (fun k => (trF f ps k).1) (pAt ps 0).xs k s0 (by omega)]; rfl)) (fun _ => (ulC (ulC (ulC (ulC (ulS (ulS (ulS ulR)))))))) (fun _ _ => ?_)
     refine GH.tk 26 (v := (.pointer (some ⟨b1, k, none⟩))) rfl (by kernel_rfl) (fun _ _ _ h => h) (Ex.cast (Ex.indexAddr rfl rfl Try.underlying41 T.sz28 (by omega) (by omega)) (by simp)) (ulC (ulC (ulC (ulC (ulS (ulS (ulS ulR))))))) (by decide) ?_
     refine GH.one 27 rfl (by kernel_rfl) (Stp.storeL (i := 5) (cs := (trL (fun k => (trF f ps k).2.1) (pAt ps 1).xs k).map u32 ++ s1) (vs := [(.int .u32 ((trF f ps k).2.1))]) (o := k) (L1 := (⟨bq5, [(.int .i64 sp), (.slice (some ⟨xb, 0, none⟩) n xc)], 25, true⟩ :: ⟨bq2, [(.int .i64 0), (.slice none 0 0)], 25, true⟩ :: ⟨bq1, [(.int .i64 sp), (.slice (some ⟨b, o, none⟩) n cap)], 25, true⟩ :: ⟨xb, [(.int .i64 ((pAt ps 0).W)), (.int .i64 ((pAt ps 0).H)), (.slice (some ⟨b0, 0, none⟩) A c0), (.int .i64 ((pAt ps 1).W)), (.int .i64 ((pAt ps 1).H)), (.slice (some ⟨b1, 0, none⟩) A c1), (.int .i64 ((pAt ps 2).W)), (.int .i64 ((pAt ps 2).H)), (.slice (some ⟨b2, 0, none⟩) A c2)] ++ (pcs (rs.map Nq.pn) ++ xsp), 43, true⟩ :: ⟨b0, (trL (fun k => (trF f ps k).1) (pAt ps 0).xs (k + 1)).map u32 ++ s0, 28, true⟩ :: ⟨b1, (trL (fun k => (trF f ps k).2.1) (pAt ps 1).xs (k + 1)).map u32 ++ s1, 28, true⟩ :: ⟨b2, (trL (fun k => (trF f ps k).2.2) (pAt ps 2).xs k).map u32 ++ s2, 28, true⟩ :: (((rs.map (Nq.blk 28)) ++ []) ++ []))) rfl rfl rfl T.sz28 rfl (Nat.ble_eq_true_of_le (by rw [List.length_append, List.length_map, trL_len]; simp; omega)) rfl (by rw [show splice ((trL (fun k => (trF f ps k).2.1) (pAt ps 1).xs k).map u32 ++ s1) k [(.int .u32 ((trF f ps k).2.1))] = (trL (fun k => (trF f ps k).2.1) (pAt ps 1).xs (k + 1)).map u32 ++ s1 from trL_put (fun k => (trF f ps k).2.1) (pAt ps 1).xs k s1 (by omega)]; rfl)) (fun _ => (ulC (ulC (ulC (ulC (ulS (ulS (ulS ulR)))))))) (fun _ _ => ?_)
     refine GH.tk 28 (v := (.pointer (some ⟨b2, k, none⟩))) rfl (by kernel_rfl) (fun _ _ _ h => h) (Ex.cast (Ex.indexAddr rfl rfl Try.underlying41 T.sz28 (by omega) (by omega)) (by simp)) (ulC (ulC (ulC (ulC (ulS (ulS (ulS ulR))))))) (by decide) ?_
     refine GH.done (by kernel_rfl) ?_
     refine GE.thenN ?_
     refine GE.tail rfl (Stp.storeL (i := 6) (cs := (trL (fun k => (trF f ps k).2.2) (pAt ps 2).xs k).map u32 ++ s2) (vs := [(.int .u32 ((trF f ps k).2.2))]) (o := k) (L1 := (⟨bq5, [(.int .i64 sp), (.slice (some ⟨xb, 0, none⟩) n xc)], 25, true⟩ :: ⟨bq2, [(.int .i64 0), (.slice none 0 0)], 25, true⟩ :: ⟨bq1, [(.int .i64 sp), (.slice (some ⟨b, o, none⟩) n cap)], 25, true⟩ :: ⟨xb, [(.int .i64 ((pAt ps 0).W)), (.int .i64 ((pAt ps 0).H)), (.slice (some ⟨b0, 0, none⟩) A c0), (.int .i64 ((pAt ps 1).W)), (.int .i64 ((pAt ps 1).H)), (.slice (some ⟨b1, 0, none⟩) A c1), (.int .i64 ((pAt ps 2).W)), (.int .i64 ((pAt ps 2).H)), (.slice (some ⟨b2, 0, none⟩) A c2)] ++ (pcs (rs.map Nq.pn) ++ xsp), 43, true⟩ :: ⟨b0, (trL (fun k => (trF f ps k).1) (pAt ps 0).xs (k + 1)).map u32 ++ s0, 28, true⟩ :: ⟨b1, (trL (fun k => (trF f ps k).2.1) (pAt ps 1).xs (k + 1)).map u32 ++ s1, 28, true⟩ :: ⟨b2, (trL (fun k => (trF f ps k).2.2) (pAt ps 2).xs (k + 1)).map u32 ++ s2, 28, true⟩ :: (((rs.map (Nq.blk 28)) ++ []) ++ []))) rfl rfl rfl T.sz28 rfl (Nat.ble_eq_true_of_le (by rw [List.length_append, List.length_map, trL_len]; simp; omega)) rfl (by rw [show splice ((trL (fun k => (trF f ps k).2.2) (pAt ps 2).xs k).map u32 ++ s2) k [(.int .u32 ((trF f ps k).2.2))] = (trL (fun k => (trF f ps k).2.2) (pAt ps 2).xs (k + 1)).map u32 ++ s2 from trL_put (fun k => (trF f ps k).2.2) (pAt ps 2).xs k s2 (by omega)]; rfl)) (fun _ _ => ?_)
     refine GE.thenN ?_
     exact St.hp (()) trivial ((sub_cons rfl ((sub_cons rfl ((sub_cons rfl ((sub_cons rfl ((sub_cons rfl ((sub_cons rfl ((sub_cons rfl ((sub_cons rfl ((sub_cons rfl ((sub_cons rfl ((sub_nil _)))))))))))))))))))))) (fun w h => by exact Hp.segsT (T := []) (A := [[⟨bq5, [(.int .i64 sp), (.slice (some ⟨xb, 0, none⟩) n xc)], 25, true⟩], [⟨bq2, [(.int .i64 0), (.slice none 0 0)], 25, true⟩], [⟨bq1, [(.int .i64 sp), (.slice (some ⟨b, o, none⟩) n cap)], 25, true⟩], [⟨xb, [(.int .i64 ((pAt ps 0).W)), (.int .i64 ((pAt ps 0).H)), (.slice (some ⟨b0, 0, none⟩) A c0), (.int .i64 ((pAt ps 1).W)), (.int .i64 ((pAt ps 1).H)), (.slice (some ⟨b1, 0, none⟩) A c1), (.int .i64 ((pAt ps 2).W)), (.int .i64 ((pAt ps 2).H)), (.slice (some ⟨b2, 0, none⟩) A c2)] ++ (pcs (rs.map Nq.pn) ++ xsp), 43, true⟩], [⟨b0, (trL (fun k => (trF f ps k).1) (pAt ps 0).xs (k + 1)).map u32 ++ s0, 28, true⟩], [⟨b1, (trL (fun k => (trF f ps k).2.1) (pAt ps 1).xs (k + 1)).map u32 ++ s1, 28, true⟩], [⟨b2, (trL (fun k => (trF f ps k).2.2) (pAt ps 2).xs (k + 1)).map u32 ++ s2, 28, true⟩], ((rs.map (Nq.blk 28)) ++ [])]) (idx := [0, 1, 2, 3, 4, 5, 6, 7]) 8 [] h rfl (by decide) rfl)
    exact GHs.nil
   refine GHs.cons rfl (Ex.wp (v := (.int .u32 (((pAt ps 2).xs.getD k 0)))) (Ex.load rfl T.ag28 (i := 6) rfl (trL_at _ _ k _ (by omega))) (by decide)) (fun _ => (ulC (ulC (ulC (ulC (ulS (ulS (ulS ulR)))))))) (fun _ _ => ?_) ?_
   ·refine GH.many (rs := [10, 14]) (by kernel_rfl) (by simp) ?_
    refine GHs.cons rfl (Ex.wp (v := (.int .u32 (((pAt ps 0).xs.getD k 0)))) (Ex.load rfl T.ag28 (i := 4) rfl (trL_at _ _ k _ (by omega))) (by decide)) (fun _ => (ulC (ulC (ulC (ulC (ulS (ulS (ulS ulR)))))))) (fun _ _ => ?_) ?_
    ·refine GH.one 14 rfl (by kernel_rfl) (Ex.wp (v := (.int .u32 (((pAt ps 1).xs.getD k 0)))) (Ex.load rfl T.ag28 (i := 5) rfl (trL_at _ _ k _ (by omega))) (by decide)) (fun _ => (ulC (ulC (ulC (ulC (ulS (ulS (ulS ulR)))))))) (fun _ _ => ?_)
     refine GH.one 19 rfl (by kernel_rfl) (Stp.callR (vs := [(.int .u32 (((pAt ps 0).xs.getD k 0))), (.int .u32 (((pAt ps 1).xs.getD k 0))), (.int .u32 (((pAt ps 2).xs.getD k 0)))]) rfl rfl hf.1 (by decide) (fun wc hw => hf.2 _ (getD_mem (by omega)) _ (getD_mem (by omega)) _ (getD_mem (by omega)) wc hw.1)) (fun _ => (ulC (ulC (ulC (ulC (ulS (ulS (ulS ulR)))))))) (fun xq29 hq30 => ?_)
     refine GH.tk 20 (v := (.tuple #[(.int .u32 ((trF f ps k).1)), (.int .u32 ((trF f ps k).2.1)), (.int .u32 ((trF f ps k).2.2))])) rfl (by kernel_rfl) (fun _ _ _ h => h) (Ex.move rfl) (ulC (ulC (ulC (ulC (ulS (ulS (ulS ulR))))))) (by decide) ?_
     refine GH.tk 21 (v := (.int .u32 ((trF f ps k).1))) rfl (by kernel_rfl) (fun _ _ _ h => h) (Ex.extract rfl rfl) (ulC (ulC (ulC (ulC (ulS (ulS (ulS ulR))))))) (by decide) ?_
     refine GH.tk 22 (v := (.int .u32 ((trF f ps k).2.1))) rfl (by kernel_rfl) (fun _ _ _ h => h) (Ex.extract rfl rfl) (ulC (ulC (ulC (ulC (ulS (ulS (ulS ulR))))))) (by decide) ?_
     refine GH.tk 23 (v := (.int .u32 ((trF f ps k).2.2))) rfl (by kernel_rfl) (fun _ _ _ h => h) (Ex.extract rfl rfl) (ulC (ulC (ulC (ulC (ulS (ulS (ulS ulR))))))) (by decide) ?_
     refine GH.tk 24 (v := (.pointer (some ⟨b0, k, none⟩))) rfl (by kernel_rfl) (fun _ _ _ h => h) (Ex.cast (Ex.indexAddr rfl rfl Try.underlying41 T.sz28 (by omega) (by omega)) (by simp)) (ulC (ulC (ulC (ulC (ulS (ulS (ulS ulR))))))) (by decide) ?_
     refine GH.one 25 rfl (by kernel_rfl) (Stp.storeL (i := 4) (cs := (trL (fun k => (trF f ps k).1) (pAt ps 0).xs k).map u32 ++ s0) (vs := [(.int .u32 ((trF f ps k).1))]) (o := k) (L1 := (⟨bq5, [(.int .i64 sp), (.slice (some ⟨xb, 0, none⟩) n xc)], 25, true⟩ :: ⟨bq2, [(.int .i64 0), (.slice none 0 0)], 25, true⟩ :: ⟨bq1, [(.int .i64 sp), (.slice (some ⟨b, o, none⟩) n cap)], 25, true⟩ :: ⟨xb, [(.int .i64 ((pAt ps 0).W)), (.int .i64 ((pAt ps 0).H)), (.slice (some ⟨b0, 0, none⟩) A c0), (.int .i64 ((pAt ps 1).W)), (.int .i64 ((pAt ps 1).H)), (.slice (some ⟨b1, 0, none⟩) A c1), (.int .i64 ((pAt ps 2).W)), (.int .i64 ((pAt ps 2).H)), (.slice (some ⟨b2, 0, none⟩) A c2)] ++ (pcs (rs.map Nq.pn) ++ xsp), 43, true⟩ :: ⟨b0, (trL (fun k => (trF f ps k).1) (pAt ps 0).xs (k + 1)).map u32 ++ s0, 28, true⟩ :: ⟨b1, (trL (fun k => (trF f ps k).2.1) (pAt ps 1).xs k).map u32 ++ s1, 28, true⟩ :: ⟨b2, (trL (fun k => (trF f ps k).2.2) (pAt ps 2).xs k).map u32 ++ s2, 28, true⟩ :: (((rs.map (Nq.blk 28)) ++ []) ++ []))) rfl rfl rfl T.sz28 rfl (Nat.ble_eq_true_of_le (by rw [List.length_append, List.length_map, trL_len]; simp; omega)) rfl (by rw [show splice ((trL (fun k => (trF f ps k).1) (pAt ps 0).xs k).map u32 ++ s0) k [(.int .u32 ((trF f ps k).1))] = (trL (fun k => (trF f ps k).1) (pAt ps 0).xs (k + 1)).map u32 ++ s0 from trL_put (fun k => (trF f ps k).1) (pAt ps 0).xs k s0 (by omega)]; rfl)) (fun _ => (ulC (ulC (ulC (ulC (ulS (ulS (ulS ulR)))))))) (fun _ _ => ?_)
     refine GH.tk 26 (v := (.pointer (some ⟨b1, k, none⟩))) rfl (by kernel_rfl) (fun _ _ _ h => h) (Ex.cast (Ex.indexAddr rfl rfl Try.underlying41 T.sz28 (by omega) (by omega)) (by simp)) (ulC (ulC (ulC (ulC (ulS (ulS (ulS ulR))))))) (by decide) ?_
     refine GH.one 27 rfl (by kernel_rfl) (Stp.storeL (i := 5) (cs := (trL (fun k => (trF f ps k).2.1) (pAt ps 1).xs k).map u32 ++ s1) (vs := [(.int .u32 ((trF f ps k).2.1))]) (o := k) (L1 := (⟨bq5, [(.int .i64 sp), (.slice (some ⟨xb, 0, none⟩) n xc)], 25, true⟩ :: ⟨bq2, [(.int .i64 0), (.slice none 0 0)], 25, true⟩ :: ⟨bq1, [(.int .i64 sp), (.slice (some ⟨b, o, none⟩) n cap)], 25, true⟩ :: ⟨xb, [(.int .i64 ((pAt ps 0).W)), (.int .i64 ((pAt ps 0).H)), (.slice (some ⟨b0, 0, none⟩) A c0), (.int .i64 ((pAt ps 1).W)), (.int .i64 ((pAt ps 1).H)), (.slice (some ⟨b1, 0, none⟩) A c1), (.int .i64 ((pAt ps 2).W)), (.int .i64 ((pAt ps 2).H)), (.slice (some ⟨b2, 0, none⟩) A c2)] ++ (pcs (rs.map Nq.pn) ++ xsp), 43, true⟩ :: ⟨b0, (trL (fun k => (trF f ps k).1) (pAt ps 0).xs (k + 1)).map u32 ++ s0, 28, true⟩ :: ⟨b1, (trL (fun k => (trF f ps k).2.1) (pAt ps 1).xs (k + 1)).map u32 ++ s1, 28, true⟩ :: ⟨b2, (trL (fun k => (trF f ps k).2.2) (pAt ps 2).xs k).map u32 ++ s2, 28, true⟩ :: (((rs.map (Nq.blk 28)) ++ []) ++ []))) rfl rfl rfl T.sz28 rfl (Nat.ble_eq_true_of_le (by rw [List.length_append, List.length_map, trL_len]; simp; omega)) rfl (by rw [show splice ((trL (fun k => (trF f ps k).2.1) (pAt ps 1).xs k).map u32 ++ s1) k [(.int .u32 ((trF f ps k).2.1))] = (trL (fun k => (trF f ps k).2.1) (pAt ps 1).xs (k + 1)).map u32 ++ s1 from trL_put (fun k => (trF f ps k).2.1) (pAt ps 1).xs k s1 (by omega)]; rfl)) (fun _ => (ulC (ulC (ulC (ulC (ulS (ulS (ulS ulR)))))))) (fun _ _ => ?_)
     refine GH.tk 28 (v := (.pointer (some ⟨b2, k, none⟩))) rfl (by kernel_rfl) (fun _ _ _ h => h) (Ex.cast (Ex.indexAddr rfl rfl Try.underlying41 T.sz28 (by omega) (by omega)) (by simp)) (ulC (ulC (ulC (ulC (ulS (ulS (ulS ulR))))))) (by decide) ?_
     refine GH.done (by kernel_rfl) ?_
     refine GE.thenN ?_
     refine GE.tail rfl (Stp.storeL (i := 6) (cs := (trL (fun k => (trF f ps k).2.2) (pAt ps 2).xs k).map u32 ++ s2) (vs := [(.int .u32 ((trF f ps k).2.2))]) (o := k) (L1 := (⟨bq5, [(.int .i64 sp), (.slice (some ⟨xb, 0, none⟩) n xc)], 25, true⟩ :: ⟨bq2, [(.int .i64 0), (.slice none 0 0)], 25, true⟩ :: ⟨bq1, [(.int .i64 sp), (.slice (some ⟨b, o, none⟩) n cap)], 25, true⟩ :: ⟨xb, [(.int .i64 ((pAt ps 0).W)), (.int .i64 ((pAt ps 0).H)), (.slice (some ⟨b0, 0, none⟩) A c0), (.int .i64 ((pAt ps 1).W)), (.int .i64 ((pAt ps 1).H)), (.slice (some ⟨b1, 0, none⟩) A c1), (.int .i64 ((pAt ps 2).W)), (.int .i64 ((pAt ps 2).H)), (.slice (some ⟨b2, 0, none⟩) A c2)] ++ (pcs (rs.map Nq.pn) ++ xsp), 43, true⟩ :: ⟨b0, (trL (fun k => (trF f ps k).1) (pAt ps 0).xs (k + 1)).map u32 ++ s0, 28, true⟩ :: ⟨b1, (trL (fun k => (trF f ps k).2.1) (pAt ps 1).xs (k + 1)).map u32 ++ s1, 28, true⟩ :: ⟨b2, (trL (fun k => (trF f ps k).2.2) (pAt ps 2).xs (k + 1)).map u32 ++ s2, 28, true⟩ :: (((rs.map (Nq.blk 28)) ++ []) ++ []))) rfl rfl rfl T.sz28 rfl (Nat.ble_eq_true_of_le (by rw [List.length_append, List.length_map, trL_len]; simp; omega)) rfl (by rw [show splice ((trL (fun k => (trF f ps k).2.2) (pAt ps 2).xs k).map u32 ++ s2) k [(.int .u32 ((trF f ps k).2.2))] = (trL (fun k => (trF f ps k).2.2) (pAt ps 2).xs (k + 1)).map u32 ++ s2 from trL_put (fun k => (trF f ps k).2.2) (pAt ps 2).xs k s2 (by omega)]; rfl)) (fun _ _ => ?_)
     refine GE.thenN ?_
     exact St.hp (()) trivial ((sub_cons rfl ((sub_cons rfl ((sub_cons rfl ((sub_cons rfl ((sub_cons rfl ((sub_cons rfl ((sub_cons rfl ((sub_cons rfl ((sub_cons rfl ((sub_cons rfl ((sub_nil _)))))))))))))))))))))) (fun w h => by exact Hp.segsT (T := []) (A := [[⟨bq5, [(.int .i64 sp), (.slice (some ⟨xb, 0, none⟩) n xc)], 25, true⟩], [⟨bq2, [(.int .i64 0), (.slice none 0 0)], 25, true⟩], [⟨bq1, [(.int .i64 sp), (.slice (some ⟨b, o, none⟩) n cap)], 25, true⟩], [⟨xb, [(.int .i64 ((pAt ps 0).W)), (.int .i64 ((pAt ps 0).H)), (.slice (some ⟨b0, 0, none⟩) A c0), (.int .i64 ((pAt ps 1).W)), (.int .i64 ((pAt ps 1).H)), (.slice (some ⟨b1, 0, none⟩) A c1), (.int .i64 ((pAt ps 2).W)), (.int .i64 ((pAt ps 2).H)), (.slice (some ⟨b2, 0, none⟩) A c2)] ++ (pcs (rs.map Nq.pn) ++ xsp), 43, true⟩], [⟨b0, (trL (fun k => (trF f ps k).1) (pAt ps 0).xs (k + 1)).map u32 ++ s0, 28, true⟩], [⟨b1, (trL (fun k => (trF f ps k).2.1) (pAt ps 1).xs (k + 1)).map u32 ++ s1, 28, true⟩], [⟨b2, (trL (fun k => (trF f ps k).2.2) (pAt ps 2).xs (k + 1)).map u32 ++ s2, 28, true⟩], ((rs.map (Nq.blk 28)) ++ [])]) (idx := [0, 1, 2, 3, 4, 5, 6, 7]) 8 [] h rfl (by decide) rfl)
    refine GHs.cons rfl (Ex.wp (v := (.int .u32 (((pAt ps 1).xs.getD k 0)))) (Ex.load rfl T.ag28 (i := 5) rfl (trL_at _ _ k _ (by omega))) (by decide)) (fun _ => (ulC (ulC (ulC (ulC (ulS (ulS (ulS ulR)))))))) (fun _ _ => ?_) ?_
    ·refine GH.one 10 rfl (by kernel_rfl) (Ex.wp (v := (.int .u32 (((pAt ps 0).xs.getD k 0)))) (Ex.load rfl T.ag28 (i := 4) rfl (trL_at _ _ k _ (by omega))) (by decide)) (fun _ => (ulC (ulC (ulC (ulC (ulS (ulS (ulS ulR)))))))) (fun _ _ => ?_)
     refine GH.one 19 rfl (by kernel_rfl) (Stp.callR (vs := [(.int .u32 (((pAt ps 0).xs.getD k 0))), (.int .u32 (((pAt ps 1).xs.getD k 0))), (.int .u32 (((pAt ps 2).xs.getD k 0)))]) rfl rfl hf.1 (by decide) (fun wc hw => hf.2 _ (getD_mem (by omega)) _ (getD_mem (by omega)) _ (getD_mem (by omega)) wc hw.1)) (fun _ => (ulC (ulC (ulC (ulC (ulS (ulS (ulS ulR)))))))) (fun xq31 hq32 => ?_)
     refine GH.tk 20 (v := (.tuple #[(.int .u32 ((trF f ps k).1)), (.int .u32 ((trF f ps k).2.1)), (.int .u32 ((trF f ps k).2.2))])) rfl (by kernel_rfl) (fun _ _ _ h => h) (Ex.move rfl) (ulC (ulC (ulC (ulC (ulS (ulS (ulS ulR))))))) (by decide) ?_
     refine GH.tk 21 (v := (.int .u32 ((trF f ps k).1))) rfl (by kernel_rfl) (fun _ _ _ h => h) (Ex.extract rfl rfl) (ulC (ulC (ulC (ulC (ulS (ulS (ulS ulR))))))) (by decide) ?_
     refine GH.tk 22 (v := (.int .u32 ((trF f ps k).2.1))) rfl (by kernel_rfl) (fun _ _ _ h => h) (Ex.extract rfl rfl) (ulC (ulC (ulC (ulC (ulS (ulS (ulS ulR))))))) (by decide) ?_
     refine GH.tk 23 (v := (.int .u32 ((trF f ps k).2.2))) rfl (by kernel_rfl) (fun _ _ _ h => h) (Ex.extract rfl rfl) (ulC (ulC (ulC (ulC (ulS (ulS (ulS ulR))))))) (by decide) ?_
     refine GH.tk 24 (v := (.pointer (some ⟨b0, k, none⟩))) rfl (by kernel_rfl) (fun _ _ _ h => h) (Ex.cast (Ex.indexAddr rfl rfl Try.underlying41 T.sz28 (by omega) (by omega)) (by simp)) (ulC (ulC (ulC (ulC (ulS (ulS (ulS ulR))))))) (by decide) ?_
     refine GH.one 25 rfl (by kernel_rfl) (Stp.storeL (i := 4) (cs := (trL (fun k => (trF f ps k).1) (pAt ps 0).xs k).map u32 ++ s0) (vs := [(.int .u32 ((trF f ps k).1))]) (o := k) (L1 := (⟨bq5, [(.int .i64 sp), (.slice (some ⟨xb, 0, none⟩) n xc)], 25, true⟩ :: ⟨bq2, [(.int .i64 0), (.slice none 0 0)], 25, true⟩ :: ⟨bq1, [(.int .i64 sp), (.slice (some ⟨b, o, none⟩) n cap)], 25, true⟩ :: ⟨xb, [(.int .i64 ((pAt ps 0).W)), (.int .i64 ((pAt ps 0).H)), (.slice (some ⟨b0, 0, none⟩) A c0), (.int .i64 ((pAt ps 1).W)), (.int .i64 ((pAt ps 1).H)), (.slice (some ⟨b1, 0, none⟩) A c1), (.int .i64 ((pAt ps 2).W)), (.int .i64 ((pAt ps 2).H)), (.slice (some ⟨b2, 0, none⟩) A c2)] ++ (pcs (rs.map Nq.pn) ++ xsp), 43, true⟩ :: ⟨b0, (trL (fun k => (trF f ps k).1) (pAt ps 0).xs (k + 1)).map u32 ++ s0, 28, true⟩ :: ⟨b1, (trL (fun k => (trF f ps k).2.1) (pAt ps 1).xs k).map u32 ++ s1, 28, true⟩ :: ⟨b2, (trL (fun k => (trF f ps k).2.2) (pAt ps 2).xs k).map u32 ++ s2, 28, true⟩ :: (((rs.map (Nq.blk 28)) ++ []) ++ []))) rfl rfl rfl T.sz28 rfl (Nat.ble_eq_true_of_le (by rw [List.length_append, List.length_map, trL_len]; simp; omega)) rfl (by rw [show splice ((trL (fun k => (trF f ps k).1) (pAt ps 0).xs k).map u32 ++ s0) k [(.int .u32 ((trF f ps k).1))] = (trL (fun k => (trF f ps k).1) (pAt ps 0).xs (k + 1)).map u32 ++ s0 from trL_put (fun k => (trF f ps k).1) (pAt ps 0).xs k s0 (by omega)]; rfl)) (fun _ => (ulC (ulC (ulC (ulC (ulS (ulS (ulS ulR)))))))) (fun _ _ => ?_)
     refine GH.tk 26 (v := (.pointer (some ⟨b1, k, none⟩))) rfl (by kernel_rfl) (fun _ _ _ h => h) (Ex.cast (Ex.indexAddr rfl rfl Try.underlying41 T.sz28 (by omega) (by omega)) (by simp)) (ulC (ulC (ulC (ulC (ulS (ulS (ulS ulR))))))) (by decide) ?_
     refine GH.one 27 rfl (by kernel_rfl) (Stp.storeL (i := 5) (cs := (trL (fun k => (trF f ps k).2.1) (pAt ps 1).xs k).map u32 ++ s1) (vs := [(.int .u32 ((trF f ps k).2.1))]) (o := k) (L1 := (⟨bq5, [(.int .i64 sp), (.slice (some ⟨xb, 0, none⟩) n xc)], 25, true⟩ :: ⟨bq2, [(.int .i64 0), (.slice none 0 0)], 25, true⟩ :: ⟨bq1, [(.int .i64 sp), (.slice (some ⟨b, o, none⟩) n cap)], 25, true⟩ :: ⟨xb, [(.int .i64 ((pAt ps 0).W)), (.int .i64 ((pAt ps 0).H)), (.slice (some ⟨b0, 0, none⟩) A c0), (.int .i64 ((pAt ps 1).W)), (.int .i64 ((pAt ps 1).H)), (.slice (some ⟨b1, 0, none⟩) A c1), (.int .i64 ((pAt ps 2).W)), (.int .i64 ((pAt ps 2).H)), (.slice (some ⟨b2, 0, none⟩) A c2)] ++ (pcs (rs.map Nq.pn) ++ xsp), 43, true⟩ :: ⟨b0, (trL (fun k => (trF f ps k).1) (pAt ps 0).xs (k + 1)).map u32 ++ s0, 28, true⟩ :: ⟨b1, (trL (fun k => (trF f ps k).2.1) (pAt ps 1).xs (k + 1)).map u32 ++ s1, 28, true⟩ :: ⟨b2, (trL (fun k => (trF f ps k).2.2) (pAt ps 2).xs k).map u32 ++ s2, 28, true⟩ :: (((rs.map (Nq.blk 28)) ++ []) ++ []))) rfl rfl rfl T.sz28 rfl (Nat.ble_eq_true_of_le (by rw [List.length_append, List.length_map, trL_len]; simp; omega)) rfl (by rw [show splice ((trL (fun k => (trF f ps k).2.1) (pAt ps 1).xs k).map u32 ++ s1) k [(.int .u32 ((trF f ps k).2.1))] = (trL (fun k => (trF f ps k).2.1) (pAt ps 1).xs (k + 1)).map u32 ++ s1 from trL_put (fun k => (trF f ps k).2.1) (pAt ps 1).xs k s1 (by omega)]; rfl)) (fun _ => (ulC (ulC (ulC (ulC (ulS (ulS (ulS ulR)))))))) (fun _ _ => ?_)
     refine GH.tk 28 (v := (.pointer (some ⟨b2, k, none⟩))) rfl (by kernel_rfl) (fun _ _ _ h => h) (Ex.cast (Ex.indexAddr rfl rfl Try.underlying41 T.sz28 (by omega) (by omega)) (by simp)) (ulC (ulC (ulC (ulC (ulS (ulS (ulS ulR))))))) (by decide) ?_
     refine GH.done (by kernel_rfl) ?_
     refine GE.thenN ?_
     refine GE.tail rfl (Stp.storeL (i := 6) (cs := (trL (fun k => (trF f ps k).2.2) (pAt ps 2).xs k).map u32 ++ s2) (vs := [(.int .u32 ((trF f ps k).2.2))]) (o := k) (L1 := (⟨bq5, [(.int .i64 sp), (.slice (some ⟨xb, 0, none⟩) n xc)], 25, true⟩ :: ⟨bq2, [(.int .i64 0), (.slice none 0 0)], 25, true⟩ :: ⟨bq1, [(.int .i64 sp), (.slice (some ⟨b, o, none⟩) n cap)], 25, true⟩ :: ⟨xb, [(.int .i64 ((pAt ps 0).W)), (.int .i64 ((pAt ps 0).H)), (.slice (some ⟨b0, 0, none⟩) A c0), (.int .i64 ((pAt ps 1).W)), (.int .i64 ((pAt ps 1).H)), (.slice (some ⟨b1, 0, none⟩) A c1), (.int .i64 ((pAt ps 2).W)), (.int .i64 ((pAt ps 2).H)), (.slice (some ⟨b2, 0, none⟩) A c2)] ++ (pcs (rs.map Nq.pn) ++ xsp), 43, true⟩ :: ⟨b0, (trL (fun k => (trF f ps k).1) (pAt ps 0).xs (k + 1)).map u32 ++ s0, 28, true⟩ :: ⟨b1, (trL (fun k => (trF f ps k).2.1) (pAt ps 1).xs (k + 1)).map u32 ++ s1, 28, true⟩ :: ⟨b2, (trL (fun k => (trF f ps k).2.2) (pAt ps 2).xs (k + 1)).map u32 ++ s2, 28, true⟩ :: (((rs.map (Nq.blk 28)) ++ []) ++ []))) rfl rfl rfl T.sz28 rfl (Nat.ble_eq_true_of_le (by rw [List.length_append, List.length_map, trL_len]; simp; omega)) rfl (by rw [show splice ((trL (fun k => (trF f ps k).2.2) (pAt ps 2).xs k).map u32 ++ s2) k [(.int .u32 ((trF f ps k).2.2))] = (trL (fun k => (trF f ps k).2.2) (pAt ps 2).xs (k + 1)).map u32 ++ s2 from trL_put (fun k => (trF f ps k).2.2) (pAt ps 2).xs k s2 (by omega)]; rfl)) (fun _ _ => ?_)
     refine GE.thenN ?_
     exact St.hp (()) trivial ((sub_cons rfl ((sub_cons rfl ((sub_cons rfl ((sub_cons rfl ((sub_cons rfl ((sub_cons rfl ((sub_cons rfl ((sub_cons rfl ((sub_cons rfl ((sub_cons rfl ((sub_nil _)))))))))))))))))))))) (fun w h => by exact Hp.segsT (T := []) (A := [[⟨bq5, [(.int .i64 sp), (.slice (some ⟨xb, 0, none⟩) n xc)], 25, true⟩], [⟨bq2, [(.int .i64 0), (.slice none 0 0)], 25, true⟩], [⟨bq1, [(.int .i64 sp), (.slice (some ⟨b, o, none⟩) n cap)], 25, true⟩], [⟨xb, [(.int .i64 ((pAt ps 0).W)), (.int .i64 ((pAt ps 0).H)), (.slice (some ⟨b0, 0, none⟩) A c0), (.int .i64 ((pAt ps 1).W)), (.int .i64 ((pAt ps 1).H)), (.slice (some ⟨b1, 0, none⟩) A c1), (.int .i64 ((pAt ps 2).W)), (.int .i64 ((pAt ps 2).H)), (.slice (some ⟨b2, 0, none⟩) A c2)] ++ (pcs (rs.map Nq.pn) ++ xsp), 43, true⟩], [⟨b0, (trL (fun k => (trF f ps k).1) (pAt ps 0).xs (k + 1)).map u32 ++ s0, 28, true⟩], [⟨b1, (trL (fun k => (trF f ps k).2.1) (pAt ps 1).xs (k + 1)).map u32 ++ s1, 28, true⟩], [⟨b2, (trL (fun k => (trF f ps k).2.2) (pAt ps 2).xs (k + 1)).map u32 ++ s2, 28, true⟩], ((rs.map (Nq.blk 28)) ++ [])]) (idx := [0, 1, 2, 3, 4, 5, 6, 7]) 8 [] h rfl (by decide) rfl)
    exact GHs.nil
   exact GHs.nil
  refine GE.blockN (GE.thenN (GC.region ?_))
  refine GL.val (v := (.int .i64 (((k + 1 : Nat) : Int)))) (Ex.add rfl rfl (Z := ((k + 1 : Nat) : Int)) (by rw [w64 (by omega)]; rfl)) (by decide) ?_
  refine GL.mv rfl (by decide) ?_
  refine GL.nil (GE.thenN ?_)
  exact Head.mk (k + 1) (by omega) (by omega) ((sub_cons rfl ((sub_cons rfl ((sub_cons rfl ((sub_cons rfl ((sub_cons rfl ((sub_cons rfl ((sub_cons rfl ((sub_cons rfl ((sub_nil _)))))))))))))))))) (ulC (ulC (ulC (ulC (ulC (ulC (ulC ulR)))))))
 ·replace hq7 := of_decide_eq_false hq7
  refine GC.exit (GE.thenE (GE.thenE (GE.blockE (GE.thenN (GC.seq ?_)))))
  have hrow2 : pcs ((⟨(pAt ps 0).W, (pAt ps 0).H, (List.range A).map (fun k => (trF f ps k).1), b0, c0, s0⟩ :: ⟨(pAt ps 1).W, (pAt ps 1).H, (List.range A).map (fun k => (trF f ps k).2.1), b1, c1, s1⟩ :: ⟨(pAt ps 2).W, (pAt ps 2).H, (List.range A).map (fun k => (trF f ps k).2.2), b2, c2, s2⟩ :: rs : List Nq).map Nq.pn) ++ xsp = [(.int .i64 ((pAt ps 0).W)), (.int .i64 ((pAt ps 0).H)), (.slice (some ⟨b0, 0, none⟩) A c0), (.int .i64 ((pAt ps 1).W)), (.int .i64 ((pAt ps 1).H)), (.slice (some ⟨b1, 0, none⟩) A c1), (.int .i64 ((pAt ps 2).W)), (.int .i64 ((pAt ps 2).H)), (.slice (some ⟨b2, 0, none⟩) A c2)] ++ (pcs (rs.map Nq.pn) ++ xsp) := by simp [pcs, Pn.cs, Nq.pn]
  have hkA : k = A := by omega
  refine GC.hp (L2 := (⟨bq5, [(.int .i64 sp), (.slice (some ⟨xb, 0, none⟩) n xc)], 25, true⟩ :: ⟨bq2, [(.int .i64 0), (.slice none 0 0)], 25, true⟩ :: ⟨bq1, [(.int .i64 sp), (.slice (some ⟨b, o, none⟩) n cap)], 25, true⟩ :: ⟨xb, pcs ((⟨(pAt ps 0).W, (pAt ps 0).H, (List.range A).map (fun k => (trF f ps k).1), b0, c0, s0⟩ :: ⟨(pAt ps 1).W, (pAt ps 1).H, (List.range A).map (fun k => (trF f ps k).2.1), b1, c1, s1⟩ :: ⟨(pAt ps 2).W, (pAt ps 2).H, (List.range A).map (fun k => (trF f ps k).2.2), b2, c2, s2⟩ :: rs : List Nq).map Nq.pn) ++ xsp, 43, true⟩ :: ⟨b0, ((List.range A).map (fun k => (trF f ps k).1)).map u32 ++ s0, 28, true⟩ :: ⟨b1, ((List.range A).map (fun k => (trF f ps k).2.1)).map u32 ++ s1, 28, true⟩ :: ⟨b2, ((List.range A).map (fun k => (trF f ps k).2.2)).map u32 ++ s2, 28, true⟩ :: (((rs.map (Nq.blk 28)) ++ []) ++ []))) (fun w h' => by rw [hkA, trL_full hx0, trL_full hx1, trL_full hx2, ← hrow2] at h'; exact h') ?_
  refine GC.region ?_
  refine GL.val (v := (.agg #[(.int .i64 sp), (.slice (some ⟨xb, 0, none⟩) n xc)])) (Ex.loadA rfl T.ag25 T.sz25 (i := 0) rfl (vs := [(.int .i64 sp), (.slice (some ⟨xb, 0, none⟩) n xc)]) rfl rfl) (by decide) ?_
  refine GL.step (Stp.st1 (cs' := [(.int .i64 sp), (.slice (some ⟨xb, 0, none⟩) n xc)]) rfl rfl rfl T.sz25 rfl rfl rfl) (fun _ _ => ?_)
  refine GL.sg rfl (by decide) ?_
  refine GL.nil (GE.thenN (GC.ret ?_))
  refine GC.ret2 rfl (Rv.cellA rfl T.ag25 T.sz25 (L := _) (i := 1) rfl (vs := [(.int .i64 sp), (.slice (some ⟨xb, 0, none⟩) n xc)]) rfl rfl) (Rv.tmp rfl) (fun wN HN => ?_)
  have htr := Ac.tri (y0 := (List.range A).map (fun k => (trF f ps k).1)) (y1 := (List.range A).map (fun k => (trF f ps k).2.1)) (y2 := (List.range A).map (fun k => (trF f ps k).2.2)) hq4.2.2.1 hq4.2.2.2 (by simp [hx0]) (by simp [hx1]) (by simp [hx2])
  exact HN.ret (⟨⟨(pAt ps 0).W, (pAt ps 0).H, (List.range A).map (fun k => (trF f ps k).1), b0, c0, s0⟩ :: ⟨(pAt ps 1).W, (pAt ps 1).H, (List.range A).map (fun k => (trF f ps k).2.1), b1, c1, s1⟩ :: ⟨(pAt ps 2).W, (pAt ps 2).H, (List.range A).map (fun k => (trF f ps k).2.2), b2, c2, s2⟩ :: rs, xb, xc, xsp⟩ : Ac) ⟨List.cons_ne_nil _ _, tr_ds (ps := ps) (A := A) (f := f) hn3 rfl rfl rfl d3, htr.1, htr.2⟩ (by rw [← hnx]; rfl) (by rw [List.append_nil]; exact ((ulS (ulS (ulS (ulC (ulC (ulC (ulC ulR))))))))) (Ac.blks_own _ _ _)

theorem q48_1 (w : World) :
  Calls Try.prog 48 #[(.int .u32 0)] w (Ret w (fun _ : Unit => True) (fun rz => (.float .f64 0)) (fun rz => [])) := by
 refine enter (M := None) (L := []) (n := 6) (l := [(0, (.int .u32 0))]) Try.func48 rfl rfl (Args.cons rfl (Args.nil _)) (Hp.start _ _) ?_
 refine GC.seq (GC.region ?_)
 refine GL.sg rfl (by decide) ?_
 refine GL.nil (GE.thenN (GC.seq (GC.region ?_)))
 refine GL.mv rfl (by decide) ?_
 refine GL.val (v := (.float .f32 0)) (Ex.ext (vs := [(.int .u32 0)]) rfl rfl T.ext54 (fun _ => by first | rfl | kernel_rfl)) (by decide) ?_
 refine GL.val (v := (.float .f64 0)) (Ex.cff (r := 0) rfl Try.underlying99 Try.underlying44 (by kernel_rfl)) (by decide) ?_
 refine GL.sg rfl (by decide) ?_
 refine GL.nil (GE.thenN (GC.ret ?_))
 refine GC.ret1 rfl (Rv.tmp rfl) (fun wN HN => ?_)
 exact HN.ret () trivial rfl ulN rfl

theorem q48_2 (w : World) :
  Calls Try.prog 48 #[(.int .u32 1065353216)] w (Ret w (fun _ : Unit => True) (fun rz => (.float .f64 4607182418800017408)) (fun rz => [])) := by
 refine enter (M := None) (L := []) (n := 6) (l := [(0, (.int .u32 1065353216))]) Try.func48 rfl rfl (Args.cons rfl (Args.nil _)) (Hp.start _ _) ?_
 refine GC.seq (GC.region ?_)
 refine GL.sg rfl (by decide) ?_
 refine GL.nil (GE.thenN (GC.seq (GC.region ?_)))
 refine GL.mv rfl (by decide) ?_
 refine GL.val (v := (.float .f32 1065353216)) (Ex.ext (vs := [(.int .u32 1065353216)]) rfl rfl T.ext54 (fun _ => by first | rfl | kernel_rfl)) (by decide) ?_
 refine GL.val (v := (.float .f64 4607182418800017408)) (Ex.cff (r := 4607182418800017408) rfl Try.underlying99 Try.underlying44 (by kernel_rfl)) (by decide) ?_
 refine GL.sg rfl (by decide) ?_
 refine GL.nil (GE.thenN (GC.ret ?_))
 refine GC.ret1 rfl (Rv.tmp rfl) (fun wN HN => ?_)
 exact HN.ret () trivial rfl ulN rfl

theorem matrix_sw (sp : Int) (b o n cap : Nat) (ps : List Pn) (W H : Nat) (A : Nat) (f : Int → Int → Int → Int × Int × Int) (w : World) (hps : Pns w b o ps) (hn : n = ps.length) (hok : OkPic sp ps W H) (hA : A = W * H) (hn3 : 3 ≤ n) (hm : ∀ (bR : Nat) (w' : World), Has w' [⟨bR, [(.float .f64 0), (.float .f64 0), (.float .f64 4607182418800017408), (.float .f64 0), (.float .f64 4607182418800017408), (.float .f64 0), (.float .f64 4607182418800017408), (.float .f64 0), (.float .f64 0)], 93, false⟩] → ∀ x ∈ (pAt ps 0).xs, ∀ y ∈ (pAt ps 1).xs, ∀ z ∈ (pAt ps 2).xs, Calls Try.prog 49 #[.int .u32 x, .int .u32 y, .int .u32 z, .pointer (some ⟨bR, 0, none⟩)] w' (Ret w' (fun _ : Unit => True) (fun _ => .tuple #[.int .u32 (f x y z).1, .int .u32 (f x y z).2.1, .int .u32 (f x y z).2.2]) (fun _ => []))) :
  Calls Try.prog 14 #[(.agg #[(.int .i64 sp), (.slice (some ⟨b, o, none⟩) n cap)]), (.agg #[(.int .u32 0), (.int .u32 0), (.int .u32 1065353216), (.int .u32 0), (.int .u32 1065353216), (.int .u32 0), (.int .u32 1065353216), (.int .u32 0), (.int .u32 0)])] w (Ret w (fun r : Ac => r.qs ≠ [] ∧ r.ds = ((List.range n).map (trD f ps A)) ∧ r.Ok ∧ ∀ q ∈ r.qs, q.Ok) (fun r => .tuple #[(.agg #[(.int .i64 sp), (.slice r.ad r.n r.cp)]), .int .i64 0]) (fun r => r.blks 43 28)) := by
 refine enter (M := None) (L := []) (n := 40) (l := [(0, (.agg #[(.int .i64 sp), (.slice (some ⟨b, o, none⟩) n cap)])), (1, (.agg #[(.int .u32 0), (.int .u32 0), (.int .u32 1065353216), (.int .u32 0), (.int .u32 1065353216), (.int .u32 0), (.int .u32 1065353216), (.int .u32 0), (.int .u32 0)]))]) Try.func14 rfl rfl (Args.cons rfl (Args.cons rfl (Args.nil _))) (Hp.start _ _) ?_
 refine GC.seq (GC.region ?_)
 refine GL.step (Stp.box (cs := [(.int .i64 sp), (.slice (some ⟨b, o, none⟩) n cap)]) rfl rfl (by decide)) (fun bq1 _ => ?_)
 refine GL.step (Stp.box (cs := [(.int .u32 0), (.int .u32 0), (.int .u32 1065353216), (.int .u32 0), (.int .u32 1065353216), (.int .u32 0), (.int .u32 1065353216), (.int .u32 0), (.int .u32 0)]) rfl rfl (by decide)) (fun bq2 _ => ?_)
 refine GL.step (Stp.alloc T.zr25 (by decide)) (fun bq3 _ => ?_)
 refine GL.sg rfl (by decide) ?_
 refine GL.nil (GE.thenN (GC.seq (GC.seq (GC.region ?_))))
 refine GL.val (v := (.agg #[(.int .i64 sp), (.slice (some ⟨b, o, none⟩) n cap)])) (Ex.loadA rfl T.ag25 T.sz25 (i := 2) rfl (vs := [(.int .i64 sp), (.slice (some ⟨b, o, none⟩) n cap)]) rfl rfl) (by decide) ?_
 refine GL.step (Stp.callR (σ := Unit) (p := fun rz => True) (v := fun rz => (.int .i64 0)) (N := fun rz => []) (vs := [(.agg #[(.int .i64 sp), (.slice (some ⟨b, o, none⟩) n cap)])]) rfl rfl T.own9 (by decide) (fun wc hw => (by have h := chk_p sp b o n cap ps wc (hps.later hw.1) hn (by have := hok.n4; omega); rw [hok.chk] at h; exact h))) (fun xq4 hq5 => ?_)
 refine GL.sg rfl (by decide) ?_
 refine GL.nil (GE.thenN (GC.seq (GC.region ?_)))
 refine GL.mv rfl (by decide) ?_
 refine GL.val (v := (.bool false)) (Ex.cast (Ex.neq rfl rfl) rfl) (by decide) ?_
 refine GL.nil (GE.thenN ?_)
 refine GC.cond rfl (fun hq6 => by cases hq6) (fun _ => ?_)
 refine GC.skip (GE.thenN (GC.seq (GC.seq (GC.region ?_))))
 refine GL.val (v := (.pointer (some ⟨bq1, 1, none⟩))) (Ex.cast (Ex.fieldAddr rfl Try.underlying25 rfl T.sz23 (by decide)) rfl) (by decide) ?_
 refine GL.val (Ex.load rfl T.ag23 (i := 2) rfl rfl) (by decide) ?_
 refine GL.val (v := (.int .i64 ((n : Int)))) (Ex.len rfl Try.underlying23) (by decide) ?_
 refine GL.val (v := (.bool false)) (Ex.cast (Ex.lss rfl rfl) (congrArg Value.bool (decide_eq_false (by omega)))) (by decide) ?_
 refine GL.nil (GE.thenN ?_)
 refine GC.cond rfl (fun hq7 => by cases hq7) (fun _ => ?_)
 refine GC.skip (GE.thenN (GC.seq (GC.region ?_)))
 refine GL.step (Stp.alloc T.zr93 (by decide)) (fun bq8 _ => ?_)
 refine GL.nil (GE.thenN (GC.seq (GC.seq (GC.region ?_))))
 refine GL.val (v := (.agg #[(.int .u32 0), (.int .u32 0), (.int .u32 1065353216), (.int .u32 0), (.int .u32 1065353216), (.int .u32 0), (.int .u32 1065353216), (.int .u32 0), (.int .u32 0)])) (Ex.loadA rfl T.ag29 T.sz29 (i := 2) rfl (vs := [(.int .u32 0), (.int .u32 0), (.int .u32 1065353216), (.int .u32 0), (.int .u32 1065353216), (.int .u32 0), (.int .u32 1065353216), (.int .u32 0), (.int .u32 0)]) rfl rfl) (by decide) ?_
 refine GL.mv rfl (by decide) ?_
 refine GL.nil (GE.thenN (GC.block ?_))
 refine GC.unroll 10 ?_
 refine GE.round (GC.seq (GC.region ?_))
 refine GL.val (v := (.bool true)) (Ex.cast (Ex.lss rfl rfl) rfl) (by decide) ?_
 refine GL.nil (GE.thenN (GC.seq ?_))
 refine GC.cond rfl (fun _ => ?_) (fun hq9 => by cases hq9)
 refine GC.skip (GE.thenN (GC.seq (GC.block (GC.seq (GC.region ?_)))))
 refine GL.mv rfl (by decide) ?_
 refine GL.val (v := (.int .u32 0)) (Ex.index1 rfl rfl Try.underlying29 T.sz28 T.ag28 (by decide) (by decide) rfl) (by decide) ?_
 refine GL.sg rfl (by decide) ?_
 refine GL.sg rfl (by decide) ?_
 refine GL.nil (GE.thenN ?_)
 refine GC.draw [⟨bq3, [(.int .i64 0), (.slice none 0 0)], 25, true⟩, ⟨bq2, [(.int .u32 0), (.int .u32 0), (.int .u32 1065353216), (.int .u32 0), (.int .u32 1065353216), (.int .u32 0), (.int .u32 1065353216), (.int .u32 0), (.int .u32 0)], 29, true⟩, ⟨bq1, [(.int .i64 sp), (.slice (some ⟨b, o, none⟩) n cap)], 25, true⟩] T.mixed (fuel := 9) rfl rfl ?_
 refine GH.tk 0 (v := (.int .i64 0)) rfl (by kernel_rfl) (fun _ _ _ h => h) (Ex.move rfl) (ulS (ulC (ulC (ulC ulN)))) (by decide) ?_
 refine GH.tk 1 (v := (.int .i64 0)) rfl (by kernel_rfl) (fun _ _ _ h => h) (Ex.quo rfl rfl (Z := 0) (by decide) (by decide)) (ulS (ulC (ulC (ulC ulN)))) (by decide) ?_
 refine GH.tk 2 (v := (.int .i64 0)) rfl (by kernel_rfl) (fun _ _ _ h => h) (Ex.move rfl) (ulS (ulC (ulC (ulC ulN)))) (by decide) ?_
 refine GH.tk 3 (v := (.int .i64 0)) rfl (by kernel_rfl) (fun _ _ _ h => h) (Ex.rem rfl rfl (Z := 0) (by decide) (by decide)) (ulS (ulC (ulC (ulC ulN)))) (by decide) ?_
 refine GH.tk 4 (v := (.int .u32 0)) rfl (by kernel_rfl) (fun _ _ _ h => h) (Ex.move rfl) (ulS (ulC (ulC (ulC ulN)))) (by decide) ?_
 refine GH.tk 6 (v := (.pointer (some ⟨bq8, 0, none⟩))) rfl (by kernel_rfl) (fun _ _ _ h => h) (Ex.cast (Ex.indexArr (m := 3) rfl rfl Try.underlying93 T.sz92 (by decide) (by decide)) rfl) (ulS (ulC (ulC (ulC ulN)))) (by decide) ?_
 refine GH.one 5 rfl (by kernel_rfl) (Stp.callR (vs := [(.int .u32 0)]) rfl rfl T.own48 (by decide) (fun wc hw => q48_1  wc )) (fun _ => (ulS (ulC (ulC (ulC ulN))))) (fun xq10 hq11 => ?_)
 refine GH.tk 7 (v := (.pointer (some ⟨bq8, 0, none⟩))) rfl (by kernel_rfl) (fun _ _ _ h => h) (Ex.cast (Ex.indexArr (m := 3) rfl rfl Try.underlying92 T.sz44 (by decide) (by decide)) rfl) (ulS (ulC (ulC (ulC ulN)))) (by decide) ?_
 refine GH.one 8 rfl (by kernel_rfl) (Stp.st0 (cs' := [(.float .f64 0), (.float .f64 0), (.float .f64 0), (.float .f64 0), (.float .f64 0), (.float .f64 0), (.float .f64 0), (.float .f64 0), (.float .f64 0)]) rfl rfl rfl T.sz44 rfl rfl rfl) (fun _ => (ulS (ulC (ulC (ulC ulN))))) (fun _ _ => ?_)
 refine GH.done (by kernel_rfl) ?_
 refine GE.blockN (GE.thenN (GC.region ?_))
 refine GL.val (v := (.int .i64 1)) (Ex.add rfl rfl (Z := 1) (by decide)) (by decide) ?_
 refine GL.mv rfl (by decide) ?_
 refine GL.nil (GE.thenN (GE.round (GC.seq (GC.region ?_))))
 refine GL.val (v := (.bool true)) (Ex.cast (Ex.lss rfl rfl) rfl) (by decide) ?_
 refine GL.nil (GE.thenN (GC.seq ?_))
 refine GC.cond rfl (fun _ => ?_) (fun hq12 => by cases hq12)
 refine GC.skip (GE.thenN (GC.seq (GC.block (GC.seq (GC.region ?_)))))
 refine GL.mv rfl (by decide) ?_
 refine GL.val (v := (.int .u32 0)) (Ex.index1 rfl rfl Try.underlying29 T.sz28 T.ag28 (by decide) (by decide) rfl) (by decide) ?_
 refine GL.sg rfl (by decide) ?_
 refine GL.sg rfl (by decide) ?_
 refine GL.nil (GE.thenN ?_)
 refine GC.draw [⟨bq3, [(.int .i64 0), (.slice none 0 0)], 25, true⟩, ⟨bq2, [(.int .u32 0), (.int .u32 0), (.int .u32 1065353216), (.int .u32 0), (.int .u32 1065353216), (.int .u32 0), (.int .u32 1065353216), (.int .u32 0), (.int .u32 0)], 29, true⟩, ⟨bq1, [(.int .i64 sp), (.slice (some ⟨b, o, none⟩) n cap)], 25, true⟩] T.mixed (fuel := 9) rfl rfl ?_
 refine GH.tk 0 (v := (.int .i64 1)) rfl (by kernel_rfl) (fun _ _ _ h => h) (Ex.move rfl) (ulS (ulC (ulC (ulC ulN)))) (by decide) ?_
 refine GH.tk 1 (v := (.int .i64 0)) rfl (by kernel_rfl) (fun _ _ _ h => h) (Ex.quo rfl rfl (Z := 0) (by decide) (by decide)) (ulS (ulC (ulC (ulC ulN)))) (by decide) ?_
 refine GH.tk 2 (v := (.int .i64 1)) rfl (by kernel_rfl) (fun _ _ _ h => h) (Ex.move rfl) (ulS (ulC (ulC (ulC ulN)))) (by decide) ?_
 refine GH.tk 3 (v := (.int .i64 1)) rfl (by kernel_rfl) (fun _ _ _ h => h) (Ex.rem rfl rfl (Z := 1) (by decide) (by decide)) (ulS (ulC (ulC (ulC ulN)))) (by decide) ?_
 refine GH.tk 4 (v := (.int .u32 0)) rfl (by kernel_rfl) (fun _ _ _ h => h) (Ex.move rfl) (ulS (ulC (ulC (ulC ulN)))) (by decide) ?_
 refine GH.tk 6 (v := (.pointer (some ⟨bq8, 0, none⟩))) rfl (by kernel_rfl) (fun _ _ _ h => h) (Ex.cast (Ex.indexArr (m := 3) rfl rfl Try.underlying93 T.sz92 (by decide) (by decide)) rfl) (ulS (ulC (ulC (ulC ulN)))) (by decide) ?_
 refine GH.one 5 rfl (by kernel_rfl) (Stp.callR (vs := [(.int .u32 0)]) rfl rfl T.own48 (by decide) (fun wc hw => q48_1  wc )) (fun _ => (ulS (ulC (ulC (ulC ulN))))) (fun xq13 hq14 => ?_)
 refine GH.tk 7 (v := (.pointer (some ⟨bq8, 1, none⟩))) rfl (by kernel_rfl) (fun _ _ _ h => h) (Ex.cast (Ex.indexArr (m := 3) rfl rfl Try.underlying92 T.sz44 (by decide) (by decide)) rfl) (ulS (ulC (ulC (ulC ulN)))) (by decide) ?_
 refine GH.one 8 rfl (by kernel_rfl) (Stp.st0 (cs' := [(.float .f64 0), (.float .f64 0), (.float .f64 0), (.float .f64 0), (.float .f64 0), (.float .f64 0), (.float .f64 0), (.float .f64 0), (.float .f64 0)]) rfl rfl rfl T.sz44 rfl rfl rfl) (fun _ => (ulS (ulC (ulC (ulC ulN))))) (fun _ _ => ?_)
 refine GH.done (by kernel_rfl) ?_
 refine GE.blockN (GE.thenN (GC.region ?_))
 refine GL.val (v := (.int .i64 2)) (Ex.add rfl rfl (Z := 2) (by decide)) (by decide) ?_
 refine GL.mv rfl (by decide) ?_
 refine GL.nil (GE.thenN (GE.round (GC.seq (GC.region ?_))))
 refine GL.val (v := (.bool true)) (Ex.cast (Ex.lss rfl rfl) rfl) (by decide) ?_
 refine GL.nil (GE.thenN (GC.seq ?_))
 refine GC.cond rfl (fun _ => ?_) (fun hq15 => by cases hq15)
 refine GC.skip (GE.thenN (GC.seq (GC.block (GC.seq (GC.region ?_)))))
 refine GL.mv rfl (by decide) ?_
 refine GL.val (v := (.int .u32 1065353216)) (Ex.index1 rfl rfl Try.underlying29 T.sz28 T.ag28 (by decide) (by decide) rfl) (by decide) ?_
 refine GL.sg rfl (by decide) ?_
 refine GL.sg rfl (by decide) ?_
 refine GL.nil (GE.thenN ?_)
 refine GC.draw [⟨bq3, [(.int .i64 0), (.slice none 0 0)], 25, true⟩, ⟨bq2, [(.int .u32 0), (.int .u32 0), (.int .u32 1065353216), (.int .u32 0), (.int .u32 1065353216), (.int .u32 0), (.int .u32 1065353216), (.int .u32 0), (.int .u32 0)], 29, true⟩, ⟨bq1, [(.int .i64 sp), (.slice (some ⟨b, o, none⟩) n cap)], 25, true⟩] T.mixed (fuel := 9) rfl rfl ?_
 refine GH.tk 0 (v := (.int .i64 2)) rfl (by kernel_rfl) (fun _ _ _ h => h) (Ex.move rfl) (ulS (ulC (ulC (ulC ulN)))) (by decide) ?_
 refine GH.tk 1 (v := (.int .i64 0)) rfl (by kernel_rfl) (fun _ _ _ h => h) (Ex.quo rfl rfl (Z := 0) (by decide) (by decide)) (ulS (ulC (ulC (ulC ulN)))) (by decide) ?_
 refine GH.tk 2 (v := (.int .i64 2)) rfl (by kernel_rfl) (fun _ _ _ h => h) (Ex.move rfl) (ulS (ulC (ulC (ulC ulN)))) (by decide) ?_
 refine GH.tk 3 (v := (.int .i64 2)) rfl (by kernel_rfl) (fun _ _ _ h => h) (Ex.rem rfl rfl (Z := 2) (by decide) (by decide)) (ulS (ulC (ulC (ulC ulN)))) (by decide) ?_
 refine GH.tk 4 (v := (.int .u32 1065353216)) rfl (by kernel_rfl) (fun _ _ _ h => h) (Ex.move rfl) (ulS (ulC (ulC (ulC ulN)))) (by decide) ?_
 refine GH.tk 6 (v := (.pointer (some ⟨bq8, 0, none⟩))) rfl (by kernel_rfl) (fun _ _ _ h => h) (Ex.cast (Ex.indexArr (m := 3) rfl rfl Try.underlying93 T.sz92 (by decide) (by decide)) rfl) (ulS (ulC (ulC (ulC ulN)))) (by decide) ?_
 refine GH.one 5 rfl (by kernel_rfl) (Stp.callR (vs := [(.int .u32 1065353216)]) rfl rfl T.own48 (by decide) (fun wc hw => q48_2  wc )) (fun _ => (ulS (ulC (ulC (ulC ulN))))) (fun xq16 hq17 => ?_)
 refine GH.tk 7 (v := (.pointer (some ⟨bq8, 2, none⟩))) rfl (by kernel_rfl) (fun _ _ _ h => h) (Ex.cast (Ex.indexArr (m := 3) rfl rfl Try.underlying92 T.sz44 (by decide) (by decide)) rfl) (ulS (ulC (ulC (ulC ulN)))) (by decide) ?_
 refine GH.one 8 rfl (by kernel_rfl) (Stp.st0 (cs' := [(.float .f64 0), (.float .f64 0), (.float .f64 4607182418800017408), (.float .f64 0), (.float .f64 0), (.float .f64 0), (.float .f64 0), (.float .f64 0), (.float .f64 0)]) rfl rfl rfl T.sz44 rfl rfl rfl) (fun _ => (ulS (ulC (ulC (ulC ulN))))) (fun _ _ => ?_)
 refine GH.done (by kernel_rfl) ?_
 refine GE.blockN (GE.thenN (GC.region ?_))
 refine GL.val (v := (.int .i64 3)) (Ex.add rfl rfl (Z := 3) (by decide)) (by decide) ?_
 refine GL.mv rfl (by decide) ?_
 refine GL.nil (GE.thenN (GE.round (GC.seq (GC.region ?_))))
 refine GL.val (v := (.bool true)) (Ex.cast (Ex.lss rfl rfl) rfl) (by decide) ?_
 refine GL.nil (GE.thenN (GC.seq ?_))
 refine GC.cond rfl (fun _ => ?_) (fun hq18 => by cases hq18)
 refine GC.skip (GE.thenN (GC.seq (GC.block (GC.seq (GC.region ?_)))))
 refine GL.mv rfl (by decide) ?_
 refine GL.val (v := (.int .u32 0)) (Ex.index1 rfl rfl Try.underlying29 T.sz28 T.ag28 (by decide) (by decide) rfl) (by decide) ?_
 refine GL.sg rfl (by decide) ?_
 refine GL.sg rfl (by decide) ?_
 refine GL.nil (GE.thenN ?_)
 refine GC.draw [⟨bq3, [(.int .i64 0), (.slice none 0 0)], 25, true⟩, ⟨bq2, [(.int .u32 0), (.int .u32 0), (.int .u32 1065353216), (.int .u32 0), (.int .u32 1065353216), (.int .u32 0), (.int .u32 1065353216), (.int .u32 0), (.int .u32 0)], 29, true⟩, ⟨bq1, [(.int .i64 sp), (.slice (some ⟨b, o, none⟩) n cap)], 25, true⟩] T.mixed (fuel := 9) rfl rfl ?_
 refine GH.tk 0 (v := (.int .i64 3)) rfl (by kernel_rfl) (fun _ _ _ h => h) (Ex.move rfl) (ulS (ulC (ulC (ulC ulN)))) (by decide) ?_
 refine GH.tk 1 (v := (.int .i64 1)) rfl (by kernel_rfl) (fun _ _ _ h => h) (Ex.quo rfl rfl (Z := 1) (by decide) (by decide)) (ulS (ulC (ulC (ulC ulN)))) (by decide) ?_
 refine GH.tk 2 (v := (.int .i64 3)) rfl (by kernel_rfl) (fun _ _ _ h => h) (Ex.move rfl) (ulS (ulC (ulC (ulC ulN)))) (by decide) ?_
 refine GH.tk 3 (v := (.int .i64 0)) rfl (by kernel_rfl) (fun _ _ _ h => h) (Ex.rem rfl rfl (Z := 0) (by decide) (by decide)) (ulS (ulC (ulC (ulC ulN)))) (by decide) ?_
 refine GH.tk 4 (v := (.int .u32 0)) rfl (by kernel_rfl) (fun _ _ _ h => h) (Ex.move rfl) (ulS (ulC (ulC (ulC ulN)))) (by decide) ?_
 refine GH.tk 6 (v := (.pointer (some ⟨bq8, 3, none⟩))) rfl (by kernel_rfl) (fun _ _ _ h => h) (Ex.cast (Ex.indexArr (m := 3) rfl rfl Try.underlying93 T.sz92 (by decide) (by decide)) rfl) (ulS (ulC (ulC (ulC ulN)))) (by decide) ?_
 refine GH.one 5 rfl (by kernel_rfl) (Stp.callR (vs := [(.int .u32 0)]) rfl rfl T.own48 (by decide) (fun wc hw => q48_1  wc )) (fun _ => (ulS (ulC (ulC (ulC ulN))))) (fun xq19 hq20 => ?_)
 refine GH.tk 7 (v := (.pointer (some ⟨bq8, 3, none⟩))) rfl (by kernel_rfl) (fun _ _ _ h => h) (Ex.cast (Ex.indexArr (m := 3) rfl rfl Try.underlying92 T.sz44 (by decide) (by decide)) rfl) (ulS (ulC (ulC (ulC ulN)))) (by decide) ?_
 refine GH.one 8 rfl (by kernel_rfl) (Stp.st0 (cs' := [(.float .f64 0), (.float .f64 0), (.float .f64 4607182418800017408), (.float .f64 0), (.float .f64 0), (.float .f64 0), (.float .f64 0), (.float .f64 0), (.float .f64 0)]) rfl rfl rfl T.sz44 rfl rfl rfl) (fun _ => (ulS (ulC (ulC (ulC ulN))))) (fun _ _ => ?_)
 refine GH.done (by kernel_rfl) ?_
 refine GE.blockN (GE.thenN (GC.region ?_))
 refine GL.val (v := (.int .i64 4)) (Ex.add rfl rfl (Z := 4) (by decide)) (by decide) ?_
 refine GL.mv rfl (by decide) ?_
 refine GL.nil (GE.thenN (GE.round (GC.seq (GC.region ?_))))
 refine GL.val (v := (.bool true)) (Ex.cast (Ex.lss rfl rfl) rfl) (by decide) ?_
 refine GL.nil (GE.thenN (GC.seq ?_))
 refine GC.cond rfl (fun _ => ?_) (fun hq21 => by cases hq21)
 refine GC.skip (GE.thenN (GC.seq (GC.block (GC.seq (GC.region ?_)))))
 refine GL.mv rfl (by decide) ?_
 refine GL.val (v := (.int .u32 1065353216)) (Ex.index1 rfl rfl Try.underlying29 T.sz28 T.ag28 (by decide) (by decide) rfl) (by decide) ?_
 refine GL.sg rfl (by decide) ?_
 refine GL.sg rfl (by decide) ?_
 refine GL.nil (GE.thenN ?_)
 refine GC.draw [⟨bq3, [(.int .i64 0), (.slice none 0 0)], 25, true⟩, ⟨bq2, [(.int .u32 0), (.int .u32 0), (.int .u32 1065353216), (.int .u32 0), (.int .u32 1065353216), (.int .u32 0), (.int .u32 1065353216), (.int .u32 0), (.int .u32 0)], 29, true⟩, ⟨bq1, [(.int .i64 sp), (.slice (some ⟨b, o, none⟩) n cap)], 25, true⟩] T.mixed (fuel := 9) rfl rfl ?_
 refine GH.tk 0 (v := (.int .i64 4)) rfl (by kernel_rfl) (fun _ _ _ h => h) (Ex.move rfl) (ulS (ulC (ulC (ulC ulN)))) (by decide) ?_
 refine GH.tk 1 (v := (.int .i64 1)) rfl (by kernel_rfl) (fun _ _ _ h => h) (Ex.quo rfl rfl (Z := 1) (by decide) (by decide)) (ulS (ulC (ulC (ulC ulN)))) (by decide) ?_
 refine GH.tk 2 (v := (.int .i64 4)) rfl (by kernel_rfl) (fun _ _ _ h => h) (Ex.move rfl) (ulS (ulC (ulC (ulC ulN)))) (by decide) ?_
 refine GH.tk 3 (v := (.int .i64 1)) rfl (by kernel_rfl) (fun _ _ _ h => h) (Ex.rem rfl rfl (Z := 1) (by decide) (by decide)) (ulS (ulC (ulC (ulC ulN)))) (by decide) ?_
 refine GH.tk 4 (v := (.int .u32 1065353216)) rfl (by kernel_rfl) (fun _ _ _ h => h) (Ex.move rfl) (ulS (ulC (ulC (ulC ulN)))) (by decide) ?_
 refine GH.tk 6 (v := (.pointer (some ⟨bq8, 3, none⟩))) rfl (by kernel_rfl) (fun _ _ _ h => h) (Ex.cast (Ex.indexArr (m := 3) rfl rfl Try.underlying93 T.sz92 (by decide) (by decide)) rfl) (ulS (ulC (ulC (ulC ulN)))) (by decide) ?_
 refine GH.one 5 rfl (by kernel_rfl) (Stp.callR (vs := [(.int .u32 1065353216)]) rfl rfl T.own48 (by decide) (fun wc hw => q48_2  wc )) (fun _ => (ulS (ulC (ulC (ulC ulN))))) (fun xq22 hq23 => ?_)
 refine GH.tk 7 (v := (.pointer (some ⟨bq8, 4, none⟩))) rfl (by kernel_rfl) (fun _ _ _ h => h) (Ex.cast (Ex.indexArr (m := 3) rfl rfl Try.underlying92 T.sz44 (by decide) (by decide)) rfl) (ulS (ulC (ulC (ulC ulN)))) (by decide) ?_
 refine GH.one 8 rfl (by kernel_rfl) (Stp.st0 (cs' := [(.float .f64 0), (.float .f64 0), (.float .f64 4607182418800017408), (.float .f64 0), (.float .f64 4607182418800017408), (.float .f64 0), (.float .f64 0), (.float .f64 0), (.float .f64 0)]) rfl rfl rfl T.sz44 rfl rfl rfl) (fun _ => (ulS (ulC (ulC (ulC ulN))))) (fun _ _ => ?_)
 refine GH.done (by kernel_rfl) ?_
 refine GE.blockN (GE.thenN (GC.region ?_))
 refine GL.val (v := (.int .i64 5)) (Ex.add rfl rfl (Z := 5) (by decide)) (by decide) ?_
 refine GL.mv rfl (by decide) ?_
 refine GL.nil (GE.thenN (GE.round (GC.seq (GC.region ?_))))
 refine GL.val (v := (.bool true)) (Ex.cast (Ex.lss rfl rfl) rfl) (by decide) ?_
 refine GL.nil (GE.thenN (GC.seq ?_))
 refine GC.cond rfl (fun _ => ?_) (fun hq24 => by cases hq24)
 refine GC.skip (GE.thenN (GC.seq (GC.block (GC.seq (GC.region ?_)))))
 refine GL.mv rfl (by decide) ?_
 refine GL.val (v := (.int .u32 0)) (Ex.index1 rfl rfl Try.underlying29 T.sz28 T.ag28 (by decide) (by decide) rfl) (by decide) ?_
 refine GL.sg rfl (by decide) ?_
 refine GL.sg rfl (by decide) ?_
 refine GL.nil (GE.thenN ?_)
 refine GC.draw [⟨bq3, [(.int .i64 0), (.slice none 0 0)], 25, true⟩, ⟨bq2, [(.int .u32 0), (.int .u32 0), (.int .u32 1065353216), (.int .u32 0), (.int .u32 1065353216), (.int .u32 0), (.int .u32 1065353216), (.int .u32 0), (.int .u32 0)], 29, true⟩, ⟨bq1, [(.int .i64 sp), (.slice (some ⟨b, o, none⟩) n cap)], 25, true⟩] T.mixed (fuel := 9) rfl rfl ?_
 refine GH.tk 0 (v := (.int .i64 5)) rfl (by kernel_rfl) (fun _ _ _ h => h) (Ex.move rfl) (ulS (ulC (ulC (ulC ulN)))) (by decide) ?_
 refine GH.tk 1 (v := (.int .i64 1)) rfl (by kernel_rfl) (fun _ _ _ h => h) (Ex.quo rfl rfl (Z := 1) (by decide) (by decide)) (ulS (ulC (ulC (ulC ulN)))) (by decide) ?_
 refine GH.tk 2 (v := (.int .i64 5)) rfl (by kernel_rfl) (fun _ _ _ h => h) (Ex.move rfl) (ulS (ulC (ulC (ulC ulN)))) (by decide) ?_
 refine GH.tk 3 (v := (.int .i64 2)) rfl (by kernel_rfl) (fun _ _ _ h => h) (Ex.rem rfl rfl (Z := 2) (by decide) (by decide)) (ulS (ulC (ulC (ulC ulN)))) (by decide) ?_
 refine GH.tk 4 (v := (.int .u32 0)) rfl (by kernel_rfl) (fun _ _ _ h => h) (Ex.move rfl) (ulS (ulC (ulC (ulC ulN)))) (by decide) ?_
 refine GH.tk 6 (v := (.pointer (some ⟨bq8, 3, none⟩))) rfl (by kernel_rfl) (fun _ _ _ h => h) (Ex.cast (Ex.indexArr (m := 3) rfl rfl Try.underlying93 T.sz92 (by decide) (by decide)) rfl) (ulS (ulC (ulC (ulC ulN)))) (by decide) ?_
 refine GH.one 5 rfl (by kernel_rfl) (Stp.callR (vs := [(.int .u32 0)]) rfl rfl T.own48 (by decide) (fun wc hw => q48_1  wc )) (fun _ => (ulS (ulC (ulC (ulC ulN))))) (fun xq25 hq26 => ?_)
 refine GH.tk 7 (v := (.pointer (some ⟨bq8, 5, none⟩))) rfl (by kernel_rfl) (fun _ _ _ h => h) (Ex.cast (Ex.indexArr (m := 3) rfl rfl Try.underlying92 T.sz44 (by decide) (by decide)) rfl) (ulS (ulC (ulC (ulC ulN)))) (by decide) ?_
 refine GH.one 8 rfl (by kernel_rfl) (Stp.st0 (cs' := [(.float .f64 0), (.float .f64 0), (.float .f64 4607182418800017408), (.float .f64 0), (.float .f64 4607182418800017408), (.float .f64 0), (.float .f64 0), (.float .f64 0), (.float .f64 0)]) rfl rfl rfl T.sz44 rfl rfl rfl) (fun _ => (ulS (ulC (ulC (ulC ulN))))) (fun _ _ => ?_)
 refine GH.done (by kernel_rfl) ?_
 refine GE.blockN (GE.thenN (GC.region ?_))
 refine GL.val (v := (.int .i64 6)) (Ex.add rfl rfl (Z := 6) (by decide)) (by decide) ?_
 refine GL.mv rfl (by decide) ?_
 refine GL.nil (GE.thenN (GE.round (GC.seq (GC.region ?_))))
 refine GL.val (v := (.bool true)) (Ex.cast (Ex.lss rfl rfl) rfl) (by decide) ?_
 refine GL.nil (GE.thenN (GC.seq ?_))
 refine GC.cond rfl (fun _ => ?_) (fun hq27 => by cases hq27)
 refine GC.skip (GE.thenN (GC.seq (GC.block (GC.seq (GC.region ?_)))))
 refine GL.mv rfl (by decide) ?_
 refine GL.val (v := (.int .u32 1065353216)) (Ex.index1 rfl rfl Try.underlying29 T.sz28 T.ag28 (by decide) (by decide) rfl) (by decide) ?_
 refine GL.sg rfl (by decide) ?_
 refine GL.sg rfl (by decide) ?_
 refine GL.nil (GE.thenN ?_)
 refine GC.draw [⟨bq3, [(.int .i64 0), (.slice none 0 0)], 25, true⟩, ⟨bq2, [(.int .u32 0), (.int .u32 0), (.int .u32 1065353216), (.int .u32 0), (.int .u32 1065353216), (.int .u32 0), (.int .u32 1065353216), (.int .u32 0), (.int .u32 0)], 29, true⟩, ⟨bq1, [(.int .i64 sp), (.slice (some ⟨b, o, none⟩) n cap)], 25, true⟩] T.mixed (fuel := 9) rfl rfl ?_
 refine GH.tk 0 (v := (.int .i64 6)) rfl (by kernel_rfl) (fun _ _ _ h => h) (Ex.move rfl) (ulS (ulC (ulC (ulC ulN)))) (by decide) ?_
 refine GH.tk 1 (v := (.int .i64 2)) rfl (by kernel_rfl) (fun _ _ _ h => h) (Ex.quo rfl rfl (Z := 2) (by decide) (by decide)) (ulS (ulC (ulC (ulC ulN)))) (by decide) ?_
 refine GH.tk 2 (v := (.int .i64 6)) rfl (by kernel_rfl) (fun _ _ _ h => h) (Ex.move rfl) (ulS (ulC (ulC (ulC ulN)))) (by decide) ?_
 refine GH.tk 3 (v := (.int .i64 0)) rfl (by kernel_rfl) (fun _ _ _ h => h) (Ex.rem rfl rfl (Z := 0) (by decide) (by decide)) (ulS (ulC (ulC (ulC ulN)))) (by decide) ?_
 refine GH.tk 4 (v := (.int .u32 1065353216)) rfl (by kernel_rfl) (fun _ _ _ h => h) (Ex.move rfl) (ulS (ulC (ulC (ulC ulN)))) (by decide) ?_
 refine GH.tk 6 (v := (.pointer (some ⟨bq8, 6, none⟩))) rfl (by kernel_rfl) (fun _ _ _ h => h) (Ex.cast (Ex.indexArr (m := 3) rfl rfl Try.underlying93 T.sz92 (by decide) (by decide)) rfl) (ulS (ulC (ulC (ulC ulN)))) (by decide) ?_
 refine GH.one 5 rfl (by kernel_rfl) (Stp.callR (vs := [(.int .u32 1065353216)]) rfl rfl T.own48 (by decide) (fun wc hw => q48_2  wc )) (fun _ => (ulS (ulC (ulC (ulC ulN))))) (fun xq28 hq29 => ?_)
 refine GH.tk 7 (v := (.pointer (some ⟨bq8, 6, none⟩))) rfl (by kernel_rfl) (fun _ _ _ h => h) (Ex.cast (Ex.indexArr (m := 3) rfl rfl Try.underlying92 T.sz44 (by decide) (by decide)) rfl) (ulS (ulC (ulC (ulC ulN)))) (by decide) ?_
 refine GH.one 8 rfl (by kernel_rfl) (Stp.st0 (cs' := [(.float .f64 0), (.float .f64 0), (.float .f64 4607182418800017408), (.float .f64 0), (.float .f64 4607182418800017408), (.float .f64 0), (.float .f64 4607182418800017408), (.float .f64 0), (.float .f64 0)]) rfl rfl rfl T.sz44 rfl rfl rfl) (fun _ => (ulS (ulC (ulC (ulC ulN))))) (fun _ _ => ?_)
 refine GH.done (by kernel_rfl) ?_
 refine GE.blockN (GE.thenN (GC.region ?_))
 refine GL.val (v := (.int .i64 7)) (Ex.add rfl rfl (Z := 7) (by decide)) (by decide) ?_
 refine GL.mv rfl (by decide) ?_
 refine GL.nil (GE.thenN (GE.round (GC.seq (GC.region ?_))))
 refine GL.val (v := (.bool true)) (Ex.cast (Ex.lss rfl rfl) rfl) (by decide) ?_
 refine GL.nil (GE.thenN (GC.seq ?_))
 refine GC.cond rfl (fun _ => ?_) (fun hq30 => by cases hq30)
 refine GC.skip (GE.thenN (GC.seq (GC.block (GC.seq (GC.region ?_)))))
 refine GL.mv rfl (by decide) ?_
 refine GL.val (v := (.int .u32 0)) (Ex.index1 rfl rfl Try.underlying29 T.sz28 T.ag28 (by decide) (by decide) rfl) (by decide) ?_
 refine GL.sg rfl (by decide) ?_
 refine GL.sg rfl (by decide) ?_
 refine GL.nil (GE.thenN ?_)
 refine GC.draw [⟨bq3, [(.int .i64 0), (.slice none 0 0)], 25, true⟩, ⟨bq2, [(.int .u32 0), (.int .u32 0), (.int .u32 1065353216), (.int .u32 0), (.int .u32 1065353216), (.int .u32 0), (.int .u32 1065353216), (.int .u32 0), (.int .u32 0)], 29, true⟩, ⟨bq1, [(.int .i64 sp), (.slice (some ⟨b, o, none⟩) n cap)], 25, true⟩] T.mixed (fuel := 9) rfl rfl ?_
 refine GH.tk 0 (v := (.int .i64 7)) rfl (by kernel_rfl) (fun _ _ _ h => h) (Ex.move rfl) (ulS (ulC (ulC (ulC ulN)))) (by decide) ?_
 refine GH.tk 1 (v := (.int .i64 2)) rfl (by kernel_rfl) (fun _ _ _ h => h) (Ex.quo rfl rfl (Z := 2) (by decide) (by decide)) (ulS (ulC (ulC (ulC ulN)))) (by decide) ?_
 refine GH.tk 2 (v := (.int .i64 7)) rfl (by kernel_rfl) (fun _ _ _ h => h) (Ex.move rfl) (ulS (ulC (ulC (ulC ulN)))) (by decide) ?_
 refine GH.tk 3 (v := (.int .i64 1)) rfl (by kernel_rfl) (fun _ _ _ h => h) (Ex.rem rfl rfl (Z := 1) (by decide) (by decide)) (ulS (ulC (ulC (ulC ulN)))) (by decide) ?_
 refine GH.tk 4 (v := (.int .u32 0)) rfl (by kernel_rfl) (fun _ _ _ h => h) (Ex.move rfl) (ulS (ulC (ulC (ulC ulN)))) (by decide) ?_
 refine GH.tk 6 (v := (.pointer (some ⟨bq8, 6, none⟩))) rfl (by kernel_rfl) (fun _ _ _ h => h) (Ex.cast (Ex.indexArr (m := 3) rfl rfl Try.underlying93 T.sz92 (by decide) (by decide)) rfl) (ulS (ulC (ulC (ulC ulN)))) (by decide) ?_
 refine GH.one 5 rfl (by kernel_rfl) (Stp.callR (vs := [(.int .u32 0)]) rfl rfl T.own48 (by decide) (fun wc hw => q48_1  wc )) (fun _ => (ulS (ulC (ulC (ulC ulN))))) (fun xq31 hq32 => ?_)
 refine GH.tk 7 (v := (.pointer (some ⟨bq8, 7, none⟩))) rfl (by kernel_rfl) (fun _ _ _ h => h) (Ex.cast (Ex.indexArr (m := 3) rfl rfl Try.underlying92 T.sz44 (by decide) (by decide)) rfl) (ulS (ulC (ulC (ulC ulN)))) (by decide) ?_
 refine GH.one 8 rfl (by kernel_rfl) (Stp.st0 (cs' := [(.float .f64 0), (.float .f64 0), (.float .f64 4607182418800017408), (.float .f64 0), (.float .f64 4607182418800017408), (.float .f64 0), (.float .f64 4607182418800017408), (.float .f64 0), (.float .f64 0)]) rfl rfl rfl T.sz44 rfl rfl rfl) (fun _ => (ulS (ulC (ulC (ulC ulN))))) (fun _ _ => ?_)
 refine GH.done (by kernel_rfl) ?_
 refine GE.blockN (GE.thenN (GC.region ?_))
 refine GL.val (v := (.int .i64 8)) (Ex.add rfl rfl (Z := 8) (by decide)) (by decide) ?_
 refine GL.mv rfl (by decide) ?_
 refine GL.nil (GE.thenN (GE.round (GC.seq (GC.region ?_))))
 refine GL.val (v := (.bool true)) (Ex.cast (Ex.lss rfl rfl) rfl) (by decide) ?_
 refine GL.nil (GE.thenN (GC.seq ?_))
 refine GC.cond rfl (fun _ => ?_) (fun hq33 => by cases hq33)
 refine GC.skip (GE.thenN (GC.seq (GC.block (GC.seq (GC.region ?_)))))
 refine GL.mv rfl (by decide) ?_
 refine GL.val (v := (.int .u32 0)) (Ex.index1 rfl rfl Try.underlying29 T.sz28 T.ag28 (by decide) (by decide) rfl) (by decide) ?_
 refine GL.sg rfl (by decide) ?_
 refine GL.sg rfl (by decide) ?_
 refine GL.nil (GE.thenN ?_)
 refine GC.draw [⟨bq3, [(.int .i64 0), (.slice none 0 0)], 25, true⟩, ⟨bq2, [(.int .u32 0), (.int .u32 0), (.int .u32 1065353216), (.int .u32 0), (.int .u32 1065353216), (.int .u32 0), (.int .u32 1065353216), (.int .u32 0), (.int .u32 0)], 29, true⟩, ⟨bq1, [(.int .i64 sp), (.slice (some ⟨b, o, none⟩) n cap)], 25, true⟩] T.mixed (fuel := 9) rfl rfl ?_
 refine GH.tk 0 (v := (.int .i64 8)) rfl (by kernel_rfl) (fun _ _ _ h => h) (Ex.move rfl) (ulS (ulC (ulC (ulC ulN)))) (by decide) ?_
 refine GH.tk 1 (v := (.int .i64 2)) rfl (by kernel_rfl) (fun _ _ _ h => h) (Ex.quo rfl rfl (Z := 2) (by decide) (by decide)) (ulS (ulC (ulC (ulC ulN)))) (by decide) ?_
 refine GH.tk 2 (v := (.int .i64 8)) rfl (by kernel_rfl) (fun _ _ _ h => h) (Ex.move rfl) (ulS (ulC (ulC (ulC ulN)))) (by decide) ?_
 refine GH.tk 3 (v := (.int .i64 2)) rfl (by kernel_rfl) (fun _ _ _ h => h) (Ex.rem rfl rfl (Z := 2) (by decide) (by decide)) (ulS (ulC (ulC (ulC ulN)))) (by decide) ?_
 refine GH.tk 4 (v := (.int .u32 0)) rfl (by kernel_rfl) (fun _ _ _ h => h) (Ex.move rfl) (ulS (ulC (ulC (ulC ulN)))) (by decide) ?_
 refine GH.tk 6 (v := (.pointer (some ⟨bq8, 6, none⟩))) rfl (by kernel_rfl) (fun _ _ _ h => h) (Ex.cast (Ex.indexArr (m := 3) rfl rfl Try.underlying93 T.sz92 (by decide) (by decide)) rfl) (ulS (ulC (ulC (ulC ulN)))) (by decide) ?_
 refine GH.one 5 rfl (by kernel_rfl) (Stp.callR (vs := [(.int .u32 0)]) rfl rfl T.own48 (by decide) (fun wc hw => q48_1  wc )) (fun _ => (ulS (ulC (ulC (ulC ulN))))) (fun xq34 hq35 => ?_)
 refine GH.tk 7 (v := (.pointer (some ⟨bq8, 8, none⟩))) rfl (by kernel_rfl) (fun _ _ _ h => h) (Ex.cast (Ex.indexArr (m := 3) rfl rfl Try.underlying92 T.sz44 (by decide) (by decide)) rfl) (ulS (ulC (ulC (ulC ulN)))) (by decide) ?_
 refine GH.one 8 rfl (by kernel_rfl) (Stp.st0 (cs' := [(.float .f64 0), (.float .f64 0), (.float .f64 4607182418800017408), (.float .f64 0), (.float .f64 4607182418800017408), (.float .f64 0), (.float .f64 4607182418800017408), (.float .f64 0), (.float .f64 0)]) rfl rfl rfl T.sz44 rfl rfl rfl) (fun _ => (ulS (ulC (ulC (ulC ulN))))) (fun _ _ => ?_)
 refine GH.done (by kernel_rfl) ?_
 refine GE.blockN (GE.thenN (GC.region ?_))
 refine GL.val (v := (.int .i64 9)) (Ex.add rfl rfl (Z := 9) (by decide)) (by decide) ?_
 refine GL.mv rfl (by decide) ?_
 refine GL.nil (GE.thenN (GE.round (GC.seq (GC.region ?_))))
 refine GL.val (v := (.bool false)) (Ex.cast (Ex.lss rfl rfl) rfl) (by decide) ?_
 refine GL.nil (GE.thenN (GC.seq ?_))
 refine GC.cond rfl (fun hq36 => by cases hq36) (fun _ => ?_)
 refine GC.exit (GE.thenE (GE.thenE (GE.blockE (GE.thenN (GC.seq (GC.region ?_))))))
 refine GL.val (v := (.agg #[(.int .i64 sp), (.slice (some ⟨b, o, none⟩) n cap)])) (Ex.loadA rfl T.ag25 T.sz25 (i := 3) rfl (vs := [(.int .i64 sp), (.slice (some ⟨b, o, none⟩) n cap)]) rfl rfl) (by decide) ?_
 refine GL.val (v := (.func (.func 49) #[] #[(.pointer (some ⟨bq8, 0, none⟩))])) (Ex.func (cs := [(.pointer (some ⟨bq8, 0, none⟩))]) rfl (fun _ hF => hF.evals _ _ rfl)) (by decide) ?_
 refine GL.step (Stp.call (vs := [(.agg #[(.int .i64 sp), (.slice (some ⟨b, o, none⟩) n cap)]), (.func (.func 49) #[] #[(.pointer (some ⟨bq8, 0, none⟩))])]) rfl rfl T.own42 (by decide) (fun wc hw => (Ret.frm (L' := fun x => (⟨bq8, [(.float .f64 0), (.float .f64 0), (.float .f64 4607182418800017408), (.float .f64 0), (.float .f64 4607182418800017408), (.float .f64 0), (.float .f64 4607182418800017408), (.float .f64 0), (.float .f64 0)], 93, true⟩ :: ⟨bq3, [(.int .i64 0), (.slice none 0 0)], 25, true⟩ :: ⟨bq2, [(.int .u32 0), (.int .u32 0), (.int .u32 1065353216), (.int .u32 0), (.int .u32 1065353216), (.int .u32 0), (.int .u32 1065353216), (.int .u32 0), (.int .u32 0)], 29, true⟩ :: ⟨bq1, [(.int .i64 sp), (.slice (some ⟨b, o, none⟩) n cap)], 25, true⟩ :: (x.blks 43 28 ++ []))) hw (triples_ok sp b o n cap ps W H A 49 #[.pointer (some ⟨bq8, 0, none⟩)] f wc (hps.later hw.1) hn hok hA hn3 ⟨T.own49, fun x hx y hy z hz w' hk' => hm bq8 w' ((Has.cons (hw.hasOf (i := 0) rfl) (Has.nil _) : Has wc [⟨bq8, [(.float .f64 0), (.float .f64 0), (.float .f64 4607182418800017408), (.float .f64 0), (.float .f64 4607182418800017408), (.float .f64 0), (.float .f64 4607182418800017408), (.float .f64 0), (.float .f64 0)], 93, false⟩]).later hk') x hx y hy z hz⟩) (fun x w' _ h => by exact Hp.segsD (A := [x.blks 43 28, [⟨bq8, [(.float .f64 0), (.float .f64 0), (.float .f64 4607182418800017408), (.float .f64 0), (.float .f64 4607182418800017408), (.float .f64 0), (.float .f64 4607182418800017408), (.float .f64 0), (.float .f64 0)], 93, true⟩, ⟨bq3, [(.int .i64 0), (.slice none 0 0)], 25, true⟩, ⟨bq2, [(.int .u32 0), (.int .u32 0), (.int .u32 1065353216), (.int .u32 0), (.int .u32 1065353216), (.int .u32 0), (.int .u32 1065353216), (.int .u32 0), (.int .u32 0)], 29, true⟩, ⟨bq1, [(.int .i64 sp), (.slice (some ⟨b, o, none⟩) n cap)], 25, true⟩]]) (idx := [1, 0]) 2 [] h rfl (by decide) rfl)))) (fun xq37 hq38 => ?_)
 refine GL.val (Ex.extract rfl rfl) (by decide) ?_
 refine GL.val (Ex.extract rfl rfl) (by decide) ?_
 refine GL.step (Stp.st1 (cs' := [(.int .i64 sp), (.slice xq37.ad xq37.n xq37.cp)]) rfl rfl rfl T.sz25 rfl rfl rfl) (fun _ _ => ?_)
 refine GL.sg rfl (by decide) ?_
 refine GL.nil (GE.thenN (GC.ret ?_))
 refine GC.ret2 rfl (Rv.cellA rfl T.ag25 T.sz25 (L := _) (i := 1) rfl (vs := [(.int .i64 sp), (.slice xq37.ad xq37.n xq37.cp)]) rfl rfl) (Rv.tmp rfl) (fun wN HN => ?_)
 exact HN.ret xq37 hq38 rfl (by rw [List.append_nil]; exact ((ulS (ulS (ulS (ulS ulR)))))) (Ac.blks_own _ _ _)

theorem place (sp : Int) (b o n cap : Nat) (ls : List Int) (w : World) (hn : n = ls.length) (h0 : 0 < n) (h4 : n ≤ 4) (hr : Rd w b o (ls.map u32)) :
  Calls Try.prog 33 #[(.int .i64 sp), (.slice (some ⟨b, o, none⟩) n cap)] w (Ret w (fun r : Ac => r.qs ≠ [] ∧ r.ds = onesD ls ∧ r.Ok ∧ ∀ q ∈ r.qs, q.Ok) (fun r => .agg #[.int .i64 sp, .slice r.ad n r.cp]) (fun r => r.blks 43 28)) := by
 refine enter (M := None) (L := []) (n := 27) (l := [(0, (.int .i64 sp)), (1, (.slice (some ⟨b, o, none⟩) n cap))]) Try.func33 rfl rfl (Args.cons rfl (Args.cons rfl (Args.nil _))) (Hp.start _ _) ?_
 refine GC.seq (GC.region ?_)
 refine GL.step (Stp.alloc T.zr25 (by decide)) (fun bq1 _ => ?_)
 refine GL.nil (GE.thenN (GC.seq (GC.region ?_)))
 refine GL.mv rfl (by decide) ?_
 refine GL.val (v := (.agg #[(.int .i64 sp), (.slice none 0 0)])) (Ex.build (vs := [(0, (.int .i64 sp))]) rfl (by first | rfl | kernel_rfl)) (by decide) ?_
 refine GL.step (Stp.alloc T.zr25 (by decide)) (fun bq2 _ => ?_)
 refine GL.step (Stp.st0 (cs' := [(.int .i64 sp), (.slice none 0 0)]) rfl rfl rfl T.sz25 rfl rfl rfl) (fun _ _ => ?_)
 refine GL.nil (GE.thenN (GC.seq (GC.seq (GC.region ?_))))
 refine GL.sg rfl (by decide) ?_
 refine GL.nil (GE.thenN (GC.block ?_))
 refine GC.loop (σ := Ac) (fun a => a.n ≤ n ∧ a.ds = (List.range a.n).map (fun i => (1, 1, [ls.getD i 0])) ∧ a.Ok ∧ ∀ q ∈ a.qs, q.Ok) (fun a => [(1, (.slice (some ⟨b, o, none⟩) n cap)), (4, (.pointer (some ⟨bq1, 0, none⟩))), (5, (.pointer (some ⟨bq2, 0, none⟩))), (6, (.int .i64 (((a.n : Nat) : Int))))]) (fun a => (⟨bq2, [(.int .i64 sp), (.slice a.ad a.n a.cp)], 25, true⟩ :: ⟨bq1, [(.int .i64 0), (.slice none 0 0)], 25, true⟩ :: (a.row 43 ++ (a.qs.map (Nq.blk 28) ++ [])))) (fun a => n - a.n) (Ac.no) ⟨Nat.zero_le _, rfl, Or.inl rfl, fun q h => by cases h⟩ ((sub_cons rfl ((sub_cons rfl ((sub_cons rfl ((sub_cons rfl ((sub_nil _)))))))))) (ulC (ulC ulR)) (fun a hp => ?_)
 have hpn := hp.1
 refine GC.seq (GC.seq (GC.region ?_))
 refine GL.mv rfl (by decide) ?_
 refine GL.mv rfl (by decide) ?_
 refine GL.val (v := (.int .i64 ((n : Int)))) (Ex.len rfl Try.underlying41) (by decide) ?_
 refine GL.val (v := (.bool (decide ((((a.n : Nat) : Int)) < ((n : Int)))))) (Ex.lss rfl rfl) (by decide) ?_
 refine GL.nil (GE.thenN ?_)
 refine GC.cond rfl (fun hq3 => ?_) (fun hq3 => ?_)
 ·replace hq3 := of_decide_eq_true hq3
  refine GC.skip (GE.thenN (GC.seq (GC.block ?_)))
  refine GC.drawP [⟨bq1, [(.int .i64 0), (.slice none 0 0)], 25, true⟩] T.mixed (by kernel_rfl) (by kernel_rfl) (fuel := 11) rfl rfl ?_
  refine GH.tk 0 (v := (.pointer (some ⟨bq2, 1, none⟩))) rfl (by kernel_rfl) (fun _ _ _ h => h) (Ex.cast (Ex.fieldAddr rfl Try.underlying25 rfl T.sz23 (by decide)) rfl) (ulS (ulC ulN)) (by decide) ?_
  refine GH.tk 2 (v := (.slice (some ⟨b, o, none⟩) n cap)) rfl (by kernel_rfl) (fun _ _ _ h => h) (Ex.move rfl) (ulS (ulC ulN)) (by decide) ?_
  refine GH.tk 3 (v := (.int .i64 (((a.n : Nat) : Int)))) rfl (by kernel_rfl) (fun _ _ _ h => h) (Ex.move rfl) (ulS (ulC ulN)) (by decide) ?_
  refine GH.tk 4 (v := (.pointer (some ⟨b, o + a.n, none⟩))) rfl (by kernel_rfl) (fun _ _ _ h => h) (Ex.cast (Ex.indexAddr rfl rfl Try.underlying41 T.sz28 (by omega) (by omega)) (by simp)) (ulS (ulC ulN)) (by decide) ?_
  refine GH.tk 5 (v := (.int .u32 ((ls.getD a.n 0)))) rfl (by kernel_rfl) (fun _ _ _ h => h) (Ex.loadO rfl T.ag28 (Rd.at hr (by omega)) (fun x => x)) (ulS (ulC ulN)) (by decide) ?_
  refine GH.many (rs := [1, 6]) (by kernel_rfl) (by simp) ?_
  refine GHs.cons rfl (Ex.wp (v := (.slice a.ad a.n a.cp)) (Ex.load rfl T.ag23 (i := 0) rfl rfl) (by decide)) (fun _ => (ulS (ulC ulN))) (fun _ _ => ?_) ?_
  ·refine GH.one 6 rfl (by kernel_rfl) (Stp.buildSlice (cs := [(.int .u32 ((ls.getD a.n 0)))]) (vs := [(0, (.int .u32 ((ls.getD a.n 0))))]) Try.underlying41 T.zr28 T.sz28 rfl (by decide) (by decide) (by first | rfl | kernel_rfl) (by decide)) (fun _ => (ulS (ulS (ulC ulN)))) (fun bq4 _ => ?_)
   refine GH.tk 7 (v := (.agg #[(.int .i64 1), (.int .i64 1), (.slice (some ⟨bq4, 0, none⟩) 1 1)])) rfl (by kernel_rfl) (fun _ _ _ h => h) (Ex.build (vs := [(0, (.int .i64 1)), (1, (.int .i64 1)), (2, (.slice (some ⟨bq4, 0, none⟩) 1 1))]) rfl (by first | rfl | kernel_rfl)) (ulS (ulS (ulC ulN))) (by decide) ?_
   refine GH.one 8 rfl (by kernel_rfl) (Stp.buildSlice (cs := [(.int .i64 1), (.int .i64 1), (.slice (some ⟨bq4, 0, none⟩) 1 1)]) (vs := [(0, (.agg #[(.int .i64 1), (.int .i64 1), (.slice (some ⟨bq4, 0, none⟩) 1 1)]))]) Try.underlying23 T.zr43 T.sz43 rfl (by decide) (by decide) (by first | rfl | kernel_rfl) (by decide)) (fun _ => (ulS (ulS (ulS (ulC ulN))))) (fun bq5 _ => ?_)
   refine GH.one 9 rfl (by kernel_rfl) (Stp.appAc (a := a) (q := (Nq.mk 1 1 [ls.getD a.n 0] bq4 1 [])) (K := [⟨bq5, [(.int .i64 1), (.int .i64 1), (.slice (some ⟨bq4, 0, none⟩) 1 1)], 43, true⟩, ⟨bq4, [(.int .u32 ((ls.getD a.n 0)))], 28, true⟩, ⟨bq2, [(.int .i64 sp), (.slice a.ad a.n a.cp)], 25, true⟩, ⟨bq1, [(.int .i64 0), (.slice none 0 0)], 25, true⟩]) (R := (a.qs.map (Nq.blk 28) ++ [])) rfl rfl Try.underlying23 T.sz43 T.zr43 rfl T.by43 rfl hp.2.2.1 (fun w hw => hw.rdOf (i := 0) rfl 0) (by omega) (by omega) (by decide)) (fun _ => (ulS (ulS (ulS (ulC ulN))))) (fun xq6 hq7 => ?_)
   refine GH.tk 10 (v := (.pointer (some ⟨bq2, 1, none⟩))) rfl (by kernel_rfl) (fun _ _ _ h => h) (Ex.cast (Ex.fieldAddr rfl Try.underlying25 rfl T.sz23 (by decide)) rfl) (ulS (ulS (ulS (ulC ulN)))) (by decide) ?_
   refine GH.done (by kernel_rfl) ?_
   refine GE.thenN ?_
   refine GE.tail rfl (Stp.st2 (cs' := [(.int .i64 sp), (.slice (a.add (Nq.mk 1 1 [ls.getD a.n 0] bq4 1 []) xq6).ad ((a.add (Nq.mk 1 1 [ls.getD a.n 0] bq4 1 []) xq6).n) ((a.add (Nq.mk 1 1 [ls.getD a.n 0] bq4 1 []) xq6).cp))]) rfl rfl rfl T.sz23 rfl rfl rfl) (fun _ _ => ?_)
   refine GE.blockN (GE.thenN ?_)
   refine GC.hp (L2 := (⟨bq2, [(.int .i64 sp), (.slice (a.add (Nq.mk 1 1 [ls.getD a.n 0] bq4 1 []) xq6).ad ((a.add (Nq.mk 1 1 [ls.getD a.n 0] bq4 1 []) xq6).n) ((a.add (Nq.mk 1 1 [ls.getD a.n 0] bq4 1 []) xq6).cp))], 25, true⟩ :: ⟨bq1, [(.int .i64 0), (.slice none 0 0)], 25, true⟩ :: ((a.add (Nq.mk 1 1 [ls.getD a.n 0] bq4 1 []) xq6).row 43 ++ ((a.add (Nq.mk 1 1 [ls.getD a.n 0] bq4 1 []) xq6).qs.map (Nq.blk 28) ++ [])))) (fun w h => by rw [Ac.add_map, List.append_assoc]; exact Hp.segsD (A := [[⟨bq5, [(.int .i64 1), (.int .i64 1), (.slice (some ⟨bq4, 0, none⟩) 1 1)], 43, true⟩], [⟨bq4, [(.int .u32 ((ls.getD a.n 0)))], 28, true⟩], [⟨bq2, [(.int .i64 sp), (.slice (a.add (Nq.mk 1 1 [ls.getD a.n 0] bq4 1 []) xq6).ad ((a.add (Nq.mk 1 1 [ls.getD a.n 0] bq4 1 []) xq6).n) ((a.add (Nq.mk 1 1 [ls.getD a.n 0] bq4 1 []) xq6).cp))], 25, true⟩, ⟨bq1, [(.int .i64 0), (.slice none 0 0)], 25, true⟩], ((a.add (Nq.mk 1 1 [ls.getD a.n 0] bq4 1 []) xq6).row 43), (a.qs.map (Nq.blk 28))]) (idx := [2, 3, 4, 1]) 5 [0] h rfl (by decide) rfl) ?_
   refine GC.region ?_
   refine GL.mv rfl (by decide) ?_
   refine GL.val (v := (.int .i64 ((((a.add (Nq.mk 1 1 [ls.getD a.n 0] bq4 1 []) xq6).n : Nat) : Int)))) (Ex.add rfl rfl (Z := (((a.add (Nq.mk 1 1 [ls.getD a.n 0] bq4 1 []) xq6).n : Nat) : Int)) (by rw [Ac.add_n, w64 (by omega)]; omega)) (by decide) ?_
   refine GL.sg rfl (by decide) ?_
   refine GL.nil (GE.thenN ?_)
   exact Head.mk ((a.add (Nq.mk 1 1 [ls.getD a.n 0] bq4 1 []) xq6)) ⟨by rw [Ac.add_n]; omega, Ac.ds_step hp.2.1 rfl, hq7, Ac.add_mem hp.2.2.2 ⟨rfl, (show 1 ≤ 9223372036854775807 by decide)⟩⟩ (by rw [Ac.add_n]; omega) ((sub_cons rfl ((sub_cons rfl ((sub_cons rfl ((sub_cons rfl ((sub_nil _)))))))))) (ulC (ulC ulR))
  refine GHs.cons rfl (Stp.buildSlice (cs := [(.int .u32 ((ls.getD a.n 0)))]) (vs := [(0, (.int .u32 ((ls.getD a.n 0))))]) Try.underlying41 T.zr28 T.sz28 rfl (by decide) (by decide) (by first | rfl | kernel_rfl) (by decide)) (fun _ => (ulS (ulS (ulC ulN)))) (fun bq8 _ => ?_) ?_
  ·refine GH.tk 7 (v := (.agg #[(.int .i64 1), (.int .i64 1), (.slice (some ⟨bq8, 0, none⟩) 1 1)])) rfl (by kernel_rfl) (fun _ _ _ h => h) (Ex.build (vs := [(0, (.int .i64 1)), (1, (.int .i64 1)), (2, (.slice (some ⟨bq8, 0, none⟩) 1 1))]) rfl (by first | rfl | kernel_rfl)) (ulS (ulS (ulC ulN))) (by decide) ?_
   refine GH.many (rs := [1, 8]) (by kernel_rfl) (by simp) ?_
   refine GHs.cons rfl (Ex.wp (v := (.slice a.ad a.n a.cp)) (Ex.load rfl T.ag23 (i := 1) rfl rfl) (by decide)) (fun _ => (ulS (ulS (ulC ulN)))) (fun _ _ => ?_) ?_
   ·refine GH.one 8 rfl (by kernel_rfl) (Stp.buildSlice (cs := [(.int .i64 1), (.int .i64 1), (.slice (some ⟨bq8, 0, none⟩) 1 1)]) (vs := [(0, (.agg #[(.int .i64 1), (.int .i64 1), (.slice (some ⟨bq8, 0, none⟩) 1 1)]))]) Try.underlying23 T.zr43 T.sz43 rfl (by decide) (by decide) (by first | rfl | kernel_rfl) (by decide)) (fun _ => (ulS (ulS (ulS (ulC ulN))))) (fun bq9 _ => ?_)
    refine GH.one 9 rfl (by kernel_rfl) (Stp.appAc (a := a) (q := (Nq.mk 1 1 [ls.getD a.n 0] bq8 1 [])) (K := [⟨bq9, [(.int .i64 1), (.int .i64 1), (.slice (some ⟨bq8, 0, none⟩) 1 1)], 43, true⟩, ⟨bq8, [(.int .u32 ((ls.getD a.n 0)))], 28, true⟩, ⟨bq2, [(.int .i64 sp), (.slice a.ad a.n a.cp)], 25, true⟩, ⟨bq1, [(.int .i64 0), (.slice none 0 0)], 25, true⟩]) (R := (a.qs.map (Nq.blk 28) ++ [])) rfl rfl Try.underlying23 T.sz43 T.zr43 rfl T.by43 rfl hp.2.2.1 (fun w hw => hw.rdOf (i := 0) rfl 0) (by omega) (by omega) (by decide)) (fun _ => (ulS (ulS (ulS (ulC ulN))))) (fun xq10 hq11 => ?_)
    refine GH.tk 10 (v := (.pointer (some ⟨bq2, 1, none⟩))) rfl (by kernel_rfl) (fun _ _ _ h => h) (Ex.cast (Ex.fieldAddr rfl Try.underlying25 rfl T.sz23 (by decide)) rfl) (ulS (ulS (ulS (ulC ulN)))) (by decide) ?_
    refine GH.done (by kernel_rfl) ?_
    refine GE.thenN ?_
    refine GE.tail rfl (Stp.st2 (cs' := [(.int .i64 sp), (.slice (a.add (Nq.mk 1 1 [ls.getD a.n 0] bq8 1 []) xq10).ad ((a.add (Nq.mk 1 1 [ls.getD a.n 0] bq8 1 []) xq10).n) ((a.add (Nq.mk 1 1 [ls.getD a.n 0] bq8 1 []) xq10).cp))]) rfl rfl rfl T.sz23 rfl rfl rfl) (fun _ _ => ?_)
    refine GE.blockN (GE.thenN ?_)
    refine GC.hp (L2 := (⟨bq2, [(.int .i64 sp), (.slice (a.add (Nq.mk 1 1 [ls.getD a.n 0] bq8 1 []) xq10).ad ((a.add (Nq.mk 1 1 [ls.getD a.n 0] bq8 1 []) xq10).n) ((a.add (Nq.mk 1 1 [ls.getD a.n 0] bq8 1 []) xq10).cp))], 25, true⟩ :: ⟨bq1, [(.int .i64 0), (.slice none 0 0)], 25, true⟩ :: ((a.add (Nq.mk 1 1 [ls.getD a.n 0] bq8 1 []) xq10).row 43 ++ ((a.add (Nq.mk 1 1 [ls.getD a.n 0] bq8 1 []) xq10).qs.map (Nq.blk 28) ++ [])))) (fun w h => by rw [Ac.add_map, List.append_assoc]; exact Hp.segsD (A := [[⟨bq9, [(.int .i64 1), (.int .i64 1), (.slice (some ⟨bq8, 0, none⟩) 1 1)], 43, true⟩], [⟨bq8, [(.int .u32 ((ls.getD a.n 0)))], 28, true⟩], [⟨bq2, [(.int .i64 sp), (.slice (a.add (Nq.mk 1 1 [ls.getD a.n 0] bq8 1 []) xq10).ad ((a.add (Nq.mk 1 1 [ls.getD a.n 0] bq8 1 []) xq10).n) ((a.add (Nq.mk 1 1 [ls.getD a.n 0] bq8 1 []) xq10).cp))], 25, true⟩, ⟨bq1, [(.int .i64 0), (.slice none 0 0)], 25, true⟩], ((a.add (Nq.mk 1 1 [ls.getD a.n 0] bq8 1 []) xq10).row 43), (a.qs.map (Nq.blk 28))]) (idx := [2, 3, 4, 1]) 5 [0] h rfl (by decide) rfl) ?_
    refine GC.region ?_
    refine GL.mv rfl (by decide) ?_
    refine GL.val (v := (.int .i64 ((((a.add (Nq.mk 1 1 [ls.getD a.n 0] bq8 1 []) xq10).n : Nat) : Int)))) (Ex.add rfl rfl (Z := (((a.add (Nq.mk 1 1 [ls.getD a.n 0] bq8 1 []) xq10).n : Nat) : Int)) (by rw [Ac.add_n, w64 (by omega)]; omega)) (by decide) ?_
    refine GL.sg rfl (by decide) ?_
    refine GL.nil (GE.thenN ?_)
    exact Head.mk ((a.add (Nq.mk 1 1 [ls.getD a.n 0] bq8 1 []) xq10)) ⟨by rw [Ac.add_n]; omega, Ac.ds_step hp.2.1 rfl, hq11, Ac.add_mem hp.2.2.2 ⟨rfl, (show 1 ≤ 9223372036854775807 by decide)⟩⟩ (by rw [Ac.add_n]; omega) ((sub_cons rfl ((sub_cons rfl ((sub_cons rfl ((sub_cons rfl ((sub_nil _)))))))))) (ulC (ulC ulR))
   refine GHs.cons rfl (Stp.buildSlice (cs := [(.int .i64 1), (.int .i64 1), (.slice (some ⟨bq8, 0, none⟩) 1 1)]) (vs := [(0, (.agg #[(.int .i64 1), (.int .i64 1), (.slice (some ⟨bq8, 0, none⟩) 1 1)]))]) Try.underlying23 T.zr43 T.sz43 rfl (by decide) (by decide) (by first | rfl | kernel_rfl) (by decide)) (fun _ => (ulS (ulS (ulS (ulC ulN))))) (fun bq12 _ => ?_) ?_
   ·refine GH.one 1 rfl (by kernel_rfl) (Ex.wp (v := (.slice a.ad a.n a.cp)) (Ex.load rfl T.ag23 (i := 2) rfl rfl) (by decide)) (fun _ => (ulS (ulS (ulS (ulC ulN))))) (fun _ _ => ?_)
    refine GH.one 9 rfl (by kernel_rfl) (Stp.appAc (a := a) (q := (Nq.mk 1 1 [ls.getD a.n 0] bq8 1 [])) (K := [⟨bq12, [(.int .i64 1), (.int .i64 1), (.slice (some ⟨bq8, 0, none⟩) 1 1)], 43, true⟩, ⟨bq8, [(.int .u32 ((ls.getD a.n 0)))], 28, true⟩, ⟨bq2, [(.int .i64 sp), (.slice a.ad a.n a.cp)], 25, true⟩, ⟨bq1, [(.int .i64 0), (.slice none 0 0)], 25, true⟩]) (R := (a.qs.map (Nq.blk 28) ++ [])) rfl rfl Try.underlying23 T.sz43 T.zr43 rfl T.by43 rfl hp.2.2.1 (fun w hw => hw.rdOf (i := 0) rfl 0) (by omega) (by omega) (by decide)) (fun _ => (ulS (ulS (ulS (ulC ulN))))) (fun xq13 hq14 => ?_)
    refine GH.tk 10 (v := (.pointer (some ⟨bq2, 1, none⟩))) rfl (by kernel_rfl) (fun _ _ _ h => h) (Ex.cast (Ex.fieldAddr rfl Try.underlying25 rfl T.sz23 (by decide)) rfl) (ulS (ulS (ulS (ulC ulN)))) (by decide) ?_
    refine GH.done (by kernel_rfl) ?_
    refine GE.thenN ?_
    refine GE.tail rfl (Stp.st2 (cs' := [(.int .i64 sp), (.slice (a.add (Nq.mk 1 1 [ls.getD a.n 0] bq8 1 []) xq13).ad ((a.add (Nq.mk 1 1 [ls.getD a.n 0] bq8 1 []) xq13).n) ((a.add (Nq.mk 1 1 [ls.getD a.n 0] bq8 1 []) xq13).cp))]) rfl rfl rfl T.sz23 rfl rfl rfl) (fun _ _ => ?_)
    refine GE.blockN (GE.thenN ?_)
    refine GC.hp (L2 := (⟨bq2, [(.int .i64 sp), (.slice (a.add (Nq.mk 1 1 [ls.getD a.n 0] bq8 1 []) xq13).ad ((a.add (Nq.mk 1 1 [ls.getD a.n 0] bq8 1 []) xq13).n) ((a.add (Nq.mk 1 1 [ls.getD a.n 0] bq8 1 []) xq13).cp))], 25, true⟩ :: ⟨bq1, [(.int .i64 0), (.slice none 0 0)], 25, true⟩ :: ((a.add (Nq.mk 1 1 [ls.getD a.n 0] bq8 1 []) xq13).row 43 ++ ((a.add (Nq.mk 1 1 [ls.getD a.n 0] bq8 1 []) xq13).qs.map (Nq.blk 28) ++ [])))) (fun w h => by rw [Ac.add_map, List.append_assoc]; exact Hp.segsD (A := [[⟨bq12, [(.int .i64 1), (.int .i64 1), (.slice (some ⟨bq8, 0, none⟩) 1 1)], 43, true⟩], [⟨bq8, [(.int .u32 ((ls.getD a.n 0)))], 28, true⟩], [⟨bq2, [(.int .i64 sp), (.slice (a.add (Nq.mk 1 1 [ls.getD a.n 0] bq8 1 []) xq13).ad ((a.add (Nq.mk 1 1 [ls.getD a.n 0] bq8 1 []) xq13).n) ((a.add (Nq.mk 1 1 [ls.getD a.n 0] bq8 1 []) xq13).cp))], 25, true⟩, ⟨bq1, [(.int .i64 0), (.slice none 0 0)], 25, true⟩], ((a.add (Nq.mk 1 1 [ls.getD a.n 0] bq8 1 []) xq13).row 43), (a.qs.map (Nq.blk 28))]) (idx := [2, 3, 4, 1]) 5 [0] h rfl (by decide) rfl) ?_
    refine GC.region ?_
    refine GL.mv rfl (by decide) ?_
    refine GL.val (v := (.int .i64 ((((a.add (Nq.mk 1 1 [ls.getD a.n 0] bq8 1 []) xq13).n : Nat) : Int)))) (Ex.add rfl rfl (Z := (((a.add (Nq.mk 1 1 [ls.getD a.n 0] bq8 1 []) xq13).n : Nat) : Int)) (by rw [Ac.add_n, w64 (by omega)]; omega)) (by decide) ?_
    refine GL.sg rfl (by decide) ?_
    refine GL.nil (GE.thenN ?_)
    exact Head.mk ((a.add (Nq.mk 1 1 [ls.getD a.n 0] bq8 1 []) xq13)) ⟨by rw [Ac.add_n]; omega, Ac.ds_step hp.2.1 rfl, hq14, Ac.add_mem hp.2.2.2 ⟨rfl, (show 1 ≤ 9223372036854775807 by decide)⟩⟩ (by rw [Ac.add_n]; omega) ((sub_cons rfl ((sub_cons rfl ((sub_cons rfl ((sub_cons rfl ((sub_nil _)))))))))) (ulC (ulC ulR))
   exact GHs.nil
  exact GHs.nil
 ·replace hq3 := of_decide_eq_false hq3
  refine GC.exit (GE.thenE (GE.thenE (GE.blockE (GE.thenN (GC.seq (GC.region ?_))))))
  refine GL.val (v := (.agg #[(.int .i64 sp), (.slice a.ad a.n a.cp)])) (Ex.loadA rfl T.ag25 T.sz25 (i := 0) rfl (vs := [(.int .i64 sp), (.slice a.ad a.n a.cp)]) rfl rfl) (by decide) ?_
  refine GL.step (Stp.st1 (cs' := [(.int .i64 sp), (.slice a.ad a.n a.cp)]) rfl rfl rfl T.sz25 rfl rfl rfl) (fun _ _ => ?_)
  refine GL.nil (GE.thenN (GC.ret ?_))
  refine GC.ret1 rfl (Rv.cellA rfl T.ag25 T.sz25 (L := _) (i := 1) rfl (vs := [(.int .i64 sp), (.slice a.ad a.n a.cp)]) rfl rfl) (fun wN HN => ?_)
  exact HN.ret a ⟨Ac.ne (by omega), by rw [hp.2.1, show a.n = ls.length by omega]; rfl, hp.2.2⟩ (by rw [show n = a.n by omega]) (ulS (ulS ulR)) (Ac.blks_own _ _ _)

theorem affine_a (sp : Int) (ad : Option Addr) (n cap : Nat) (ps : List Pn) (W H : Nat) (a b_ : Int) (f : Int → Int) (w : World) (hps : PnsA w ad ps) (hn : n = ps.length) (hok : OkPic sp ps W H) (hf : ∀ p ∈ ps, ∀ x ∈ p.xs, ∀ w', Keep None w w' → Calls Try.prog 81 #[.int .u32 x, .int .u32 a, .int .u32 b_] w' (Ret w' (fun _ : Unit => True) (fun _ => .int .u32 (f x)) (fun _ => []))) : Calls Try.prog 13 #[(.agg #[(.int .i64 sp), (.slice ad n cap)]), .int .i64 (-1), .int .u32 a, .int .u32 b_] w (Ret w (fun r : Ac => r.qs ≠ [] ∧ r.ds = ((List.range n).map (mpG f ((-1)) ps)) ∧ r.Ok ∧ ∀ q ∈ r.qs, q.Ok) (fun r => .tuple #[.agg #[.int .i64 sp, .slice r.ad n r.cp], .int .i64 0]) (fun r => r.blks 43 28)) := by
 obtain ⟨b, o, rfl, h⟩ := hps.at hok.n0
 refine (affine_all sp b o n cap ps W H a b_ f w h hn hok hf).mono fun e w' hr => ?_
 exact Ret.to id hr (fun _ h => h) (fun r h => by have e : r.n = n := by { rw [← Ac.ds_len, h.2.1]; simp }; rw [e]; rfl) (fun _ _ => rfl)

theorem between_a (sp : Int) (ad : Option Addr) (n cap : Nat) (ps : List Pn) (W H : Nat) (a b_ : Int) (f : Int → Int) (w : World) (hps : PnsA w ad ps) (hn : n = ps.length) (hok : OkPic sp ps W H) (hf : ∀ p ∈ ps, ∀ x ∈ p.xs, ∀ w', Keep None w w' → Calls Try.prog 90 #[.int .u32 x, .int .u32 a, .int .u32 b_] w' (Ret w' (fun _ : Unit => True) (fun _ => .int .u32 (f x)) (fun _ => []))) : Calls Try.prog 18 #[(.agg #[(.int .i64 sp), (.slice ad n cap)]), .int .i64 (-1), .int .u32 a, .int .u32 b_] w (Ret w (fun r : Ac => r.qs ≠ [] ∧ r.ds = ((List.range n).map (mpG f ((-1)) ps)) ∧ r.Ok ∧ ∀ q ∈ r.qs, q.Ok) (fun r => .tuple #[.agg #[.int .i64 sp, .slice r.ad n r.cp], .int .i64 0]) (fun r => r.blks 43 28)) := by
 obtain ⟨b, o, rfl, h⟩ := hps.at hok.n0
 refine (between_all sp b o n cap ps W H a b_ f w h hn hok hf).mono fun e w' hr => ?_
 exact Ret.to id hr (fun _ h => h) (fun r h => by have e : r.n = n := by { rw [← Ac.ds_len, h.2.1]; simp }; rw [e]; rfl) (fun _ _ => rfl)

theorem matrix_sw_a (sp : Int) (ad : Option Addr) (n cap : Nat) (ps : List Pn) (W H : Nat) (A : Nat) (f : Int → Int → Int → Int × Int × Int) (w : World) (hps : PnsA w ad ps) (hn : n = ps.length) (hok : OkPic sp ps W H) (hA : A = W * H) (hn3 : 3 ≤ n) (hm : ∀ (bR : Nat) (w' : World), Has w' [⟨bR, [(.float .f64 0), (.float .f64 0), (.float .f64 4607182418800017408), (.float .f64 0), (.float .f64 4607182418800017408), (.float .f64 0), (.float .f64 4607182418800017408), (.float .f64 0), (.float .f64 0)], 93, false⟩] → ∀ x ∈ (pAt ps 0).xs, ∀ y ∈ (pAt ps 1).xs, ∀ z ∈ (pAt ps 2).xs, Calls Try.prog 49 #[.int .u32 x, .int .u32 y, .int .u32 z, .pointer (some ⟨bR, 0, none⟩)] w' (Ret w' (fun _ : Unit => True) (fun _ => .tuple #[.int .u32 (f x y z).1, .int .u32 (f x y z).2.1, .int .u32 (f x y z).2.2]) (fun _ => []))) : Calls Try.prog 14 #[(.agg #[(.int .i64 sp), (.slice ad n cap)]), (.agg #[(.int .u32 0), (.int .u32 0), (.int .u32 1065353216), (.int .u32 0), (.int .u32 1065353216), (.int .u32 0), (.int .u32 1065353216), (.int .u32 0), (.int .u32 0)])] w (Ret w (fun r : Ac => r.qs ≠ [] ∧ r.ds = ((List.range n).map (trD f ps A)) ∧ r.Ok ∧ ∀ q ∈ r.qs, q.Ok) (fun r => .tuple #[.agg #[.int .i64 sp, .slice r.ad n r.cp], .int .i64 0]) (fun r => r.blks 43 28)) := by
 obtain ⟨b, o, rfl, h⟩ := hps.at hok.n0
 refine (matrix_sw sp b o n cap ps W H A f w h hn hok hA hn3 hm).mono fun e w' hr => ?_
 exact Ret.to id hr (fun _ h => h) (fun r h => by have e : r.n = n := by { rw [← Ac.ds_len, h.2.1]; simp }; rw [e]; rfl) (fun _ _ => rfl)

theorem two_a (kind : Int) (sp : Int) (ad : Option Addr) (n cap : Nat) (ps : List Pn) (W H : Nat) (ad2 : Option Addr) (c2 : Nat) (qs : List Pn) (fid : FuncId) (f : Int → Int → Int) (w : World) (hps : PnsA w ad ps) (hn : n = ps.length) (hok : OkPic sp ps W H) (hqs : PnsA w ad2 qs) (hq2 : n = qs.length) (hok2 : OkPic sp qs W H) (h2 : ∀ w', Calls Try.prog 52 #[.int .i64 kind] w' (Ret w' (fun _ : Unit => True) (fun _ => (.func (.func fid) #[] #[])) (fun _ => []))) (hf : ∀ i, i < n → FnS2 Try.prog w fid (pAt ps i).xs (pAt qs i).xs f) : Calls Try.prog 15 #[.int .i64 kind, (.agg #[(.int .i64 sp), (.slice ad n cap)]), (.agg #[(.int .i64 sp), (.slice ad2 n c2)])] w (Ret w (fun r : Ac => r.qs ≠ [] ∧ r.ds = ((List.range n).map (twG f ps qs)) ∧ r.Ok ∧ ∀ q ∈ r.qs, q.Ok) (fun r => .tuple #[.agg #[.int .i64 sp, .slice r.ad n r.cp], .int .i64 0]) (fun r => r.blks 43 28)) := by
 obtain ⟨b, o, rfl, h⟩ := hps.at hok.n0
 obtain ⟨b2, o2, rfl, hq⟩ := hqs.at hok2.n0
 refine (two_ok kind sp b o n cap b2 o2 c2 ps qs W H fid f w h hn hok hq hq2 hok2 h2 hf).mono fun e w' hr => ?_
 exact Ret.to id hr (fun _ h => h) (fun r h => by have e : r.n = n := by { rw [← Ac.ds_len, h.2.1]; simp }; rw [e]; rfl) (fun _ _ => rfl)

theorem q109_5 (w : World) :
  Calls Try.prog 109 #[(.int .u32 1065353216)] w (Ret w (fun _ : Unit => True) (fun rz => (.float .f32 1065353216)) (fun rz => [])) := by
 refine enter (M := None) (L := []) (n := 5) (l := [(0, (.int .u32 1065353216))]) Try.func109 rfl rfl (Args.cons rfl (Args.nil _)) (Hp.start _ _) ?_
 refine GC.seq (GC.region ?_)
 refine GL.sg rfl (by decide) ?_
 refine GL.nil (GE.thenN (GC.seq (GC.region ?_)))
 refine GL.mv rfl (by decide) ?_
 refine GL.val (v := (.float .f32 1065353216)) (Ex.ext (vs := [(.int .u32 1065353216)]) rfl rfl T.ext54 (fun _ => by first | rfl | kernel_rfl)) (by decide) ?_
 refine GL.sg rfl (by decide) ?_
 refine GL.nil (GE.thenN (GC.ret ?_))
 refine GC.ret1 rfl (Rv.tmp rfl) (fun wN HN => ?_)
 exact HN.ret () trivial rfl ulN rfl

theorem q103_4 (w : World) :
  Calls Try.prog 103 #[(.int .u32 1065353216)] w (Ret w (fun _ : Unit => True) (fun rz => (.float .f64 4607182418800017408)) (fun rz => [])) := by
 refine enter (M := None) (L := []) (n := 6) (l := [(0, (.int .u32 1065353216))]) Try.func103 rfl rfl (Args.cons rfl (Args.nil _)) (Hp.start _ _) ?_
 refine GC.seq (GC.region ?_)
 refine GL.sg rfl (by decide) ?_
 refine GL.nil (GE.thenN (GC.seq (GC.region ?_)))
 refine GL.mv rfl (by decide) ?_
 refine GL.step (Stp.callR (vs := [(.int .u32 1065353216)]) rfl rfl T.own109 (by decide) (fun wc hw => q109_5  wc )) (fun xq1 hq2 => ?_)
 refine GL.val (v := (.float .f64 4607182418800017408)) (Ex.cff (r := 4607182418800017408) rfl Try.underlying99 Try.underlying44 (by kernel_rfl)) (by decide) ?_
 refine GL.sg rfl (by decide) ?_
 refine GL.nil (GE.thenN (GC.ret ?_))
 refine GC.ret1 rfl (Rv.tmp rfl) (fun wN HN => ?_)
 exact HN.ret () trivial rfl ulN rfl

theorem q109_7 (w : World) :
  Calls Try.prog 109 #[(.int .u32 1073741824)] w (Ret w (fun _ : Unit => True) (fun rz => (.float .f32 1073741824)) (fun rz => [])) := by
 refine enter (M := None) (L := []) (n := 5) (l := [(0, (.int .u32 1073741824))]) Try.func109 rfl rfl (Args.cons rfl (Args.nil _)) (Hp.start _ _) ?_
 refine GC.seq (GC.region ?_)
 refine GL.sg rfl (by decide) ?_
 refine GL.nil (GE.thenN (GC.seq (GC.region ?_)))
 refine GL.mv rfl (by decide) ?_
 refine GL.val (v := (.float .f32 1073741824)) (Ex.ext (vs := [(.int .u32 1073741824)]) rfl rfl T.ext54 (fun _ => by first | rfl | kernel_rfl)) (by decide) ?_
 refine GL.sg rfl (by decide) ?_
 refine GL.nil (GE.thenN (GC.ret ?_))
 refine GC.ret1 rfl (Rv.tmp rfl) (fun wN HN => ?_)
 exact HN.ret () trivial rfl ulN rfl

theorem q103_6 (w : World) :
  Calls Try.prog 103 #[(.int .u32 1073741824)] w (Ret w (fun _ : Unit => True) (fun rz => (.float .f64 4611686018427387904)) (fun rz => [])) := by
 refine enter (M := None) (L := []) (n := 6) (l := [(0, (.int .u32 1073741824))]) Try.func103 rfl rfl (Args.cons rfl (Args.nil _)) (Hp.start _ _) ?_
 refine GC.seq (GC.region ?_)
 refine GL.sg rfl (by decide) ?_
 refine GL.nil (GE.thenN (GC.seq (GC.region ?_)))
 refine GL.mv rfl (by decide) ?_
 refine GL.step (Stp.callR (vs := [(.int .u32 1073741824)]) rfl rfl T.own109 (by decide) (fun wc hw => q109_7  wc )) (fun xq1 hq2 => ?_)
 refine GL.val (v := (.float .f64 4611686018427387904)) (Ex.cff (r := 4611686018427387904) rfl Try.underlying99 Try.underlying44 (by kernel_rfl)) (by decide) ?_
 refine GL.sg rfl (by decide) ?_
 refine GL.nil (GE.thenN (GC.ret ?_))
 refine GC.ret1 rfl (Rv.tmp rfl) (fun wN HN => ?_)
 exact HN.ret () trivial rfl ulN rfl

theorem q119_9 (w : World) :
  Calls Try.prog 119 #[(.float .f64 4613937818241073152)] w (Ret w (fun _ : Unit => True) (fun rz => (.float .f64 4613937818241073152)) (fun rz => [])) := by
 refine enter (M := None) (L := []) (n := 7) (l := [(0, (.float .f64 4613937818241073152))]) Try.func119 rfl rfl (Args.cons rfl (Args.nil _)) (Hp.start _ _) ?_
 refine GC.seq (GC.region ?_)
 refine GL.sg rfl (by decide) ?_
 refine GL.nil (GE.thenN (GC.seq (GC.region ?_)))
 refine GL.mv rfl (by decide) ?_
 refine GL.val (v := (.int .u64 4613937818241073152)) (Ex.ext (vs := [(.float .f64 4613937818241073152)]) rfl rfl T.ext106 (fun _ => by first | rfl | kernel_rfl)) (by decide) ?_
 refine GL.val (v := (.int .u64 4613937818241073152)) (Ex.andn rfl rfl (Z := 4613937818241073152) (by decide +kernel)) (by decide) ?_
 refine GL.val (v := (.float .f64 4613937818241073152)) (Ex.ext (vs := [(.int .u64 4613937818241073152)]) rfl rfl T.ext107 (fun _ => by first | rfl | kernel_rfl)) (by decide) ?_
 refine GL.sg rfl (by decide) ?_
 refine GL.nil (GE.thenN (GC.ret ?_))
 refine GC.ret1 rfl (Rv.tmp rfl) (fun wN HN => ?_)
 exact HN.ret () trivial rfl ulN rfl

theorem q104_8 (w : World) :
  Calls Try.prog 104 #[(.float .f64 4613937818241073152), (.int .i64 0)] w (Ret w (fun _ : Unit => True) (fun rz => (.bool false)) (fun rz => [])) := by
 refine enter (M := None) (L := []) (n := 15) (l := [(0, (.float .f64 4613937818241073152)), (1, (.int .i64 0))]) Try.func104 rfl rfl (Args.cons rfl (Args.cons rfl (Args.nil _))) (Hp.start _ _) ?_
 refine GC.seq (GC.region ?_)
 refine GL.sg rfl (by decide) ?_
 refine GL.nil (GE.thenN (GC.seq (GC.seq (GC.region ?_))))
 refine GL.mv rfl (by decide) ?_
 refine GL.val (v := (.bool true)) (Ex.cast (Ex.eql rfl rfl) rfl) (by decide) ?_
 refine GL.nil (GE.thenN ?_)
 refine GC.cond rfl (fun _ => ?_) (fun hq1 => by cases hq1)
 refine GC.region ?_
 refine GL.mv rfl (by decide) ?_
 refine GL.step (Stp.callR (vs := [(.float .f64 4613937818241073152)]) rfl rfl T.own119 (by decide) (fun wc hw => q119_9  wc )) (fun xq2 hq3 => ?_)
 refine GL.sg rfl (by decide) ?_
 refine GL.nil (GE.thenN (GC.seq (GC.region ?_)))
 refine GL.mv rfl (by decide) ?_
 refine GL.val (v := (.bool false)) (Ex.fgtr (r := false) rfl rfl (by kernel_rfl)) (by decide) ?_
 refine GL.sg rfl (by decide) ?_
 refine GL.nil (GE.thenN (GC.ret ?_))
 refine GC.ret1 rfl (Rv.tmp rfl) (fun wN HN => ?_)
 exact HN.ret () trivial rfl ulN rfl

theorem q105_10 (w : World) :
  Calls Try.prog 105 #[(.float .f32 1077936128)] w (Ret w (fun _ : Unit => True) (fun rz => (.int .u32 1077936128)) (fun rz => [])) := by
 refine enter (M := None) (L := []) (n := 8) (l := [(0, (.float .f32 1077936128))]) Try.func105 rfl rfl (Args.cons rfl (Args.nil _)) (Hp.start _ _) ?_
 refine GC.seq (GC.region ?_)
 refine GL.sg rfl (by decide) ?_
 refine GL.nil (GE.thenN (GC.seq (GC.seq (GC.region ?_))))
 refine GL.mv rfl (by decide) ?_
 refine GL.mv rfl (by decide) ?_
 refine GL.val (v := (.bool false)) (Ex.fneq (r := false) rfl rfl (by kernel_rfl)) (by decide) ?_
 refine GL.nil (GE.thenN ?_)
 refine GC.cond rfl (fun hq1 => by cases hq1) (fun _ => ?_)
 refine GC.skip (GE.thenN (GC.seq (GC.region ?_)))
 refine GL.mv rfl (by decide) ?_
 refine GL.val (v := (.int .u32 1077936128)) (Ex.ext (vs := [(.float .f32 1077936128)]) rfl rfl T.ext83 (fun _ => by first | rfl | kernel_rfl)) (by decide) ?_
 refine GL.sg rfl (by decide) ?_
 refine GL.nil (GE.thenN (GC.ret ?_))
 refine GC.ret1 rfl (Rv.tmp rfl) (fun wN HN => ?_)
 exact HN.ret () trivial rfl ulN rfl

theorem q81_3 (w : World) :
  Calls Try.prog 81 #[(.int .u32 1065353216), (.int .u32 1073741824), (.int .u32 1065353216)] w (Ret w (fun _ : Unit => True) (fun rz => (.int .u32 1077936128)) (fun rz => [])) := by
 refine enter (M := None) (L := []) (n := 68) (l := [(0, (.int .u32 1065353216)), (1, (.int .u32 1073741824)), (2, (.int .u32 1065353216))]) Try.func81 rfl rfl (Args.cons rfl (Args.cons rfl (Args.cons rfl (Args.nil _)))) (Hp.start _ _) ?_
 refine GC.seq (GC.region ?_)
 refine GL.sg rfl (by decide) ?_
 refine GL.nil (GE.thenN (GC.seq (GC.region ?_)))
 refine GL.mv rfl (by decide) ?_
 refine GL.step (Stp.callR (vs := [(.int .u32 1065353216)]) rfl rfl T.own103 (by decide) (fun wc hw => q103_4  wc )) (fun xq1 hq2 => ?_)
 refine GL.mv rfl (by decide) ?_
 refine GL.step (Stp.callR (vs := [(.int .u32 1073741824)]) rfl rfl T.own103 (by decide) (fun wc hw => q103_6  wc )) (fun xq3 hq4 => ?_)
 refine GL.val (v := (.float .f64 4611686018427387904)) (Ex.farith (r := 4611686018427387904) rfl rfl (by kernel_rfl)) (by decide) ?_
 refine GL.sg rfl (by decide) ?_
 refine GL.nil (GE.thenN (GC.seq (GC.region ?_)))
 refine GL.mv rfl (by decide) ?_
 refine GL.step (Stp.callR (vs := [(.int .u32 1065353216)]) rfl rfl T.own103 (by decide) (fun wc hw => q103_4  wc )) (fun xq5 hq6 => ?_)
 refine GL.sg rfl (by decide) ?_
 refine GL.nil (GE.thenN (GC.seq (GC.region ?_)))
 refine GL.mv rfl (by decide) ?_
 refine GL.mv rfl (by decide) ?_
 refine GL.val (v := (.float .f64 4613937818241073152)) (Ex.farith (r := 4613937818241073152) rfl rfl (by kernel_rfl)) (by decide) ?_
 refine GL.sg rfl (by decide) ?_
 refine GL.nil (GE.thenN (GC.seq (GC.seq (GC.region ?_))))
 refine GL.mv rfl (by decide) ?_
 refine GL.mv rfl (by decide) ?_
 refine GL.val (v := (.bool false)) (Ex.fneq (r := false) rfl rfl (by kernel_rfl)) (by decide) ?_
 refine GL.mv rfl (by decide) ?_
 refine GL.stepG (tj := 26) rfl rfl (Ex.wp (v := (.float .f64 4613937818241073152)) (Ex.move rfl) (by decide)) (fun _ _ => ?_)
 refine GL.stepG (tj := 26) rfl rfl (Stp.callR (vs := [(.float .f64 4613937818241073152), (.int .i64 0)]) rfl rfl T.own104 (by decide) (fun wc hw => q104_8  wc )) (fun xq7 hq8 => ?_)
 refine GL.val (v := (.bool false)) (Ex.pickF rfl rfl) (by decide) ?_
 refine GL.nil (GE.thenN ?_)
 refine GC.cond rfl (fun hq9 => by cases hq9) (fun _ => ?_)
 refine GC.skip (GE.thenN (GC.seq (GC.region ?_)))
 refine GL.mv rfl (by decide) ?_
 refine GL.mv rfl (by decide) ?_
 refine GL.val (v := (.float .f64 4607182418800017408)) (Ex.farith (r := 4607182418800017408) rfl rfl (by kernel_rfl)) (by decide) ?_
 refine GL.sg rfl (by decide) ?_
 refine GL.nil (GE.thenN (GC.seq (GC.region ?_)))
 refine GL.mv rfl (by decide) ?_
 refine GL.mv rfl (by decide) ?_
 refine GL.mv rfl (by decide) ?_
 refine GL.val (v := (.float .f64 4611686018427387904)) (Ex.farith (r := 4611686018427387904) rfl rfl (by kernel_rfl)) (by decide) ?_
 refine GL.val (v := (.float .f64 0)) (Ex.farith (r := 0) rfl rfl (by kernel_rfl)) (by decide) ?_
 refine GL.mv rfl (by decide) ?_
 refine GL.mv rfl (by decide) ?_
 refine GL.val (v := (.float .f64 0)) (Ex.farith (r := 0) rfl rfl (by kernel_rfl)) (by decide) ?_
 refine GL.val (v := (.float .f64 0)) (Ex.farith (r := 0) rfl rfl (by kernel_rfl)) (by decide) ?_
 refine GL.sg rfl (by decide) ?_
 refine GL.nil (GE.thenN (GC.seq (GC.seq (GC.region ?_))))
 refine GL.mv rfl (by decide) ?_
 refine GL.val (v := (.int .u64 4613937818241073152)) (Ex.ext (vs := [(.float .f64 4613937818241073152)]) rfl rfl T.ext106 (fun _ => by first | rfl | kernel_rfl)) (by decide) ?_
 refine GL.sg rfl (by decide) ?_
 refine GL.nil (GE.thenN (GC.seq (GC.region ?_)))
 refine GL.mv rfl (by decide) ?_
 refine GL.val (v := (.bool false)) (Ex.fneq (r := false) rfl rfl (by kernel_rfl)) (by decide) ?_
 refine GL.mv rfl (by decide) ?_
 refine GL.skipG (tj := 49) rfl rfl rfl (by decide) ?_
 refine GL.skipG (tj := 49) rfl rfl rfl (by decide) ?_
 refine GL.skipG (tj := 49) rfl rfl rfl (by decide) ?_
 refine GL.val (v := (.bool false)) (Ex.pickF rfl rfl) (by decide) ?_
 refine GL.nil (GE.thenN ?_)
 refine GC.cond rfl (fun hq10 => by cases hq10) (fun _ => ?_)
 refine GC.skip (GE.thenN (GC.seq (GC.region ?_)))
 refine GL.mv rfl (by decide) ?_
 refine GL.val (v := (.float .f32 1077936128)) (Ex.cff (r := 1077936128) rfl Try.underlying44 Try.underlying99 (by kernel_rfl)) (by decide) ?_
 refine GL.step (Stp.callR (vs := [(.float .f32 1077936128)]) rfl rfl T.own105 (by decide) (fun wc hw => q105_10  wc )) (fun xq11 hq12 => ?_)
 refine GL.sg rfl (by decide) ?_
 refine GL.nil (GE.thenN (GC.ret ?_))
 refine GC.ret1 rfl (Rv.tmp rfl) (fun wN HN => ?_)
 exact HN.ret () trivial rfl ulN rfl

theorem q119_13 (w : World) :
  Calls Try.prog 119 #[(.float .f64 4617315517961601024)] w (Ret w (fun _ : Unit => True) (fun rz => (.float .f64 4617315517961601024)) (fun rz => [])) := by
 refine enter (M := None) (L := []) (n := 7) (l := [(0, (.float .f64 4617315517961601024))]) Try.func119 rfl rfl (Args.cons rfl (Args.nil _)) (Hp.start _ _) ?_
 refine GC.seq (GC.region ?_)
 refine GL.sg rfl (by decide) ?_
 refine GL.nil (GE.thenN (GC.seq (GC.region ?_)))
 refine GL.mv rfl (by decide) ?_
 refine GL.val (v := (.int .u64 4617315517961601024)) (Ex.ext (vs := [(.float .f64 4617315517961601024)]) rfl rfl T.ext106 (fun _ => by first | rfl | kernel_rfl)) (by decide) ?_
 refine GL.val (v := (.int .u64 4617315517961601024)) (Ex.andn rfl rfl (Z := 4617315517961601024) (by decide +kernel)) (by decide) ?_
 refine GL.val (v := (.float .f64 4617315517961601024)) (Ex.ext (vs := [(.int .u64 4617315517961601024)]) rfl rfl T.ext107 (fun _ => by first | rfl | kernel_rfl)) (by decide) ?_
 refine GL.sg rfl (by decide) ?_
 refine GL.nil (GE.thenN (GC.ret ?_))
 refine GC.ret1 rfl (Rv.tmp rfl) (fun wN HN => ?_)
 exact HN.ret () trivial rfl ulN rfl

theorem q104_12 (w : World) :
  Calls Try.prog 104 #[(.float .f64 4617315517961601024), (.int .i64 0)] w (Ret w (fun _ : Unit => True) (fun rz => (.bool false)) (fun rz => [])) := by
 refine enter (M := None) (L := []) (n := 15) (l := [(0, (.float .f64 4617315517961601024)), (1, (.int .i64 0))]) Try.func104 rfl rfl (Args.cons rfl (Args.cons rfl (Args.nil _))) (Hp.start _ _) ?_
 refine GC.seq (GC.region ?_)
 refine GL.sg rfl (by decide) ?_
 refine GL.nil (GE.thenN (GC.seq (GC.seq (GC.region ?_))))
 refine GL.mv rfl (by decide) ?_
 refine GL.val (v := (.bool true)) (Ex.cast (Ex.eql rfl rfl) rfl) (by decide) ?_
 refine GL.nil (GE.thenN ?_)
 refine GC.cond rfl (fun _ => ?_) (fun hq1 => by cases hq1)
 refine GC.region ?_
 refine GL.mv rfl (by decide) ?_
 refine GL.step (Stp.callR (vs := [(.float .f64 4617315517961601024)]) rfl rfl T.own119 (by decide) (fun wc hw => q119_13  wc )) (fun xq2 hq3 => ?_)
 refine GL.sg rfl (by decide) ?_
 refine GL.nil (GE.thenN (GC.seq (GC.region ?_)))
 refine GL.mv rfl (by decide) ?_
 refine GL.val (v := (.bool false)) (Ex.fgtr (r := false) rfl rfl (by kernel_rfl)) (by decide) ?_
 refine GL.sg rfl (by decide) ?_
 refine GL.nil (GE.thenN (GC.ret ?_))
 refine GC.ret1 rfl (Rv.tmp rfl) (fun wN HN => ?_)
 exact HN.ret () trivial rfl ulN rfl

theorem q105_14 (w : World) :
  Calls Try.prog 105 #[(.float .f32 1084227584)] w (Ret w (fun _ : Unit => True) (fun rz => (.int .u32 1084227584)) (fun rz => [])) := by
 refine enter (M := None) (L := []) (n := 8) (l := [(0, (.float .f32 1084227584))]) Try.func105 rfl rfl (Args.cons rfl (Args.nil _)) (Hp.start _ _) ?_
 refine GC.seq (GC.region ?_)
 refine GL.sg rfl (by decide) ?_
 refine GL.nil (GE.thenN (GC.seq (GC.seq (GC.region ?_))))
 refine GL.mv rfl (by decide) ?_
 refine GL.mv rfl (by decide) ?_
 refine GL.val (v := (.bool false)) (Ex.fneq (r := false) rfl rfl (by kernel_rfl)) (by decide) ?_
 refine GL.nil (GE.thenN ?_)
 refine GC.cond rfl (fun hq1 => by cases hq1) (fun _ => ?_)
 refine GC.skip (GE.thenN (GC.seq (GC.region ?_)))
 refine GL.mv rfl (by decide) ?_
 refine GL.val (v := (.int .u32 1084227584)) (Ex.ext (vs := [(.float .f32 1084227584)]) rfl rfl T.ext83 (fun _ => by first | rfl | kernel_rfl)) (by decide) ?_
 refine GL.sg rfl (by decide) ?_
 refine GL.nil (GE.thenN (GC.ret ?_))
 refine GC.ret1 rfl (Rv.tmp rfl) (fun wN HN => ?_)
 exact HN.ret () trivial rfl ulN rfl

theorem q81_11 (w : World) :
  Calls Try.prog 81 #[(.int .u32 1073741824), (.int .u32 1073741824), (.int .u32 1065353216)] w (Ret w (fun _ : Unit => True) (fun rz => (.int .u32 1084227584)) (fun rz => [])) := by
 refine enter (M := None) (L := []) (n := 68) (l := [(0, (.int .u32 1073741824)), (1, (.int .u32 1073741824)), (2, (.int .u32 1065353216))]) Try.func81 rfl rfl (Args.cons rfl (Args.cons rfl (Args.cons rfl (Args.nil _)))) (Hp.start _ _) ?_
 refine GC.seq (GC.region ?_)
 refine GL.sg rfl (by decide) ?_
 refine GL.nil (GE.thenN (GC.seq (GC.region ?_)))
 refine GL.mv rfl (by decide) ?_
 refine GL.step (Stp.callR (vs := [(.int .u32 1073741824)]) rfl rfl T.own103 (by decide) (fun wc hw => q103_6  wc )) (fun xq1 hq2 => ?_)
 refine GL.mv rfl (by decide) ?_
 refine GL.step (Stp.callR (vs := [(.int .u32 1073741824)]) rfl rfl T.own103 (by decide) (fun wc hw => q103_6  wc )) (fun xq3 hq4 => ?_)
 refine GL.val (v := (.float .f64 4616189618054758400)) (Ex.farith (r := 4616189618054758400) rfl rfl (by kernel_rfl)) (by decide) ?_
 refine GL.sg rfl (by decide) ?_
 refine GL.nil (GE.thenN (GC.seq (GC.region ?_)))
 refine GL.mv rfl (by decide) ?_
 refine GL.step (Stp.callR (vs := [(.int .u32 1065353216)]) rfl rfl T.own103 (by decide) (fun wc hw => q103_4  wc )) (fun xq5 hq6 => ?_)
 refine GL.sg rfl (by decide) ?_
 refine GL.nil (GE.thenN (GC.seq (GC.region ?_)))
 refine GL.mv rfl (by decide) ?_
 refine GL.mv rfl (by decide) ?_
 refine GL.val (v := (.float .f64 4617315517961601024)) (Ex.farith (r := 4617315517961601024) rfl rfl (by kernel_rfl)) (by decide) ?_
 refine GL.sg rfl (by decide) ?_
 refine GL.nil (GE.thenN (GC.seq (GC.seq (GC.region ?_))))
 refine GL.mv rfl (by decide) ?_
 refine GL.mv rfl (by decide) ?_
 refine GL.val (v := (.bool false)) (Ex.fneq (r := false) rfl rfl (by kernel_rfl)) (by decide) ?_
 refine GL.mv rfl (by decide) ?_
 refine GL.stepG (tj := 26) rfl rfl (Ex.wp (v := (.float .f64 4617315517961601024)) (Ex.move rfl) (by decide)) (fun _ _ => ?_)
 refine GL.stepG (tj := 26) rfl rfl (Stp.callR (vs := [(.float .f64 4617315517961601024), (.int .i64 0)]) rfl rfl T.own104 (by decide) (fun wc hw => q104_12  wc )) (fun xq7 hq8 => ?_)
 refine GL.val (v := (.bool false)) (Ex.pickF rfl rfl) (by decide) ?_
 refine GL.nil (GE.thenN ?_)
 refine GC.cond rfl (fun hq9 => by cases hq9) (fun _ => ?_)
 refine GC.skip (GE.thenN (GC.seq (GC.region ?_)))
 refine GL.mv rfl (by decide) ?_
 refine GL.mv rfl (by decide) ?_
 refine GL.val (v := (.float .f64 4607182418800017408)) (Ex.farith (r := 4607182418800017408) rfl rfl (by kernel_rfl)) (by decide) ?_
 refine GL.sg rfl (by decide) ?_
 refine GL.nil (GE.thenN (GC.seq (GC.region ?_)))
 refine GL.mv rfl (by decide) ?_
 refine GL.mv rfl (by decide) ?_
 refine GL.mv rfl (by decide) ?_
 refine GL.val (v := (.float .f64 4616189618054758400)) (Ex.farith (r := 4616189618054758400) rfl rfl (by kernel_rfl)) (by decide) ?_
 refine GL.val (v := (.float .f64 0)) (Ex.farith (r := 0) rfl rfl (by kernel_rfl)) (by decide) ?_
 refine GL.mv rfl (by decide) ?_
 refine GL.mv rfl (by decide) ?_
 refine GL.val (v := (.float .f64 0)) (Ex.farith (r := 0) rfl rfl (by kernel_rfl)) (by decide) ?_
 refine GL.val (v := (.float .f64 0)) (Ex.farith (r := 0) rfl rfl (by kernel_rfl)) (by decide) ?_
 refine GL.sg rfl (by decide) ?_
 refine GL.nil (GE.thenN (GC.seq (GC.seq (GC.region ?_))))
 refine GL.mv rfl (by decide) ?_
 refine GL.val (v := (.int .u64 4617315517961601024)) (Ex.ext (vs := [(.float .f64 4617315517961601024)]) rfl rfl T.ext106 (fun _ => by first | rfl | kernel_rfl)) (by decide) ?_
 refine GL.sg rfl (by decide) ?_
 refine GL.nil (GE.thenN (GC.seq (GC.region ?_)))
 refine GL.mv rfl (by decide) ?_
 refine GL.val (v := (.bool false)) (Ex.fneq (r := false) rfl rfl (by kernel_rfl)) (by decide) ?_
 refine GL.mv rfl (by decide) ?_
 refine GL.skipG (tj := 49) rfl rfl rfl (by decide) ?_
 refine GL.skipG (tj := 49) rfl rfl rfl (by decide) ?_
 refine GL.skipG (tj := 49) rfl rfl rfl (by decide) ?_
 refine GL.val (v := (.bool false)) (Ex.pickF rfl rfl) (by decide) ?_
 refine GL.nil (GE.thenN ?_)
 refine GC.cond rfl (fun hq10 => by cases hq10) (fun _ => ?_)
 refine GC.skip (GE.thenN (GC.seq (GC.region ?_)))
 refine GL.mv rfl (by decide) ?_
 refine GL.val (v := (.float .f32 1084227584)) (Ex.cff (r := 1084227584) rfl Try.underlying44 Try.underlying99 (by kernel_rfl)) (by decide) ?_
 refine GL.step (Stp.callR (vs := [(.float .f32 1084227584)]) rfl rfl T.own105 (by decide) (fun wc hw => q105_14  wc )) (fun xq11 hq12 => ?_)
 refine GL.sg rfl (by decide) ?_
 refine GL.nil (GE.thenN (GC.ret ?_))
 refine GC.ret1 rfl (Rv.tmp rfl) (fun wN HN => ?_)
 exact HN.ret () trivial rfl ulN rfl

theorem q109_17 (w : World) :
  Calls Try.prog 109 #[(.int .u32 1082130432)] w (Ret w (fun _ : Unit => True) (fun rz => (.float .f32 1082130432)) (fun rz => [])) := by
 refine enter (M := None) (L := []) (n := 5) (l := [(0, (.int .u32 1082130432))]) Try.func109 rfl rfl (Args.cons rfl (Args.nil _)) (Hp.start _ _) ?_
 refine GC.seq (GC.region ?_)
 refine GL.sg rfl (by decide) ?_
 refine GL.nil (GE.thenN (GC.seq (GC.region ?_)))
 refine GL.mv rfl (by decide) ?_
 refine GL.val (v := (.float .f32 1082130432)) (Ex.ext (vs := [(.int .u32 1082130432)]) rfl rfl T.ext54 (fun _ => by first | rfl | kernel_rfl)) (by decide) ?_
 refine GL.sg rfl (by decide) ?_
 refine GL.nil (GE.thenN (GC.ret ?_))
 refine GC.ret1 rfl (Rv.tmp rfl) (fun wN HN => ?_)
 exact HN.ret () trivial rfl ulN rfl

theorem q103_16 (w : World) :
  Calls Try.prog 103 #[(.int .u32 1082130432)] w (Ret w (fun _ : Unit => True) (fun rz => (.float .f64 4616189618054758400)) (fun rz => [])) := by
 refine enter (M := None) (L := []) (n := 6) (l := [(0, (.int .u32 1082130432))]) Try.func103 rfl rfl (Args.cons rfl (Args.nil _)) (Hp.start _ _) ?_
 refine GC.seq (GC.region ?_)
 refine GL.sg rfl (by decide) ?_
 refine GL.nil (GE.thenN (GC.seq (GC.region ?_)))
 refine GL.mv rfl (by decide) ?_
 refine GL.step (Stp.callR (vs := [(.int .u32 1082130432)]) rfl rfl T.own109 (by decide) (fun wc hw => q109_17  wc )) (fun xq1 hq2 => ?_)
 refine GL.val (v := (.float .f64 4616189618054758400)) (Ex.cff (r := 4616189618054758400) rfl Try.underlying99 Try.underlying44 (by kernel_rfl)) (by decide) ?_
 refine GL.sg rfl (by decide) ?_
 refine GL.nil (GE.thenN (GC.ret ?_))
 refine GC.ret1 rfl (Rv.tmp rfl) (fun wN HN => ?_)
 exact HN.ret () trivial rfl ulN rfl

theorem q119_19 (w : World) :
  Calls Try.prog 119 #[(.float .f64 4621256167635550208)] w (Ret w (fun _ : Unit => True) (fun rz => (.float .f64 4621256167635550208)) (fun rz => [])) := by
 refine enter (M := None) (L := []) (n := 7) (l := [(0, (.float .f64 4621256167635550208))]) Try.func119 rfl rfl (Args.cons rfl (Args.nil _)) (Hp.start _ _) ?_
 refine GC.seq (GC.region ?_)
 refine GL.sg rfl (by decide) ?_
 refine GL.nil (GE.thenN (GC.seq (GC.region ?_)))
 refine GL.mv rfl (by decide) ?_
 refine GL.val (v := (.int .u64 4621256167635550208)) (Ex.ext (vs := [(.float .f64 4621256167635550208)]) rfl rfl T.ext106 (fun _ => by first | rfl | kernel_rfl)) (by decide) ?_
 refine GL.val (v := (.int .u64 4621256167635550208)) (Ex.andn rfl rfl (Z := 4621256167635550208) (by decide +kernel)) (by decide) ?_
 refine GL.val (v := (.float .f64 4621256167635550208)) (Ex.ext (vs := [(.int .u64 4621256167635550208)]) rfl rfl T.ext107 (fun _ => by first | rfl | kernel_rfl)) (by decide) ?_
 refine GL.sg rfl (by decide) ?_
 refine GL.nil (GE.thenN (GC.ret ?_))
 refine GC.ret1 rfl (Rv.tmp rfl) (fun wN HN => ?_)
 exact HN.ret () trivial rfl ulN rfl

theorem q104_18 (w : World) :
  Calls Try.prog 104 #[(.float .f64 4621256167635550208), (.int .i64 0)] w (Ret w (fun _ : Unit => True) (fun rz => (.bool false)) (fun rz => [])) := by
 refine enter (M := None) (L := []) (n := 15) (l := [(0, (.float .f64 4621256167635550208)), (1, (.int .i64 0))]) Try.func104 rfl rfl (Args.cons rfl (Args.cons rfl (Args.nil _))) (Hp.start _ _) ?_
 refine GC.seq (GC.region ?_)
 refine GL.sg rfl (by decide) ?_
 refine GL.nil (GE.thenN (GC.seq (GC.seq (GC.region ?_))))
 refine GL.mv rfl (by decide) ?_
 refine GL.val (v := (.bool true)) (Ex.cast (Ex.eql rfl rfl) rfl) (by decide) ?_
 refine GL.nil (GE.thenN ?_)
 refine GC.cond rfl (fun _ => ?_) (fun hq1 => by cases hq1)
 refine GC.region ?_
 refine GL.mv rfl (by decide) ?_
 refine GL.step (Stp.callR (vs := [(.float .f64 4621256167635550208)]) rfl rfl T.own119 (by decide) (fun wc hw => q119_19  wc )) (fun xq2 hq3 => ?_)
 refine GL.sg rfl (by decide) ?_
 refine GL.nil (GE.thenN (GC.seq (GC.region ?_)))
 refine GL.mv rfl (by decide) ?_
 refine GL.val (v := (.bool false)) (Ex.fgtr (r := false) rfl rfl (by kernel_rfl)) (by decide) ?_
 refine GL.sg rfl (by decide) ?_
 refine GL.nil (GE.thenN (GC.ret ?_))
 refine GC.ret1 rfl (Rv.tmp rfl) (fun wN HN => ?_)
 exact HN.ret () trivial rfl ulN rfl

theorem q105_20 (w : World) :
  Calls Try.prog 105 #[(.float .f32 1091567616)] w (Ret w (fun _ : Unit => True) (fun rz => (.int .u32 1091567616)) (fun rz => [])) := by
 refine enter (M := None) (L := []) (n := 8) (l := [(0, (.float .f32 1091567616))]) Try.func105 rfl rfl (Args.cons rfl (Args.nil _)) (Hp.start _ _) ?_
 refine GC.seq (GC.region ?_)
 refine GL.sg rfl (by decide) ?_
 refine GL.nil (GE.thenN (GC.seq (GC.seq (GC.region ?_))))
 refine GL.mv rfl (by decide) ?_
 refine GL.mv rfl (by decide) ?_
 refine GL.val (v := (.bool false)) (Ex.fneq (r := false) rfl rfl (by kernel_rfl)) (by decide) ?_
 refine GL.nil (GE.thenN ?_)
 refine GC.cond rfl (fun hq1 => by cases hq1) (fun _ => ?_)
 refine GC.skip (GE.thenN (GC.seq (GC.region ?_)))
 refine GL.mv rfl (by decide) ?_
 refine GL.val (v := (.int .u32 1091567616)) (Ex.ext (vs := [(.float .f32 1091567616)]) rfl rfl T.ext83 (fun _ => by first | rfl | kernel_rfl)) (by decide) ?_
 refine GL.sg rfl (by decide) ?_
 refine GL.nil (GE.thenN (GC.ret ?_))
 refine GC.ret1 rfl (Rv.tmp rfl) (fun wN HN => ?_)
 exact HN.ret () trivial rfl ulN rfl

theorem q81_15 (w : World) :
  Calls Try.prog 81 #[(.int .u32 1082130432), (.int .u32 1073741824), (.int .u32 1065353216)] w (Ret w (fun _ : Unit => True) (fun rz => (.int .u32 1091567616)) (fun rz => [])) := by
 refine enter (M := None) (L := []) (n := 68) (l := [(0, (.int .u32 1082130432)), (1, (.int .u32 1073741824)), (2, (.int .u32 1065353216))]) Try.func81 rfl rfl (Args.cons rfl (Args.cons rfl (Args.cons rfl (Args.nil _)))) (Hp.start _ _) ?_
 refine GC.seq (GC.region ?_)
 refine GL.sg rfl (by decide) ?_
 refine GL.nil (GE.thenN (GC.seq (GC.region ?_)))
 refine GL.mv rfl (by decide) ?_
 refine GL.step (Stp.callR (vs := [(.int .u32 1082130432)]) rfl rfl T.own103 (by decide) (fun wc hw => q103_16  wc )) (fun xq1 hq2 => ?_)
 refine GL.mv rfl (by decide) ?_
 refine GL.step (Stp.callR (vs := [(.int .u32 1073741824)]) rfl rfl T.own103 (by decide) (fun wc hw => q103_6  wc )) (fun xq3 hq4 => ?_)
 refine GL.val (v := (.float .f64 4620693217682128896)) (Ex.farith (r := 4620693217682128896) rfl rfl (by kernel_rfl)) (by decide) ?_
 refine GL.sg rfl (by decide) ?_
 refine GL.nil (GE.thenN (GC.seq (GC.region ?_)))
 refine GL.mv rfl (by decide) ?_
 refine GL.step (Stp.callR (vs := [(.int .u32 1065353216)]) rfl rfl T.own103 (by decide) (fun wc hw => q103_4  wc )) (fun xq5 hq6 => ?_)
 refine GL.sg rfl (by decide) ?_
 refine GL.nil (GE.thenN (GC.seq (GC.region ?_)))
 refine GL.mv rfl (by decide) ?_
 refine GL.mv rfl (by decide) ?_
 refine GL.val (v := (.float .f64 4621256167635550208)) (Ex.farith (r := 4621256167635550208) rfl rfl (by kernel_rfl)) (by decide) ?_
 refine GL.sg rfl (by decide) ?_
 refine GL.nil (GE.thenN (GC.seq (GC.seq (GC.region ?_))))
 refine GL.mv rfl (by decide) ?_
 refine GL.mv rfl (by decide) ?_
 refine GL.val (v := (.bool false)) (Ex.fneq (r := false) rfl rfl (by kernel_rfl)) (by decide) ?_
 refine GL.mv rfl (by decide) ?_
 refine GL.stepG (tj := 26) rfl rfl (Ex.wp (v := (.float .f64 4621256167635550208)) (Ex.move rfl) (by decide)) (fun _ _ => ?_)
 refine GL.stepG (tj := 26) rfl rfl (Stp.callR (vs := [(.float .f64 4621256167635550208), (.int .i64 0)]) rfl rfl T.own104 (by decide) (fun wc hw => q104_18  wc )) (fun xq7 hq8 => ?_)
 refine GL.val (v := (.bool false)) (Ex.pickF rfl rfl) (by decide) ?_
 refine GL.nil (GE.thenN ?_)
 refine GC.cond rfl (fun hq9 => by cases hq9) (fun _ => ?_)
 refine GC.skip (GE.thenN (GC.seq (GC.region ?_)))
 refine GL.mv rfl (by decide) ?_
 refine GL.mv rfl (by decide) ?_
 refine GL.val (v := (.float .f64 4607182418800017408)) (Ex.farith (r := 4607182418800017408) rfl rfl (by kernel_rfl)) (by decide) ?_
 refine GL.sg rfl (by decide) ?_
 refine GL.nil (GE.thenN (GC.seq (GC.region ?_)))
 refine GL.mv rfl (by decide) ?_
 refine GL.mv rfl (by decide) ?_
 refine GL.mv rfl (by decide) ?_
 refine GL.val (v := (.float .f64 4620693217682128896)) (Ex.farith (r := 4620693217682128896) rfl rfl (by kernel_rfl)) (by decide) ?_
 refine GL.val (v := (.float .f64 0)) (Ex.farith (r := 0) rfl rfl (by kernel_rfl)) (by decide) ?_
 refine GL.mv rfl (by decide) ?_
 refine GL.mv rfl (by decide) ?_
 refine GL.val (v := (.float .f64 0)) (Ex.farith (r := 0) rfl rfl (by kernel_rfl)) (by decide) ?_
 refine GL.val (v := (.float .f64 0)) (Ex.farith (r := 0) rfl rfl (by kernel_rfl)) (by decide) ?_
 refine GL.sg rfl (by decide) ?_
 refine GL.nil (GE.thenN (GC.seq (GC.seq (GC.region ?_))))
 refine GL.mv rfl (by decide) ?_
 refine GL.val (v := (.int .u64 4621256167635550208)) (Ex.ext (vs := [(.float .f64 4621256167635550208)]) rfl rfl T.ext106 (fun _ => by first | rfl | kernel_rfl)) (by decide) ?_
 refine GL.sg rfl (by decide) ?_
 refine GL.nil (GE.thenN (GC.seq (GC.region ?_)))
 refine GL.mv rfl (by decide) ?_
 refine GL.val (v := (.bool false)) (Ex.fneq (r := false) rfl rfl (by kernel_rfl)) (by decide) ?_
 refine GL.mv rfl (by decide) ?_
 refine GL.skipG (tj := 49) rfl rfl rfl (by decide) ?_
 refine GL.skipG (tj := 49) rfl rfl rfl (by decide) ?_
 refine GL.skipG (tj := 49) rfl rfl rfl (by decide) ?_
 refine GL.val (v := (.bool false)) (Ex.pickF rfl rfl) (by decide) ?_
 refine GL.nil (GE.thenN ?_)
 refine GC.cond rfl (fun hq10 => by cases hq10) (fun _ => ?_)
 refine GC.skip (GE.thenN (GC.seq (GC.region ?_)))
 refine GL.mv rfl (by decide) ?_
 refine GL.val (v := (.float .f32 1091567616)) (Ex.cff (r := 1091567616) rfl Try.underlying44 Try.underlying99 (by kernel_rfl)) (by decide) ?_
 refine GL.step (Stp.callR (vs := [(.float .f32 1091567616)]) rfl rfl T.own105 (by decide) (fun wc hw => q105_20  wc )) (fun xq11 hq12 => ?_)
 refine GL.sg rfl (by decide) ?_
 refine GL.nil (GE.thenN (GC.ret ?_))
 refine GC.ret1 rfl (Rv.tmp rfl) (fun wN HN => ?_)
 exact HN.ret () trivial rfl ulN rfl

theorem kn_fma (x : Int) (hx : x ∈ ([1065353216, 1073741824, 1082130432] : List Int)) (w : World) : Calls Try.prog 81 #[(.int .u32 x), (.int .u32 1073741824), (.int .u32 1065353216)] w (Ret w (fun _ : Unit => True) (fun _ => .int .u32 ((fun x : Int => if x = 1065353216 then (1077936128 : Int) else if x = 1073741824 then 1084227584 else 1091567616) x)) (fun _ => [])) := by
 simp only [List.mem_cons, List.mem_nil_iff, or_false] at hx
 rcases hx with rfl | rfl | rfl
 ·exact q81_3  w 
 ·exact q81_11  w 
 ·exact q81_15  w 

theorem q116_24 (w : World) :
  Calls Try.prog 116 #[(.int .u32 1065353216)] w (Ret w (fun _ : Unit => True) (fun rz => (.int .u32 3212836864)) (fun rz => [])) := by
 refine enter (M := None) (L := []) (n := 9) (l := [(0, (.int .u32 1065353216))]) Try.func116 rfl rfl (Args.cons rfl (Args.nil _)) (Hp.start _ _) ?_
 refine GC.seq (GC.region ?_)
 refine GL.sg rfl (by decide) ?_
 refine GL.nil (GE.thenN (GC.seq (GC.seq (GC.region ?_))))
 refine GL.mv rfl (by decide) ?_
 refine GL.val (v := (.bool true)) (Ex.cast (Ex.lss rfl rfl) rfl) (by decide) ?_
 refine GL.nil (GE.thenN ?_)
 refine GC.cond rfl (fun _ => ?_) (fun hq1 => by cases hq1)
 refine GC.seq (GC.region ?_)
 refine GL.mv rfl (by decide) ?_
 refine GL.val (v := (.int .u32 3212836864)) (Ex.add rfl rfl (Z := 3212836864) (by decide)) (by decide) ?_
 refine GL.sg rfl (by decide) ?_
 refine GL.nil (GE.thenN (GC.ret (GE.thenR ?_)))
 refine GC.ret1 rfl (Rv.tmp rfl) (fun wN HN => ?_)
 exact HN.ret () trivial rfl ulN rfl

theorem q116_25 (w : World) :
  Calls Try.prog 116 #[(.int .u32 1069547520)] w (Ret w (fun _ : Unit => True) (fun rz => (.int .u32 3217031168)) (fun rz => [])) := by
 refine enter (M := None) (L := []) (n := 9) (l := [(0, (.int .u32 1069547520))]) Try.func116 rfl rfl (Args.cons rfl (Args.nil _)) (Hp.start _ _) ?_
 refine GC.seq (GC.region ?_)
 refine GL.sg rfl (by decide) ?_
 refine GL.nil (GE.thenN (GC.seq (GC.seq (GC.region ?_))))
 refine GL.mv rfl (by decide) ?_
 refine GL.val (v := (.bool true)) (Ex.cast (Ex.lss rfl rfl) rfl) (by decide) ?_
 refine GL.nil (GE.thenN ?_)
 refine GC.cond rfl (fun _ => ?_) (fun hq1 => by cases hq1)
 refine GC.seq (GC.region ?_)
 refine GL.mv rfl (by decide) ?_
 refine GL.val (v := (.int .u32 3217031168)) (Ex.add rfl rfl (Z := 3217031168) (by decide)) (by decide) ?_
 refine GL.sg rfl (by decide) ?_
 refine GL.nil (GE.thenN (GC.ret (GE.thenR ?_)))
 refine GC.ret1 rfl (Rv.tmp rfl) (fun wN HN => ?_)
 exact HN.ret () trivial rfl ulN rfl

theorem q110_23 (w : World) :
  Calls Try.prog 110 #[(.int .u32 1065353216), (.int .u32 1069547520)] w (Ret w (fun _ : Unit => True) (fun rz => (.bool true)) (fun rz => [])) := by
 refine enter (M := None) (L := []) (n := 10) (l := [(0, (.int .u32 1065353216)), (1, (.int .u32 1069547520))]) Try.func110 rfl rfl (Args.cons rfl (Args.cons rfl (Args.nil _))) (Hp.start _ _) ?_
 refine GC.seq (GC.region ?_)
 refine GL.sg rfl (by decide) ?_
 refine GL.nil (GE.thenN (GC.seq (GC.region ?_)))
 refine GL.mv rfl (by decide) ?_
 refine GL.step (Stp.callR (vs := [(.int .u32 1065353216)]) rfl rfl T.own116 (by decide) (fun wc hw => q116_24  wc )) (fun xq1 hq2 => ?_)
 refine GL.mv rfl (by decide) ?_
 refine GL.step (Stp.callR (vs := [(.int .u32 1069547520)]) rfl rfl T.own116 (by decide) (fun wc hw => q116_25  wc )) (fun xq3 hq4 => ?_)
 refine GL.val (v := (.bool true)) (Ex.cast (Ex.lss rfl rfl) rfl) (by decide) ?_
 refine GL.sg rfl (by decide) ?_
 refine GL.nil (GE.thenN (GC.ret ?_))
 refine GC.ret1 rfl (Rv.tmp rfl) (fun wN HN => ?_)
 exact HN.ret () trivial rfl ulN rfl

theorem q88_22 (w : World) :
  Calls Try.prog 88 #[(.int .u32 1065353216), (.int .u32 1069547520)] w (Ret w (fun _ : Unit => True) (fun rz => (.int .u32 1069547520)) (fun rz => [])) := by
 refine enter (M := None) (L := []) (n := 10) (l := [(0, (.int .u32 1065353216)), (1, (.int .u32 1069547520))]) Try.func88 rfl rfl (Args.cons rfl (Args.cons rfl (Args.nil _))) (Hp.start _ _) ?_
 refine GC.seq (GC.region ?_)
 refine GL.sg rfl (by decide) ?_
 refine GL.nil (GE.thenN (GC.seq (GC.seq (GC.region ?_))))
 refine GL.mv rfl (by decide) ?_
 refine GL.mv rfl (by decide) ?_
 refine GL.step (Stp.callR (vs := [(.int .u32 1065353216), (.int .u32 1069547520)]) rfl rfl T.own110 (by decide) (fun wc hw => q110_23  wc )) (fun xq1 hq2 => ?_)
 refine GL.nil (GE.thenN ?_)
 refine GC.cond rfl (fun _ => ?_) (fun hq3 => by cases hq3)
 refine GC.seq (GC.region ?_)
 refine GL.mv rfl (by decide) ?_
 refine GL.sg rfl (by decide) ?_
 refine GL.nil (GE.thenN (GC.ret (GE.thenR ?_)))
 refine GC.ret1 rfl (Rv.tmp rfl) (fun wN HN => ?_)
 exact HN.ret () trivial rfl ulN rfl

theorem q116_28 (w : World) :
  Calls Try.prog 116 #[(.int .u32 1077936128)] w (Ret w (fun _ : Unit => True) (fun rz => (.int .u32 3225419776)) (fun rz => [])) := by
 refine enter (M := None) (L := []) (n := 9) (l := [(0, (.int .u32 1077936128))]) Try.func116 rfl rfl (Args.cons rfl (Args.nil _)) (Hp.start _ _) ?_
 refine GC.seq (GC.region ?_)
 refine GL.sg rfl (by decide) ?_
 refine GL.nil (GE.thenN (GC.seq (GC.seq (GC.region ?_))))
 refine GL.mv rfl (by decide) ?_
 refine GL.val (v := (.bool true)) (Ex.cast (Ex.lss rfl rfl) rfl) (by decide) ?_
 refine GL.nil (GE.thenN ?_)
 refine GC.cond rfl (fun _ => ?_) (fun hq1 => by cases hq1)
 refine GC.seq (GC.region ?_)
 refine GL.mv rfl (by decide) ?_
 refine GL.val (v := (.int .u32 3225419776)) (Ex.add rfl rfl (Z := 3225419776) (by decide)) (by decide) ?_
 refine GL.sg rfl (by decide) ?_
 refine GL.nil (GE.thenN (GC.ret (GE.thenR ?_)))
 refine GC.ret1 rfl (Rv.tmp rfl) (fun wN HN => ?_)
 exact HN.ret () trivial rfl ulN rfl

theorem q110_27 (w : World) :
  Calls Try.prog 110 #[(.int .u32 1077936128), (.int .u32 1069547520)] w (Ret w (fun _ : Unit => True) (fun rz => (.bool false)) (fun rz => [])) := by
 refine enter (M := None) (L := []) (n := 10) (l := [(0, (.int .u32 1077936128)), (1, (.int .u32 1069547520))]) Try.func110 rfl rfl (Args.cons rfl (Args.cons rfl (Args.nil _))) (Hp.start _ _) ?_
 refine GC.seq (GC.region ?_)
 refine GL.sg rfl (by decide) ?_
 refine GL.nil (GE.thenN (GC.seq (GC.region ?_)))
 refine GL.mv rfl (by decide) ?_
 refine GL.step (Stp.callR (vs := [(.int .u32 1077936128)]) rfl rfl T.own116 (by decide) (fun wc hw => q116_28  wc )) (fun xq1 hq2 => ?_)
 refine GL.mv rfl (by decide) ?_
 refine GL.step (Stp.callR (vs := [(.int .u32 1069547520)]) rfl rfl T.own116 (by decide) (fun wc hw => q116_25  wc )) (fun xq3 hq4 => ?_)
 refine GL.val (v := (.bool false)) (Ex.cast (Ex.lss rfl rfl) rfl) (by decide) ?_
 refine GL.sg rfl (by decide) ?_
 refine GL.nil (GE.thenN (GC.ret ?_))
 refine GC.ret1 rfl (Rv.tmp rfl) (fun wN HN => ?_)
 exact HN.ret () trivial rfl ulN rfl

theorem q87_26 (w : World) :
  Calls Try.prog 87 #[(.int .u32 1069547520), (.int .u32 1077936128)] w (Ret w (fun _ : Unit => True) (fun rz => (.int .u32 1069547520)) (fun rz => [])) := by
 refine enter (M := None) (L := []) (n := 10) (l := [(0, (.int .u32 1069547520)), (1, (.int .u32 1077936128))]) Try.func87 rfl rfl (Args.cons rfl (Args.cons rfl (Args.nil _))) (Hp.start _ _) ?_
 refine GC.seq (GC.region ?_)
 refine GL.sg rfl (by decide) ?_
 refine GL.nil (GE.thenN (GC.seq (GC.seq (GC.region ?_))))
 refine GL.mv rfl (by decide) ?_
 refine GL.mv rfl (by decide) ?_
 refine GL.step (Stp.callR (vs := [(.int .u32 1077936128), (.int .u32 1069547520)]) rfl rfl T.own110 (by decide) (fun wc hw => q110_27  wc )) (fun xq1 hq2 => ?_)
 refine GL.nil (GE.thenN ?_)
 refine GC.cond rfl (fun hq3 => by cases hq3) (fun _ => ?_)
 refine GC.skip (GE.thenN (GC.seq (GC.region ?_)))
 refine GL.mv rfl (by decide) ?_
 refine GL.sg rfl (by decide) ?_
 refine GL.nil (GE.thenN (GC.ret ?_))
 refine GC.ret1 rfl (Rv.tmp rfl) (fun wN HN => ?_)
 exact HN.ret () trivial rfl ulN rfl

theorem q90_21 (w : World) :
  Calls Try.prog 90 #[(.int .u32 1065353216), (.int .u32 1069547520), (.int .u32 1077936128)] w (Ret w (fun _ : Unit => True) (fun rz => (.int .u32 1069547520)) (fun rz => [])) := by
 refine enter (M := None) (L := []) (n := 12) (l := [(0, (.int .u32 1065353216)), (1, (.int .u32 1069547520)), (2, (.int .u32 1077936128))]) Try.func90 rfl rfl (Args.cons rfl (Args.cons rfl (Args.cons rfl (Args.nil _)))) (Hp.start _ _) ?_
 refine GC.seq (GC.region ?_)
 refine GL.sg rfl (by decide) ?_
 refine GL.nil (GE.thenN (GC.seq (GC.region ?_)))
 refine GL.mv rfl (by decide) ?_
 refine GL.mv rfl (by decide) ?_
 refine GL.step (Stp.callR (vs := [(.int .u32 1065353216), (.int .u32 1069547520)]) rfl rfl T.own88 (by decide) (fun wc hw => q88_22  wc )) (fun xq1 hq2 => ?_)
 refine GL.mv rfl (by decide) ?_
 refine GL.step (Stp.callR (vs := [(.int .u32 1069547520), (.int .u32 1077936128)]) rfl rfl T.own87 (by decide) (fun wc hw => q87_26  wc )) (fun xq3 hq4 => ?_)
 refine GL.sg rfl (by decide) ?_
 refine GL.nil (GE.thenN (GC.ret ?_))
 refine GC.ret1 rfl (Rv.tmp rfl) (fun wN HN => ?_)
 exact HN.ret () trivial rfl ulN rfl

theorem q116_32 (w : World) :
  Calls Try.prog 116 #[(.int .u32 1073741824)] w (Ret w (fun _ : Unit => True) (fun rz => (.int .u32 3221225472)) (fun rz => [])) := by
 refine enter (M := None) (L := []) (n := 9) (l := [(0, (.int .u32 1073741824))]) Try.func116 rfl rfl (Args.cons rfl (Args.nil _)) (Hp.start _ _) ?_
 refine GC.seq (GC.region ?_)
 refine GL.sg rfl (by decide) ?_
 refine GL.nil (GE.thenN (GC.seq (GC.seq (GC.region ?_))))
 refine GL.mv rfl (by decide) ?_
 refine GL.val (v := (.bool true)) (Ex.cast (Ex.lss rfl rfl) rfl) (by decide) ?_
 refine GL.nil (GE.thenN ?_)
 refine GC.cond rfl (fun _ => ?_) (fun hq1 => by cases hq1)
 refine GC.seq (GC.region ?_)
 refine GL.mv rfl (by decide) ?_
 refine GL.val (v := (.int .u32 3221225472)) (Ex.add rfl rfl (Z := 3221225472) (by decide)) (by decide) ?_
 refine GL.sg rfl (by decide) ?_
 refine GL.nil (GE.thenN (GC.ret (GE.thenR ?_)))
 refine GC.ret1 rfl (Rv.tmp rfl) (fun wN HN => ?_)
 exact HN.ret () trivial rfl ulN rfl

theorem q110_31 (w : World) :
  Calls Try.prog 110 #[(.int .u32 1073741824), (.int .u32 1069547520)] w (Ret w (fun _ : Unit => True) (fun rz => (.bool false)) (fun rz => [])) := by
 refine enter (M := None) (L := []) (n := 10) (l := [(0, (.int .u32 1073741824)), (1, (.int .u32 1069547520))]) Try.func110 rfl rfl (Args.cons rfl (Args.cons rfl (Args.nil _))) (Hp.start _ _) ?_
 refine GC.seq (GC.region ?_)
 refine GL.sg rfl (by decide) ?_
 refine GL.nil (GE.thenN (GC.seq (GC.region ?_)))
 refine GL.mv rfl (by decide) ?_
 refine GL.step (Stp.callR (vs := [(.int .u32 1073741824)]) rfl rfl T.own116 (by decide) (fun wc hw => q116_32  wc )) (fun xq1 hq2 => ?_)
 refine GL.mv rfl (by decide) ?_
 refine GL.step (Stp.callR (vs := [(.int .u32 1069547520)]) rfl rfl T.own116 (by decide) (fun wc hw => q116_25  wc )) (fun xq3 hq4 => ?_)
 refine GL.val (v := (.bool false)) (Ex.cast (Ex.lss rfl rfl) rfl) (by decide) ?_
 refine GL.sg rfl (by decide) ?_
 refine GL.nil (GE.thenN (GC.ret ?_))
 refine GC.ret1 rfl (Rv.tmp rfl) (fun wN HN => ?_)
 exact HN.ret () trivial rfl ulN rfl

theorem q88_30 (w : World) :
  Calls Try.prog 88 #[(.int .u32 1073741824), (.int .u32 1069547520)] w (Ret w (fun _ : Unit => True) (fun rz => (.int .u32 1073741824)) (fun rz => [])) := by
 refine enter (M := None) (L := []) (n := 10) (l := [(0, (.int .u32 1073741824)), (1, (.int .u32 1069547520))]) Try.func88 rfl rfl (Args.cons rfl (Args.cons rfl (Args.nil _))) (Hp.start _ _) ?_
 refine GC.seq (GC.region ?_)
 refine GL.sg rfl (by decide) ?_
 refine GL.nil (GE.thenN (GC.seq (GC.seq (GC.region ?_))))
 refine GL.mv rfl (by decide) ?_
 refine GL.mv rfl (by decide) ?_
 refine GL.step (Stp.callR (vs := [(.int .u32 1073741824), (.int .u32 1069547520)]) rfl rfl T.own110 (by decide) (fun wc hw => q110_31  wc )) (fun xq1 hq2 => ?_)
 refine GL.nil (GE.thenN ?_)
 refine GC.cond rfl (fun hq3 => by cases hq3) (fun _ => ?_)
 refine GC.skip (GE.thenN (GC.seq (GC.region ?_)))
 refine GL.mv rfl (by decide) ?_
 refine GL.sg rfl (by decide) ?_
 refine GL.nil (GE.thenN (GC.ret ?_))
 refine GC.ret1 rfl (Rv.tmp rfl) (fun wN HN => ?_)
 exact HN.ret () trivial rfl ulN rfl

theorem q110_34 (w : World) :
  Calls Try.prog 110 #[(.int .u32 1077936128), (.int .u32 1073741824)] w (Ret w (fun _ : Unit => True) (fun rz => (.bool false)) (fun rz => [])) := by
 refine enter (M := None) (L := []) (n := 10) (l := [(0, (.int .u32 1077936128)), (1, (.int .u32 1073741824))]) Try.func110 rfl rfl (Args.cons rfl (Args.cons rfl (Args.nil _))) (Hp.start _ _) ?_
 refine GC.seq (GC.region ?_)
 refine GL.sg rfl (by decide) ?_
 refine GL.nil (GE.thenN (GC.seq (GC.region ?_)))
 refine GL.mv rfl (by decide) ?_
 refine GL.step (Stp.callR (vs := [(.int .u32 1077936128)]) rfl rfl T.own116 (by decide) (fun wc hw => q116_28  wc )) (fun xq1 hq2 => ?_)
 refine GL.mv rfl (by decide) ?_
 refine GL.step (Stp.callR (vs := [(.int .u32 1073741824)]) rfl rfl T.own116 (by decide) (fun wc hw => q116_32  wc )) (fun xq3 hq4 => ?_)
 refine GL.val (v := (.bool false)) (Ex.cast (Ex.lss rfl rfl) rfl) (by decide) ?_
 refine GL.sg rfl (by decide) ?_
 refine GL.nil (GE.thenN (GC.ret ?_))
 refine GC.ret1 rfl (Rv.tmp rfl) (fun wN HN => ?_)
 exact HN.ret () trivial rfl ulN rfl

theorem q87_33 (w : World) :
  Calls Try.prog 87 #[(.int .u32 1073741824), (.int .u32 1077936128)] w (Ret w (fun _ : Unit => True) (fun rz => (.int .u32 1073741824)) (fun rz => [])) := by
 refine enter (M := None) (L := []) (n := 10) (l := [(0, (.int .u32 1073741824)), (1, (.int .u32 1077936128))]) Try.func87 rfl rfl (Args.cons rfl (Args.cons rfl (Args.nil _))) (Hp.start _ _) ?_
 refine GC.seq (GC.region ?_)
 refine GL.sg rfl (by decide) ?_
 refine GL.nil (GE.thenN (GC.seq (GC.seq (GC.region ?_))))
 refine GL.mv rfl (by decide) ?_
 refine GL.mv rfl (by decide) ?_
 refine GL.step (Stp.callR (vs := [(.int .u32 1077936128), (.int .u32 1073741824)]) rfl rfl T.own110 (by decide) (fun wc hw => q110_34  wc )) (fun xq1 hq2 => ?_)
 refine GL.nil (GE.thenN ?_)
 refine GC.cond rfl (fun hq3 => by cases hq3) (fun _ => ?_)
 refine GC.skip (GE.thenN (GC.seq (GC.region ?_)))
 refine GL.mv rfl (by decide) ?_
 refine GL.sg rfl (by decide) ?_
 refine GL.nil (GE.thenN (GC.ret ?_))
 refine GC.ret1 rfl (Rv.tmp rfl) (fun wN HN => ?_)
 exact HN.ret () trivial rfl ulN rfl

theorem q90_29 (w : World) :
  Calls Try.prog 90 #[(.int .u32 1073741824), (.int .u32 1069547520), (.int .u32 1077936128)] w (Ret w (fun _ : Unit => True) (fun rz => (.int .u32 1073741824)) (fun rz => [])) := by
 refine enter (M := None) (L := []) (n := 12) (l := [(0, (.int .u32 1073741824)), (1, (.int .u32 1069547520)), (2, (.int .u32 1077936128))]) Try.func90 rfl rfl (Args.cons rfl (Args.cons rfl (Args.cons rfl (Args.nil _)))) (Hp.start _ _) ?_
 refine GC.seq (GC.region ?_)
 refine GL.sg rfl (by decide) ?_
 refine GL.nil (GE.thenN (GC.seq (GC.region ?_)))
 refine GL.mv rfl (by decide) ?_
 refine GL.mv rfl (by decide) ?_
 refine GL.step (Stp.callR (vs := [(.int .u32 1073741824), (.int .u32 1069547520)]) rfl rfl T.own88 (by decide) (fun wc hw => q88_30  wc )) (fun xq1 hq2 => ?_)
 refine GL.mv rfl (by decide) ?_
 refine GL.step (Stp.callR (vs := [(.int .u32 1073741824), (.int .u32 1077936128)]) rfl rfl T.own87 (by decide) (fun wc hw => q87_33  wc )) (fun xq3 hq4 => ?_)
 refine GL.sg rfl (by decide) ?_
 refine GL.nil (GE.thenN (GC.ret ?_))
 refine GC.ret1 rfl (Rv.tmp rfl) (fun wN HN => ?_)
 exact HN.ret () trivial rfl ulN rfl

theorem q116_38 (w : World) :
  Calls Try.prog 116 #[(.int .u32 1082130432)] w (Ret w (fun _ : Unit => True) (fun rz => (.int .u32 3229614080)) (fun rz => [])) := by
 refine enter (M := None) (L := []) (n := 9) (l := [(0, (.int .u32 1082130432))]) Try.func116 rfl rfl (Args.cons rfl (Args.nil _)) (Hp.start _ _) ?_
 refine GC.seq (GC.region ?_)
 refine GL.sg rfl (by decide) ?_
 refine GL.nil (GE.thenN (GC.seq (GC.seq (GC.region ?_))))
 refine GL.mv rfl (by decide) ?_
 refine GL.val (v := (.bool true)) (Ex.cast (Ex.lss rfl rfl) rfl) (by decide) ?_
 refine GL.nil (GE.thenN ?_)
 refine GC.cond rfl (fun _ => ?_) (fun hq1 => by cases hq1)
 refine GC.seq (GC.region ?_)
 refine GL.mv rfl (by decide) ?_
 refine GL.val (v := (.int .u32 3229614080)) (Ex.add rfl rfl (Z := 3229614080) (by decide)) (by decide) ?_
 refine GL.sg rfl (by decide) ?_
 refine GL.nil (GE.thenN (GC.ret (GE.thenR ?_)))
 refine GC.ret1 rfl (Rv.tmp rfl) (fun wN HN => ?_)
 exact HN.ret () trivial rfl ulN rfl

theorem q110_37 (w : World) :
  Calls Try.prog 110 #[(.int .u32 1082130432), (.int .u32 1069547520)] w (Ret w (fun _ : Unit => True) (fun rz => (.bool false)) (fun rz => [])) := by
 refine enter (M := None) (L := []) (n := 10) (l := [(0, (.int .u32 1082130432)), (1, (.int .u32 1069547520))]) Try.func110 rfl rfl (Args.cons rfl (Args.cons rfl (Args.nil _))) (Hp.start _ _) ?_
 refine GC.seq (GC.region ?_)
 refine GL.sg rfl (by decide) ?_
 refine GL.nil (GE.thenN (GC.seq (GC.region ?_)))
 refine GL.mv rfl (by decide) ?_
 refine GL.step (Stp.callR (vs := [(.int .u32 1082130432)]) rfl rfl T.own116 (by decide) (fun wc hw => q116_38  wc )) (fun xq1 hq2 => ?_)
 refine GL.mv rfl (by decide) ?_
 refine GL.step (Stp.callR (vs := [(.int .u32 1069547520)]) rfl rfl T.own116 (by decide) (fun wc hw => q116_25  wc )) (fun xq3 hq4 => ?_)
 refine GL.val (v := (.bool false)) (Ex.cast (Ex.lss rfl rfl) rfl) (by decide) ?_
 refine GL.sg rfl (by decide) ?_
 refine GL.nil (GE.thenN (GC.ret ?_))
 refine GC.ret1 rfl (Rv.tmp rfl) (fun wN HN => ?_)
 exact HN.ret () trivial rfl ulN rfl

theorem q88_36 (w : World) :
  Calls Try.prog 88 #[(.int .u32 1082130432), (.int .u32 1069547520)] w (Ret w (fun _ : Unit => True) (fun rz => (.int .u32 1082130432)) (fun rz => [])) := by
 refine enter (M := None) (L := []) (n := 10) (l := [(0, (.int .u32 1082130432)), (1, (.int .u32 1069547520))]) Try.func88 rfl rfl (Args.cons rfl (Args.cons rfl (Args.nil _))) (Hp.start _ _) ?_
 refine GC.seq (GC.region ?_)
 refine GL.sg rfl (by decide) ?_
 refine GL.nil (GE.thenN (GC.seq (GC.seq (GC.region ?_))))
 refine GL.mv rfl (by decide) ?_
 refine GL.mv rfl (by decide) ?_
 refine GL.step (Stp.callR (vs := [(.int .u32 1082130432), (.int .u32 1069547520)]) rfl rfl T.own110 (by decide) (fun wc hw => q110_37  wc )) (fun xq1 hq2 => ?_)
 refine GL.nil (GE.thenN ?_)
 refine GC.cond rfl (fun hq3 => by cases hq3) (fun _ => ?_)
 refine GC.skip (GE.thenN (GC.seq (GC.region ?_)))
 refine GL.mv rfl (by decide) ?_
 refine GL.sg rfl (by decide) ?_
 refine GL.nil (GE.thenN (GC.ret ?_))
 refine GC.ret1 rfl (Rv.tmp rfl) (fun wN HN => ?_)
 exact HN.ret () trivial rfl ulN rfl

theorem q110_40 (w : World) :
  Calls Try.prog 110 #[(.int .u32 1077936128), (.int .u32 1082130432)] w (Ret w (fun _ : Unit => True) (fun rz => (.bool true)) (fun rz => [])) := by
 refine enter (M := None) (L := []) (n := 10) (l := [(0, (.int .u32 1077936128)), (1, (.int .u32 1082130432))]) Try.func110 rfl rfl (Args.cons rfl (Args.cons rfl (Args.nil _))) (Hp.start _ _) ?_
 refine GC.seq (GC.region ?_)
 refine GL.sg rfl (by decide) ?_
 refine GL.nil (GE.thenN (GC.seq (GC.region ?_)))
 refine GL.mv rfl (by decide) ?_
 refine GL.step (Stp.callR (vs := [(.int .u32 1077936128)]) rfl rfl T.own116 (by decide) (fun wc hw => q116_28  wc )) (fun xq1 hq2 => ?_)
 refine GL.mv rfl (by decide) ?_
 refine GL.step (Stp.callR (vs := [(.int .u32 1082130432)]) rfl rfl T.own116 (by decide) (fun wc hw => q116_38  wc )) (fun xq3 hq4 => ?_)
 refine GL.val (v := (.bool true)) (Ex.cast (Ex.lss rfl rfl) rfl) (by decide) ?_
 refine GL.sg rfl (by decide) ?_
 refine GL.nil (GE.thenN (GC.ret ?_))
 refine GC.ret1 rfl (Rv.tmp rfl) (fun wN HN => ?_)
 exact HN.ret () trivial rfl ulN rfl

theorem q87_39 (w : World) :
  Calls Try.prog 87 #[(.int .u32 1082130432), (.int .u32 1077936128)] w (Ret w (fun _ : Unit => True) (fun rz => (.int .u32 1077936128)) (fun rz => [])) := by
 refine enter (M := None) (L := []) (n := 10) (l := [(0, (.int .u32 1082130432)), (1, (.int .u32 1077936128))]) Try.func87 rfl rfl (Args.cons rfl (Args.cons rfl (Args.nil _))) (Hp.start _ _) ?_
 refine GC.seq (GC.region ?_)
 refine GL.sg rfl (by decide) ?_
 refine GL.nil (GE.thenN (GC.seq (GC.seq (GC.region ?_))))
 refine GL.mv rfl (by decide) ?_
 refine GL.mv rfl (by decide) ?_
 refine GL.step (Stp.callR (vs := [(.int .u32 1077936128), (.int .u32 1082130432)]) rfl rfl T.own110 (by decide) (fun wc hw => q110_40  wc )) (fun xq1 hq2 => ?_)
 refine GL.nil (GE.thenN ?_)
 refine GC.cond rfl (fun _ => ?_) (fun hq3 => by cases hq3)
 refine GC.seq (GC.region ?_)
 refine GL.mv rfl (by decide) ?_
 refine GL.sg rfl (by decide) ?_
 refine GL.nil (GE.thenN (GC.ret (GE.thenR ?_)))
 refine GC.ret1 rfl (Rv.tmp rfl) (fun wN HN => ?_)
 exact HN.ret () trivial rfl ulN rfl

theorem q90_35 (w : World) :
  Calls Try.prog 90 #[(.int .u32 1082130432), (.int .u32 1069547520), (.int .u32 1077936128)] w (Ret w (fun _ : Unit => True) (fun rz => (.int .u32 1077936128)) (fun rz => [])) := by
 refine enter (M := None) (L := []) (n := 12) (l := [(0, (.int .u32 1082130432)), (1, (.int .u32 1069547520)), (2, (.int .u32 1077936128))]) Try.func90 rfl rfl (Args.cons rfl (Args.cons rfl (Args.cons rfl (Args.nil _)))) (Hp.start _ _) ?_
 refine GC.seq (GC.region ?_)
 refine GL.sg rfl (by decide) ?_
 refine GL.nil (GE.thenN (GC.seq (GC.region ?_)))
 refine GL.mv rfl (by decide) ?_
 refine GL.mv rfl (by decide) ?_
 refine GL.step (Stp.callR (vs := [(.int .u32 1082130432), (.int .u32 1069547520)]) rfl rfl T.own88 (by decide) (fun wc hw => q88_36  wc )) (fun xq1 hq2 => ?_)
 refine GL.mv rfl (by decide) ?_
 refine GL.step (Stp.callR (vs := [(.int .u32 1082130432), (.int .u32 1077936128)]) rfl rfl T.own87 (by decide) (fun wc hw => q87_39  wc )) (fun xq3 hq4 => ?_)
 refine GL.sg rfl (by decide) ?_
 refine GL.nil (GE.thenN (GC.ret ?_))
 refine GC.ret1 rfl (Rv.tmp rfl) (fun wN HN => ?_)
 exact HN.ret () trivial rfl ulN rfl

theorem kn_between (x : Int) (hx : x ∈ ([1065353216, 1073741824, 1082130432] : List Int)) (w : World) : Calls Try.prog 90 #[(.int .u32 x), (.int .u32 1069547520), (.int .u32 1077936128)] w (Ret w (fun _ : Unit => True) (fun _ => .int .u32 ((fun x : Int => if x = 1065353216 then (1069547520 : Int) else if x = 1073741824 then 1073741824 else 1077936128) x)) (fun _ => [])) := by
 simp only [List.mem_cons, List.mem_nil_iff, or_false] at hx
 rcases hx with rfl | rfl | rfl
 ·exact q90_21  w 
 ·exact q90_29  w 
 ·exact q90_35  w 

theorem q105_42 (w : World) :
  Calls Try.prog 105 #[(.float .f32 0)] w (Ret w (fun _ : Unit => True) (fun rz => (.int .u32 0)) (fun rz => [])) := by
 refine enter (M := None) (L := []) (n := 8) (l := [(0, (.float .f32 0))]) Try.func105 rfl rfl (Args.cons rfl (Args.nil _)) (Hp.start _ _) ?_
 refine GC.seq (GC.region ?_)
 refine GL.sg rfl (by decide) ?_
 refine GL.nil (GE.thenN (GC.seq (GC.seq (GC.region ?_))))
 refine GL.mv rfl (by decide) ?_
 refine GL.mv rfl (by decide) ?_
 refine GL.val (v := (.bool false)) (Ex.fneq (r := false) rfl rfl (by kernel_rfl)) (by decide) ?_
 refine GL.nil (GE.thenN ?_)
 refine GC.cond rfl (fun hq1 => by cases hq1) (fun _ => ?_)
 refine GC.skip (GE.thenN (GC.seq (GC.region ?_)))
 refine GL.mv rfl (by decide) ?_
 refine GL.val (v := (.int .u32 0)) (Ex.ext (vs := [(.float .f32 0)]) rfl rfl T.ext83 (fun _ => by first | rfl | kernel_rfl)) (by decide) ?_
 refine GL.sg rfl (by decide) ?_
 refine GL.nil (GE.thenN (GC.ret ?_))
 refine GC.ret1 rfl (Rv.tmp rfl) (fun wN HN => ?_)
 exact HN.ret () trivial rfl ulN rfl

theorem q85_41 (w : World) :
  Calls Try.prog 85 #[(.int .u32 1065353216), (.int .u32 1065353216)] w (Ret w (fun _ : Unit => True) (fun rz => (.int .u32 0)) (fun rz => [])) := by
 refine enter (M := None) (L := []) (n := 11) (l := [(0, (.int .u32 1065353216)), (1, (.int .u32 1065353216))]) Try.func85 rfl rfl (Args.cons rfl (Args.cons rfl (Args.nil _))) (Hp.start _ _) ?_
 refine GC.seq (GC.region ?_)
 refine GL.sg rfl (by decide) ?_
 refine GL.nil (GE.thenN (GC.seq (GC.region ?_)))
 refine GL.mv rfl (by decide) ?_
 refine GL.step (Stp.callR (vs := [(.int .u32 1065353216)]) rfl rfl T.own109 (by decide) (fun wc hw => q109_5  wc )) (fun xq1 hq2 => ?_)
 refine GL.mv rfl (by decide) ?_
 refine GL.step (Stp.callR (vs := [(.int .u32 1065353216)]) rfl rfl T.own109 (by decide) (fun wc hw => q109_5  wc )) (fun xq3 hq4 => ?_)
 refine GL.val (v := (.float .f32 0)) (Ex.farith (r := 0) rfl rfl (by kernel_rfl)) (by decide) ?_
 refine GL.step (Stp.callR (vs := [(.float .f32 0)]) rfl rfl T.own105 (by decide) (fun wc hw => q105_42  wc )) (fun xq5 hq6 => ?_)
 refine GL.sg rfl (by decide) ?_
 refine GL.nil (GE.thenN (GC.ret ?_))
 refine GC.ret1 rfl (Rv.tmp rfl) (fun wN HN => ?_)
 exact HN.ret () trivial rfl ulN rfl

theorem q85_43 (w : World) :
  Calls Try.prog 85 #[(.int .u32 1073741824), (.int .u32 1073741824)] w (Ret w (fun _ : Unit => True) (fun rz => (.int .u32 0)) (fun rz => [])) := by
 refine enter (M := None) (L := []) (n := 11) (l := [(0, (.int .u32 1073741824)), (1, (.int .u32 1073741824))]) Try.func85 rfl rfl (Args.cons rfl (Args.cons rfl (Args.nil _))) (Hp.start _ _) ?_
 refine GC.seq (GC.region ?_)
 refine GL.sg rfl (by decide) ?_
 refine GL.nil (GE.thenN (GC.seq (GC.region ?_)))
 refine GL.mv rfl (by decide) ?_
 refine GL.step (Stp.callR (vs := [(.int .u32 1073741824)]) rfl rfl T.own109 (by decide) (fun wc hw => q109_7  wc )) (fun xq1 hq2 => ?_)
 refine GL.mv rfl (by decide) ?_
 refine GL.step (Stp.callR (vs := [(.int .u32 1073741824)]) rfl rfl T.own109 (by decide) (fun wc hw => q109_7  wc )) (fun xq3 hq4 => ?_)
 refine GL.val (v := (.float .f32 0)) (Ex.farith (r := 0) rfl rfl (by kernel_rfl)) (by decide) ?_
 refine GL.step (Stp.callR (vs := [(.float .f32 0)]) rfl rfl T.own105 (by decide) (fun wc hw => q105_42  wc )) (fun xq5 hq6 => ?_)
 refine GL.sg rfl (by decide) ?_
 refine GL.nil (GE.thenN (GC.ret ?_))
 refine GC.ret1 rfl (Rv.tmp rfl) (fun wN HN => ?_)
 exact HN.ret () trivial rfl ulN rfl

theorem q85_44 (w : World) :
  Calls Try.prog 85 #[(.int .u32 1082130432), (.int .u32 1082130432)] w (Ret w (fun _ : Unit => True) (fun rz => (.int .u32 0)) (fun rz => [])) := by
 refine enter (M := None) (L := []) (n := 11) (l := [(0, (.int .u32 1082130432)), (1, (.int .u32 1082130432))]) Try.func85 rfl rfl (Args.cons rfl (Args.cons rfl (Args.nil _))) (Hp.start _ _) ?_
 refine GC.seq (GC.region ?_)
 refine GL.sg rfl (by decide) ?_
 refine GL.nil (GE.thenN (GC.seq (GC.region ?_)))
 refine GL.mv rfl (by decide) ?_
 refine GL.step (Stp.callR (vs := [(.int .u32 1082130432)]) rfl rfl T.own109 (by decide) (fun wc hw => q109_17  wc )) (fun xq1 hq2 => ?_)
 refine GL.mv rfl (by decide) ?_
 refine GL.step (Stp.callR (vs := [(.int .u32 1082130432)]) rfl rfl T.own109 (by decide) (fun wc hw => q109_17  wc )) (fun xq3 hq4 => ?_)
 refine GL.val (v := (.float .f32 0)) (Ex.farith (r := 0) rfl rfl (by kernel_rfl)) (by decide) ?_
 refine GL.step (Stp.callR (vs := [(.float .f32 0)]) rfl rfl T.own105 (by decide) (fun wc hw => q105_42  wc )) (fun xq5 hq6 => ?_)
 refine GL.sg rfl (by decide) ?_
 refine GL.nil (GE.thenN (GC.ret ?_))
 refine GC.ret1 rfl (Rv.tmp rfl) (fun wN HN => ?_)
 exact HN.ret () trivial rfl ulN rfl

theorem kn_sub (x : Int) (hx : x ∈ ([1065353216, 1073741824, 1082130432] : List Int)) (w : World) : Calls Try.prog 85 #[.int .u32 x, .int .u32 x] w (Ret w (fun _ : Unit => True) (fun _ => .int .u32 0) (fun _ => [])) := by
 simp only [List.mem_cons, List.mem_nil_iff, or_false] at hx
 rcases hx with rfl | rfl | rfl
 ·exact q85_41  w 
 ·exact q85_43  w 
 ·exact q85_44  w 

theorem q48_46 (w : World) :
  Calls Try.prog 48 #[(.int .u32 1073741824)] w (Ret w (fun _ : Unit => True) (fun rz => (.float .f64 4611686018427387904)) (fun rz => [])) := by
 refine enter (M := None) (L := []) (n := 6) (l := [(0, (.int .u32 1073741824))]) Try.func48 rfl rfl (Args.cons rfl (Args.nil _)) (Hp.start _ _) ?_
 refine GC.seq (GC.region ?_)
 refine GL.sg rfl (by decide) ?_
 refine GL.nil (GE.thenN (GC.seq (GC.region ?_)))
 refine GL.mv rfl (by decide) ?_
 refine GL.val (v := (.float .f32 1073741824)) (Ex.ext (vs := [(.int .u32 1073741824)]) rfl rfl T.ext54 (fun _ => by first | rfl | kernel_rfl)) (by decide) ?_
 refine GL.val (v := (.float .f64 4611686018427387904)) (Ex.cff (r := 4611686018427387904) rfl Try.underlying99 Try.underlying44 (by kernel_rfl)) (by decide) ?_
 refine GL.sg rfl (by decide) ?_
 refine GL.nil (GE.thenN (GC.ret ?_))
 refine GC.ret1 rfl (Rv.tmp rfl) (fun wN HN => ?_)
 exact HN.ret () trivial rfl ulN rfl

theorem q48_47 (w : World) :
  Calls Try.prog 48 #[(.int .u32 1082130432)] w (Ret w (fun _ : Unit => True) (fun rz => (.float .f64 4616189618054758400)) (fun rz => [])) := by
 refine enter (M := None) (L := []) (n := 6) (l := [(0, (.int .u32 1082130432))]) Try.func48 rfl rfl (Args.cons rfl (Args.nil _)) (Hp.start _ _) ?_
 refine GC.seq (GC.region ?_)
 refine GL.sg rfl (by decide) ?_
 refine GL.nil (GE.thenN (GC.seq (GC.region ?_)))
 refine GL.mv rfl (by decide) ?_
 refine GL.val (v := (.float .f32 1082130432)) (Ex.ext (vs := [(.int .u32 1082130432)]) rfl rfl T.ext54 (fun _ => by first | rfl | kernel_rfl)) (by decide) ?_
 refine GL.val (v := (.float .f64 4616189618054758400)) (Ex.cff (r := 4616189618054758400) rfl Try.underlying99 Try.underlying44 (by kernel_rfl)) (by decide) ?_
 refine GL.sg rfl (by decide) ?_
 refine GL.nil (GE.thenN (GC.ret ?_))
 refine GC.ret1 rfl (Rv.tmp rfl) (fun wN HN => ?_)
 exact HN.ret () trivial rfl ulN rfl

theorem q122_52 (w : World) :
  Calls Try.prog 122 #[(.int .u32 1082130432)] w (Ret w (fun _ : Unit => True) (fun rz => (.agg #[(.bool false), (.int .i64 129), (.int .i64 0)])) (fun rz => [])) := by
 refine enter (M := None) (L := []) (n := 13) (l := [(0, (.int .u32 1082130432))]) Try.func122 rfl rfl (Args.cons rfl (Args.nil _)) (Hp.start _ _) ?_
 refine GC.seq (GC.region ?_)
 refine GL.step (Stp.alloc T.zr148 (by decide)) (fun bq1 _ => ?_)
 refine GL.nil (GE.thenN (GC.seq (GC.region ?_)))
 refine GL.mv rfl (by decide) ?_
 refine GL.val (v := (.bool false)) (Ex.cast (Ex.geq rfl rfl) rfl) (by decide) ?_
 refine GL.mv rfl (by decide) ?_
 refine GL.val (v := (.int .u32 129)) (Ex.shr rfl (m := 23) rfl (by decide) (Z := 129) (by decide)) (by decide) ?_
 refine GL.val (v := (.int .u32 129)) (Ex.bits rfl rfl (by simp) (Z := 129) (by decide +kernel)) (by decide) ?_
 refine GL.val (v := (.int .i64 129)) (Ex.conv rfl Try.underlying28 Try.underlying3 (Z := 129) (by decide)) (by decide) ?_
 refine GL.mv rfl (by decide) ?_
 refine GL.val (v := (.int .u32 0)) (Ex.bits rfl rfl (by simp) (Z := 0) (by decide +kernel)) (by decide) ?_
 refine GL.val (v := (.int .i64 0)) (Ex.conv rfl Try.underlying28 Try.underlying3 (Z := 0) (by decide)) (by decide) ?_
 refine GL.val (v := (.agg #[(.bool false), (.int .i64 129), (.int .i64 0)])) (Ex.build (vs := [(0, (.bool false)), (1, (.int .i64 129)), (2, (.int .i64 0))]) rfl (by first | rfl | kernel_rfl)) (by decide) ?_
 refine GL.step (Stp.st0 (cs' := [(.bool false), (.int .i64 129), (.int .i64 0)]) rfl rfl rfl T.sz148 rfl rfl rfl) (fun _ _ => ?_)
 refine GL.nil (GE.thenN (GC.ret ?_))
 refine GC.ret1 rfl (Rv.cellA rfl T.ag148 T.sz148 (L := _) (i := 0) rfl (vs := [(.bool false), (.int .i64 129), (.int .i64 0)]) rfl rfl) (fun wN HN => ?_)
 exact HN.ret () trivial rfl (ulS ulN) rfl

theorem q120_51 (w : World) :
  Calls Try.prog 120 #[(.int .u32 1082130432)] w (Ret w (fun _ : Unit => True) (fun rz => (.int .i64 3)) (fun rz => [])) := by
 refine enter (M := None) (L := []) (n := 23) (l := [(0, (.int .u32 1082130432))]) Try.func120 rfl rfl (Args.cons rfl (Args.nil _)) (Hp.start _ _) ?_
 refine GC.seq (GC.region ?_)
 refine GL.sg rfl (by decide) ?_
 refine GL.nil (GE.thenN (GC.seq (GC.region ?_)))
 refine GL.mv rfl (by decide) ?_
 refine GL.step (Stp.callR (vs := [(.int .u32 1082130432)]) rfl rfl T.own122 (by decide) (fun wc hw => q122_52  wc )) (fun xq1 hq2 => ?_)
 refine GL.step (Stp.alloc T.zr148 (by decide)) (fun bq3 _ => ?_)
 refine GL.step (Stp.st0 (cs' := [(.bool false), (.int .i64 129), (.int .i64 0)]) rfl rfl rfl T.sz148 rfl rfl rfl) (fun _ _ => ?_)
 refine GL.nil (GE.thenN (GC.seq (GC.region ?_)))
 refine GL.val (v := (.pointer (some ⟨bq3, 0, none⟩))) (Ex.cast (Ex.fieldAddr rfl Try.underlying148 rfl T.sz4 (by decide)) rfl) (by decide) ?_
 refine GL.step (Stp.st0 (cs' := [(.bool false), (.int .i64 129), (.int .i64 0)]) rfl rfl rfl T.sz4 rfl rfl rfl) (fun _ _ => ?_)
 refine GL.nil (GE.thenN (GC.seq (GC.block (GC.seq (GC.region ?_)))))
 refine GL.val (v := (.agg #[(.bool false), (.int .i64 129), (.int .i64 0)])) (Ex.loadA rfl T.ag148 T.sz148 (i := 0) rfl (vs := [(.bool false), (.int .i64 129), (.int .i64 0)]) rfl rfl) (by decide) ?_
 refine GL.val (v := (.agg #[(.bool false), (.int .i64 0), (.int .i64 0)])) (Ex.build (vs := []) rfl (by first | rfl | kernel_rfl)) (by decide) ?_
 refine GL.val (v := (.bool false)) (Ex.eqS rfl rfl T.sfs148 (EqFs.cons rfl rfl (EqC.bool Try.underlying4) (EqFs.cons rfl rfl (EqC.int Try.underlying3) (EqFs.cons rfl rfl (EqC.int Try.underlying3) EqFs.nil))) (by decide)) (by decide) ?_
 refine GL.sg rfl (by decide) ?_
 refine GL.nil (GE.thenN ?_)
 refine GC.cond rfl (fun hq4 => by cases hq4) (fun _ => ?_)
 refine GC.seq (GC.region ?_)
 refine GL.val (v := (.agg #[(.bool false), (.int .i64 129), (.int .i64 0)])) (Ex.loadA rfl T.ag148 T.sz148 (i := 0) rfl (vs := [(.bool false), (.int .i64 129), (.int .i64 0)]) rfl rfl) (by decide) ?_
 refine GL.val (v := (.agg #[(.bool false), (.int .i64 255), (.int .i64 0)])) (Ex.build (vs := [(1, (.int .i64 255))]) rfl (by first | rfl | kernel_rfl)) (by decide) ?_
 refine GL.val (v := (.bool false)) (Ex.eqS rfl rfl T.sfs148 (EqFs.cons rfl rfl (EqC.bool Try.underlying4) (EqFs.cons rfl rfl (EqC.int Try.underlying3) (EqFs.cons rfl rfl (EqC.int Try.underlying3) EqFs.nil))) (by decide)) (by decide) ?_
 refine GL.sg rfl (by decide) ?_
 refine GL.nil (GE.thenN ?_)
 refine GC.cond rfl (fun hq5 => by cases hq5) (fun _ => ?_)
 refine GC.seq (GC.region ?_)
 refine GL.val (v := (.pointer (some ⟨bq3, 1, none⟩))) (Ex.cast (Ex.fieldAddr rfl Try.underlying148 rfl T.sz3 (by decide)) rfl) (by decide) ?_
 refine GL.val (Ex.load rfl T.ag3 (i := 0) rfl rfl) (by decide) ?_
 refine GL.val (v := (.bool false)) (Ex.cast (Ex.eql rfl rfl) rfl) (by decide) ?_
 refine GL.sg rfl (by decide) ?_
 refine GL.nil (GE.thenN ?_)
 refine GC.cond rfl (fun hq6 => by cases hq6) (fun _ => ?_)
 refine GC.seq (GC.region ?_)
 refine GL.val (v := (.pointer (some ⟨bq3, 1, none⟩))) (Ex.cast (Ex.fieldAddr rfl Try.underlying148 rfl T.sz3 (by decide)) rfl) (by decide) ?_
 refine GL.val (Ex.load rfl T.ag3 (i := 0) rfl rfl) (by decide) ?_
 refine GL.val (v := (.bool false)) (Ex.cast (Ex.eql rfl rfl) rfl) (by decide) ?_
 refine GL.sg rfl (by decide) ?_
 refine GL.nil (GE.thenN ?_)
 refine GC.cond rfl (fun hq7 => by cases hq7) (fun _ => ?_)
 refine GC.skip (GE.blockN (GE.thenN (GC.seq (GC.region ?_))))
 refine GL.sg rfl (by decide) ?_
 refine GL.nil (GE.thenN (GC.ret ?_))
 refine GC.ret1 rfl (Rv.tmp rfl) (fun wN HN => ?_)
 exact HN.ret () trivial rfl (ulS ulN) rfl

theorem q108_50 (w : World) :
  Calls Try.prog 108 #[(.int .u32 1082130432)] w (Ret w (fun _ : Unit => True) (fun rz => (.bool false)) (fun rz => [])) := by
 refine enter (M := None) (L := []) (n := 6) (l := [(0, (.int .u32 1082130432))]) Try.func108 rfl rfl (Args.cons rfl (Args.nil _)) (Hp.start _ _) ?_
 refine GC.seq (GC.region ?_)
 refine GL.sg rfl (by decide) ?_
 refine GL.nil (GE.thenN (GC.seq (GC.region ?_)))
 refine GL.mv rfl (by decide) ?_
 refine GL.step (Stp.callR (vs := [(.int .u32 1082130432)]) rfl rfl T.own120 (by decide) (fun wc hw => q120_51  wc )) (fun xq1 hq2 => ?_)
 refine GL.val (v := (.bool false)) (Ex.cast (Ex.eql rfl rfl) rfl) (by decide) ?_
 refine GL.sg rfl (by decide) ?_
 refine GL.nil (GE.thenN (GC.ret ?_))
 refine GC.ret1 rfl (Rv.tmp rfl) (fun wN HN => ?_)
 exact HN.ret () trivial rfl ulN rfl

theorem q82_49 (w : World) :
  Calls Try.prog 82 #[(.int .u32 1082130432)] w (Ret w (fun _ : Unit => True) (fun rz => (.int .u32 1082130432)) (fun rz => [])) := by
 refine enter (M := None) (L := []) (n := 6) (l := [(0, (.int .u32 1082130432))]) Try.func82 rfl rfl (Args.cons rfl (Args.nil _)) (Hp.start _ _) ?_
 refine GC.seq (GC.region ?_)
 refine GL.sg rfl (by decide) ?_
 refine GL.nil (GE.thenN (GC.seq (GC.seq (GC.region ?_))))
 refine GL.mv rfl (by decide) ?_
 refine GL.step (Stp.callR (vs := [(.int .u32 1082130432)]) rfl rfl T.own108 (by decide) (fun wc hw => q108_50  wc )) (fun xq1 hq2 => ?_)
 refine GL.nil (GE.thenN ?_)
 refine GC.cond rfl (fun hq3 => by cases hq3) (fun _ => ?_)
 refine GC.skip (GE.thenN (GC.seq (GC.region ?_)))
 refine GL.mv rfl (by decide) ?_
 refine GL.sg rfl (by decide) ?_
 refine GL.nil (GE.thenN (GC.ret ?_))
 refine GC.ret1 rfl (Rv.tmp rfl) (fun wN HN => ?_)
 exact HN.ret () trivial rfl ulN rfl

theorem q50_48 (w : World) :
  Calls Try.prog 50 #[(.float .f64 4616189618054758400)] w (Ret w (fun _ : Unit => True) (fun rz => (.int .u32 1082130432)) (fun rz => [])) := by
 refine enter (M := None) (L := []) (n := 7) (l := [(0, (.float .f64 4616189618054758400))]) Try.func50 rfl rfl (Args.cons rfl (Args.nil _)) (Hp.start _ _) ?_
 refine GC.seq (GC.region ?_)
 refine GL.sg rfl (by decide) ?_
 refine GL.nil (GE.thenN (GC.seq (GC.region ?_)))
 refine GL.mv rfl (by decide) ?_
 refine GL.val (v := (.float .f32 1082130432)) (Ex.cff (r := 1082130432) rfl Try.underlying44 Try.underlying99 (by kernel_rfl)) (by decide) ?_
 refine GL.val (v := (.int .u32 1082130432)) (Ex.ext (vs := [(.float .f32 1082130432)]) rfl rfl T.ext83 (fun _ => by first | rfl | kernel_rfl)) (by decide) ?_
 refine GL.step (Stp.callR (vs := [(.int .u32 1082130432)]) rfl rfl T.own82 (by decide) (fun wc hw => q82_49  wc )) (fun xq1 hq2 => ?_)
 refine GL.sg rfl (by decide) ?_
 refine GL.nil (GE.thenN (GC.ret ?_))
 refine GC.ret1 rfl (Rv.tmp rfl) (fun wN HN => ?_)
 exact HN.ret () trivial rfl ulN rfl

theorem q122_57 (w : World) :
  Calls Try.prog 122 #[(.int .u32 1073741824)] w (Ret w (fun _ : Unit => True) (fun rz => (.agg #[(.bool false), (.int .i64 128), (.int .i64 0)])) (fun rz => [])) := by
 refine enter (M := None) (L := []) (n := 13) (l := [(0, (.int .u32 1073741824))]) Try.func122 rfl rfl (Args.cons rfl (Args.nil _)) (Hp.start _ _) ?_
 refine GC.seq (GC.region ?_)
 refine GL.step (Stp.alloc T.zr148 (by decide)) (fun bq1 _ => ?_)
 refine GL.nil (GE.thenN (GC.seq (GC.region ?_)))
 refine GL.mv rfl (by decide) ?_
 refine GL.val (v := (.bool false)) (Ex.cast (Ex.geq rfl rfl) rfl) (by decide) ?_
 refine GL.mv rfl (by decide) ?_
 refine GL.val (v := (.int .u32 128)) (Ex.shr rfl (m := 23) rfl (by decide) (Z := 128) (by decide)) (by decide) ?_
 refine GL.val (v := (.int .u32 128)) (Ex.bits rfl rfl (by simp) (Z := 128) (by decide +kernel)) (by decide) ?_
 refine GL.val (v := (.int .i64 128)) (Ex.conv rfl Try.underlying28 Try.underlying3 (Z := 128) (by decide)) (by decide) ?_
 refine GL.mv rfl (by decide) ?_
 refine GL.val (v := (.int .u32 0)) (Ex.bits rfl rfl (by simp) (Z := 0) (by decide +kernel)) (by decide) ?_
 refine GL.val (v := (.int .i64 0)) (Ex.conv rfl Try.underlying28 Try.underlying3 (Z := 0) (by decide)) (by decide) ?_
 refine GL.val (v := (.agg #[(.bool false), (.int .i64 128), (.int .i64 0)])) (Ex.build (vs := [(0, (.bool false)), (1, (.int .i64 128)), (2, (.int .i64 0))]) rfl (by first | rfl | kernel_rfl)) (by decide) ?_
 refine GL.step (Stp.st0 (cs' := [(.bool false), (.int .i64 128), (.int .i64 0)]) rfl rfl rfl T.sz148 rfl rfl rfl) (fun _ _ => ?_)
 refine GL.nil (GE.thenN (GC.ret ?_))
 refine GC.ret1 rfl (Rv.cellA rfl T.ag148 T.sz148 (L := _) (i := 0) rfl (vs := [(.bool false), (.int .i64 128), (.int .i64 0)]) rfl rfl) (fun wN HN => ?_)
 exact HN.ret () trivial rfl (ulS ulN) rfl

theorem q120_56 (w : World) :
  Calls Try.prog 120 #[(.int .u32 1073741824)] w (Ret w (fun _ : Unit => True) (fun rz => (.int .i64 3)) (fun rz => [])) := by
 refine enter (M := None) (L := []) (n := 23) (l := [(0, (.int .u32 1073741824))]) Try.func120 rfl rfl (Args.cons rfl (Args.nil _)) (Hp.start _ _) ?_
 refine GC.seq (GC.region ?_)
 refine GL.sg rfl (by decide) ?_
 refine GL.nil (GE.thenN (GC.seq (GC.region ?_)))
 refine GL.mv rfl (by decide) ?_
 refine GL.step (Stp.callR (vs := [(.int .u32 1073741824)]) rfl rfl T.own122 (by decide) (fun wc hw => q122_57  wc )) (fun xq1 hq2 => ?_)
 refine GL.step (Stp.alloc T.zr148 (by decide)) (fun bq3 _ => ?_)
 refine GL.step (Stp.st0 (cs' := [(.bool false), (.int .i64 128), (.int .i64 0)]) rfl rfl rfl T.sz148 rfl rfl rfl) (fun _ _ => ?_)
 refine GL.nil (GE.thenN (GC.seq (GC.region ?_)))
 refine GL.val (v := (.pointer (some ⟨bq3, 0, none⟩))) (Ex.cast (Ex.fieldAddr rfl Try.underlying148 rfl T.sz4 (by decide)) rfl) (by decide) ?_
 refine GL.step (Stp.st0 (cs' := [(.bool false), (.int .i64 128), (.int .i64 0)]) rfl rfl rfl T.sz4 rfl rfl rfl) (fun _ _ => ?_)
 refine GL.nil (GE.thenN (GC.seq (GC.block (GC.seq (GC.region ?_)))))
 refine GL.val (v := (.agg #[(.bool false), (.int .i64 128), (.int .i64 0)])) (Ex.loadA rfl T.ag148 T.sz148 (i := 0) rfl (vs := [(.bool false), (.int .i64 128), (.int .i64 0)]) rfl rfl) (by decide) ?_
 refine GL.val (v := (.agg #[(.bool false), (.int .i64 0), (.int .i64 0)])) (Ex.build (vs := []) rfl (by first | rfl | kernel_rfl)) (by decide) ?_
 refine GL.val (v := (.bool false)) (Ex.eqS rfl rfl T.sfs148 (EqFs.cons rfl rfl (EqC.bool Try.underlying4) (EqFs.cons rfl rfl (EqC.int Try.underlying3) (EqFs.cons rfl rfl (EqC.int Try.underlying3) EqFs.nil))) (by decide)) (by decide) ?_
 refine GL.sg rfl (by decide) ?_
 refine GL.nil (GE.thenN ?_)
 refine GC.cond rfl (fun hq4 => by cases hq4) (fun _ => ?_)
 refine GC.seq (GC.region ?_)
 refine GL.val (v := (.agg #[(.bool false), (.int .i64 128), (.int .i64 0)])) (Ex.loadA rfl T.ag148 T.sz148 (i := 0) rfl (vs := [(.bool false), (.int .i64 128), (.int .i64 0)]) rfl rfl) (by decide) ?_
 refine GL.val (v := (.agg #[(.bool false), (.int .i64 255), (.int .i64 0)])) (Ex.build (vs := [(1, (.int .i64 255))]) rfl (by first | rfl | kernel_rfl)) (by decide) ?_
 refine GL.val (v := (.bool false)) (Ex.eqS rfl rfl T.sfs148 (EqFs.cons rfl rfl (EqC.bool Try.underlying4) (EqFs.cons rfl rfl (EqC.int Try.underlying3) (EqFs.cons rfl rfl (EqC.int Try.underlying3) EqFs.nil))) (by decide)) (by decide) ?_
 refine GL.sg rfl (by decide) ?_
 refine GL.nil (GE.thenN ?_)
 refine GC.cond rfl (fun hq5 => by cases hq5) (fun _ => ?_)
 refine GC.seq (GC.region ?_)
 refine GL.val (v := (.pointer (some ⟨bq3, 1, none⟩))) (Ex.cast (Ex.fieldAddr rfl Try.underlying148 rfl T.sz3 (by decide)) rfl) (by decide) ?_
 refine GL.val (Ex.load rfl T.ag3 (i := 0) rfl rfl) (by decide) ?_
 refine GL.val (v := (.bool false)) (Ex.cast (Ex.eql rfl rfl) rfl) (by decide) ?_
 refine GL.sg rfl (by decide) ?_
 refine GL.nil (GE.thenN ?_)
 refine GC.cond rfl (fun hq6 => by cases hq6) (fun _ => ?_)
 refine GC.seq (GC.region ?_)
 refine GL.val (v := (.pointer (some ⟨bq3, 1, none⟩))) (Ex.cast (Ex.fieldAddr rfl Try.underlying148 rfl T.sz3 (by decide)) rfl) (by decide) ?_
 refine GL.val (Ex.load rfl T.ag3 (i := 0) rfl rfl) (by decide) ?_
 refine GL.val (v := (.bool false)) (Ex.cast (Ex.eql rfl rfl) rfl) (by decide) ?_
 refine GL.sg rfl (by decide) ?_
 refine GL.nil (GE.thenN ?_)
 refine GC.cond rfl (fun hq7 => by cases hq7) (fun _ => ?_)
 refine GC.skip (GE.blockN (GE.thenN (GC.seq (GC.region ?_))))
 refine GL.sg rfl (by decide) ?_
 refine GL.nil (GE.thenN (GC.ret ?_))
 refine GC.ret1 rfl (Rv.tmp rfl) (fun wN HN => ?_)
 exact HN.ret () trivial rfl (ulS ulN) rfl

theorem q108_55 (w : World) :
  Calls Try.prog 108 #[(.int .u32 1073741824)] w (Ret w (fun _ : Unit => True) (fun rz => (.bool false)) (fun rz => [])) := by
 refine enter (M := None) (L := []) (n := 6) (l := [(0, (.int .u32 1073741824))]) Try.func108 rfl rfl (Args.cons rfl (Args.nil _)) (Hp.start _ _) ?_
 refine GC.seq (GC.region ?_)
 refine GL.sg rfl (by decide) ?_
 refine GL.nil (GE.thenN (GC.seq (GC.region ?_)))
 refine GL.mv rfl (by decide) ?_
 refine GL.step (Stp.callR (vs := [(.int .u32 1073741824)]) rfl rfl T.own120 (by decide) (fun wc hw => q120_56  wc )) (fun xq1 hq2 => ?_)
 refine GL.val (v := (.bool false)) (Ex.cast (Ex.eql rfl rfl) rfl) (by decide) ?_
 refine GL.sg rfl (by decide) ?_
 refine GL.nil (GE.thenN (GC.ret ?_))
 refine GC.ret1 rfl (Rv.tmp rfl) (fun wN HN => ?_)
 exact HN.ret () trivial rfl ulN rfl

theorem q82_54 (w : World) :
  Calls Try.prog 82 #[(.int .u32 1073741824)] w (Ret w (fun _ : Unit => True) (fun rz => (.int .u32 1073741824)) (fun rz => [])) := by
 refine enter (M := None) (L := []) (n := 6) (l := [(0, (.int .u32 1073741824))]) Try.func82 rfl rfl (Args.cons rfl (Args.nil _)) (Hp.start _ _) ?_
 refine GC.seq (GC.region ?_)
 refine GL.sg rfl (by decide) ?_
 refine GL.nil (GE.thenN (GC.seq (GC.seq (GC.region ?_))))
 refine GL.mv rfl (by decide) ?_
 refine GL.step (Stp.callR (vs := [(.int .u32 1073741824)]) rfl rfl T.own108 (by decide) (fun wc hw => q108_55  wc )) (fun xq1 hq2 => ?_)
 refine GL.nil (GE.thenN ?_)
 refine GC.cond rfl (fun hq3 => by cases hq3) (fun _ => ?_)
 refine GC.skip (GE.thenN (GC.seq (GC.region ?_)))
 refine GL.mv rfl (by decide) ?_
 refine GL.sg rfl (by decide) ?_
 refine GL.nil (GE.thenN (GC.ret ?_))
 refine GC.ret1 rfl (Rv.tmp rfl) (fun wN HN => ?_)
 exact HN.ret () trivial rfl ulN rfl

theorem q50_53 (w : World) :
  Calls Try.prog 50 #[(.float .f64 4611686018427387904)] w (Ret w (fun _ : Unit => True) (fun rz => (.int .u32 1073741824)) (fun rz => [])) := by
 refine enter (M := None) (L := []) (n := 7) (l := [(0, (.float .f64 4611686018427387904))]) Try.func50 rfl rfl (Args.cons rfl (Args.nil _)) (Hp.start _ _) ?_
 refine GC.seq (GC.region ?_)
 refine GL.sg rfl (by decide) ?_
 refine GL.nil (GE.thenN (GC.seq (GC.region ?_)))
 refine GL.mv rfl (by decide) ?_
 refine GL.val (v := (.float .f32 1073741824)) (Ex.cff (r := 1073741824) rfl Try.underlying44 Try.underlying99 (by kernel_rfl)) (by decide) ?_
 refine GL.val (v := (.int .u32 1073741824)) (Ex.ext (vs := [(.float .f32 1073741824)]) rfl rfl T.ext83 (fun _ => by first | rfl | kernel_rfl)) (by decide) ?_
 refine GL.step (Stp.callR (vs := [(.int .u32 1073741824)]) rfl rfl T.own82 (by decide) (fun wc hw => q82_54  wc )) (fun xq1 hq2 => ?_)
 refine GL.sg rfl (by decide) ?_
 refine GL.nil (GE.thenN (GC.ret ?_))
 refine GC.ret1 rfl (Rv.tmp rfl) (fun wN HN => ?_)
 exact HN.ret () trivial rfl ulN rfl

theorem q122_62 (w : World) :
  Calls Try.prog 122 #[(.int .u32 1065353216)] w (Ret w (fun _ : Unit => True) (fun rz => (.agg #[(.bool false), (.int .i64 127), (.int .i64 0)])) (fun rz => [])) := by
 refine enter (M := None) (L := []) (n := 13) (l := [(0, (.int .u32 1065353216))]) Try.func122 rfl rfl (Args.cons rfl (Args.nil _)) (Hp.start _ _) ?_
 refine GC.seq (GC.region ?_)
 refine GL.step (Stp.alloc T.zr148 (by decide)) (fun bq1 _ => ?_)
 refine GL.nil (GE.thenN (GC.seq (GC.region ?_)))
 refine GL.mv rfl (by decide) ?_
 refine GL.val (v := (.bool false)) (Ex.cast (Ex.geq rfl rfl) rfl) (by decide) ?_
 refine GL.mv rfl (by decide) ?_
 refine GL.val (v := (.int .u32 127)) (Ex.shr rfl (m := 23) rfl (by decide) (Z := 127) (by decide)) (by decide) ?_
 refine GL.val (v := (.int .u32 127)) (Ex.bits rfl rfl (by simp) (Z := 127) (by decide +kernel)) (by decide) ?_
 refine GL.val (v := (.int .i64 127)) (Ex.conv rfl Try.underlying28 Try.underlying3 (Z := 127) (by decide)) (by decide) ?_
 refine GL.mv rfl (by decide) ?_
 refine GL.val (v := (.int .u32 0)) (Ex.bits rfl rfl (by simp) (Z := 0) (by decide +kernel)) (by decide) ?_
 refine GL.val (v := (.int .i64 0)) (Ex.conv rfl Try.underlying28 Try.underlying3 (Z := 0) (by decide)) (by decide) ?_
 refine GL.val (v := (.agg #[(.bool false), (.int .i64 127), (.int .i64 0)])) (Ex.build (vs := [(0, (.bool false)), (1, (.int .i64 127)), (2, (.int .i64 0))]) rfl (by first | rfl | kernel_rfl)) (by decide) ?_
 refine GL.step (Stp.st0 (cs' := [(.bool false), (.int .i64 127), (.int .i64 0)]) rfl rfl rfl T.sz148 rfl rfl rfl) (fun _ _ => ?_)
 refine GL.nil (GE.thenN (GC.ret ?_))
 refine GC.ret1 rfl (Rv.cellA rfl T.ag148 T.sz148 (L := _) (i := 0) rfl (vs := [(.bool false), (.int .i64 127), (.int .i64 0)]) rfl rfl) (fun wN HN => ?_)
 exact HN.ret () trivial rfl (ulS ulN) rfl

theorem q120_61 (w : World) :
  Calls Try.prog 120 #[(.int .u32 1065353216)] w (Ret w (fun _ : Unit => True) (fun rz => (.int .i64 3)) (fun rz => [])) := by
 refine enter (M := None) (L := []) (n := 23) (l := [(0, (.int .u32 1065353216))]) Try.func120 rfl rfl (Args.cons rfl (Args.nil _)) (Hp.start _ _) ?_
 refine GC.seq (GC.region ?_)
 refine GL.sg rfl (by decide) ?_
 refine GL.nil (GE.thenN (GC.seq (GC.region ?_)))
 refine GL.mv rfl (by decide) ?_
 refine GL.step (Stp.callR (vs := [(.int .u32 1065353216)]) rfl rfl T.own122 (by decide) (fun wc hw => q122_62  wc )) (fun xq1 hq2 => ?_)
 refine GL.step (Stp.alloc T.zr148 (by decide)) (fun bq3 _ => ?_)
 refine GL.step (Stp.st0 (cs' := [(.bool false), (.int .i64 127), (.int .i64 0)]) rfl rfl rfl T.sz148 rfl rfl rfl) (fun _ _ => ?_)
 refine GL.nil (GE.thenN (GC.seq (GC.region ?_)))
 refine GL.val (v := (.pointer (some ⟨bq3, 0, none⟩))) (Ex.cast (Ex.fieldAddr rfl Try.underlying148 rfl T.sz4 (by decide)) rfl) (by decide) ?_
 refine GL.step (Stp.st0 (cs' := [(.bool false), (.int .i64 127), (.int .i64 0)]) rfl rfl rfl T.sz4 rfl rfl rfl) (fun _ _ => ?_)
 refine GL.nil (GE.thenN (GC.seq (GC.block (GC.seq (GC.region ?_)))))
 refine GL.val (v := (.agg #[(.bool false), (.int .i64 127), (.int .i64 0)])) (Ex.loadA rfl T.ag148 T.sz148 (i := 0) rfl (vs := [(.bool false), (.int .i64 127), (.int .i64 0)]) rfl rfl) (by decide) ?_
 refine GL.val (v := (.agg #[(.bool false), (.int .i64 0), (.int .i64 0)])) (Ex.build (vs := []) rfl (by first | rfl | kernel_rfl)) (by decide) ?_
 refine GL.val (v := (.bool false)) (Ex.eqS rfl rfl T.sfs148 (EqFs.cons rfl rfl (EqC.bool Try.underlying4) (EqFs.cons rfl rfl (EqC.int Try.underlying3) (EqFs.cons rfl rfl (EqC.int Try.underlying3) EqFs.nil))) (by decide)) (by decide) ?_
 refine GL.sg rfl (by decide) ?_
 refine GL.nil (GE.thenN ?_)
 refine GC.cond rfl (fun hq4 => by cases hq4) (fun _ => ?_)
 refine GC.seq (GC.region ?_)
 refine GL.val (v := (.agg #[(.bool false), (.int .i64 127), (.int .i64 0)])) (Ex.loadA rfl T.ag148 T.sz148 (i := 0) rfl (vs := [(.bool false), (.int .i64 127), (.int .i64 0)]) rfl rfl) (by decide) ?_
 refine GL.val (v := (.agg #[(.bool false), (.int .i64 255), (.int .i64 0)])) (Ex.build (vs := [(1, (.int .i64 255))]) rfl (by first | rfl | kernel_rfl)) (by decide) ?_
 refine GL.val (v := (.bool false)) (Ex.eqS rfl rfl T.sfs148 (EqFs.cons rfl rfl (EqC.bool Try.underlying4) (EqFs.cons rfl rfl (EqC.int Try.underlying3) (EqFs.cons rfl rfl (EqC.int Try.underlying3) EqFs.nil))) (by decide)) (by decide) ?_
 refine GL.sg rfl (by decide) ?_
 refine GL.nil (GE.thenN ?_)
 refine GC.cond rfl (fun hq5 => by cases hq5) (fun _ => ?_)
 refine GC.seq (GC.region ?_)
 refine GL.val (v := (.pointer (some ⟨bq3, 1, none⟩))) (Ex.cast (Ex.fieldAddr rfl Try.underlying148 rfl T.sz3 (by decide)) rfl) (by decide) ?_
 refine GL.val (Ex.load rfl T.ag3 (i := 0) rfl rfl) (by decide) ?_
 refine GL.val (v := (.bool false)) (Ex.cast (Ex.eql rfl rfl) rfl) (by decide) ?_
 refine GL.sg rfl (by decide) ?_
 refine GL.nil (GE.thenN ?_)
 refine GC.cond rfl (fun hq6 => by cases hq6) (fun _ => ?_)
 refine GC.seq (GC.region ?_)
 refine GL.val (v := (.pointer (some ⟨bq3, 1, none⟩))) (Ex.cast (Ex.fieldAddr rfl Try.underlying148 rfl T.sz3 (by decide)) rfl) (by decide) ?_
 refine GL.val (Ex.load rfl T.ag3 (i := 0) rfl rfl) (by decide) ?_
 refine GL.val (v := (.bool false)) (Ex.cast (Ex.eql rfl rfl) rfl) (by decide) ?_
 refine GL.sg rfl (by decide) ?_
 refine GL.nil (GE.thenN ?_)
 refine GC.cond rfl (fun hq7 => by cases hq7) (fun _ => ?_)
 refine GC.skip (GE.blockN (GE.thenN (GC.seq (GC.region ?_))))
 refine GL.sg rfl (by decide) ?_
 refine GL.nil (GE.thenN (GC.ret ?_))
 refine GC.ret1 rfl (Rv.tmp rfl) (fun wN HN => ?_)
 exact HN.ret () trivial rfl (ulS ulN) rfl

theorem q108_60 (w : World) :
  Calls Try.prog 108 #[(.int .u32 1065353216)] w (Ret w (fun _ : Unit => True) (fun rz => (.bool false)) (fun rz => [])) := by
 refine enter (M := None) (L := []) (n := 6) (l := [(0, (.int .u32 1065353216))]) Try.func108 rfl rfl (Args.cons rfl (Args.nil _)) (Hp.start _ _) ?_
 refine GC.seq (GC.region ?_)
 refine GL.sg rfl (by decide) ?_
 refine GL.nil (GE.thenN (GC.seq (GC.region ?_)))
 refine GL.mv rfl (by decide) ?_
 refine GL.step (Stp.callR (vs := [(.int .u32 1065353216)]) rfl rfl T.own120 (by decide) (fun wc hw => q120_61  wc )) (fun xq1 hq2 => ?_)
 refine GL.val (v := (.bool false)) (Ex.cast (Ex.eql rfl rfl) rfl) (by decide) ?_
 refine GL.sg rfl (by decide) ?_
 refine GL.nil (GE.thenN (GC.ret ?_))
 refine GC.ret1 rfl (Rv.tmp rfl) (fun wN HN => ?_)
 exact HN.ret () trivial rfl ulN rfl

theorem q82_59 (w : World) :
  Calls Try.prog 82 #[(.int .u32 1065353216)] w (Ret w (fun _ : Unit => True) (fun rz => (.int .u32 1065353216)) (fun rz => [])) := by
 refine enter (M := None) (L := []) (n := 6) (l := [(0, (.int .u32 1065353216))]) Try.func82 rfl rfl (Args.cons rfl (Args.nil _)) (Hp.start _ _) ?_
 refine GC.seq (GC.region ?_)
 refine GL.sg rfl (by decide) ?_
 refine GL.nil (GE.thenN (GC.seq (GC.seq (GC.region ?_))))
 refine GL.mv rfl (by decide) ?_
 refine GL.step (Stp.callR (vs := [(.int .u32 1065353216)]) rfl rfl T.own108 (by decide) (fun wc hw => q108_60  wc )) (fun xq1 hq2 => ?_)
 refine GL.nil (GE.thenN ?_)
 refine GC.cond rfl (fun hq3 => by cases hq3) (fun _ => ?_)
 refine GC.skip (GE.thenN (GC.seq (GC.region ?_)))
 refine GL.mv rfl (by decide) ?_
 refine GL.sg rfl (by decide) ?_
 refine GL.nil (GE.thenN (GC.ret ?_))
 refine GC.ret1 rfl (Rv.tmp rfl) (fun wN HN => ?_)
 exact HN.ret () trivial rfl ulN rfl

theorem q50_58 (w : World) :
  Calls Try.prog 50 #[(.float .f64 4607182418800017408)] w (Ret w (fun _ : Unit => True) (fun rz => (.int .u32 1065353216)) (fun rz => [])) := by
 refine enter (M := None) (L := []) (n := 7) (l := [(0, (.float .f64 4607182418800017408))]) Try.func50 rfl rfl (Args.cons rfl (Args.nil _)) (Hp.start _ _) ?_
 refine GC.seq (GC.region ?_)
 refine GL.sg rfl (by decide) ?_
 refine GL.nil (GE.thenN (GC.seq (GC.region ?_)))
 refine GL.mv rfl (by decide) ?_
 refine GL.val (v := (.float .f32 1065353216)) (Ex.cff (r := 1065353216) rfl Try.underlying44 Try.underlying99 (by kernel_rfl)) (by decide) ?_
 refine GL.val (v := (.int .u32 1065353216)) (Ex.ext (vs := [(.float .f32 1065353216)]) rfl rfl T.ext83 (fun _ => by first | rfl | kernel_rfl)) (by decide) ?_
 refine GL.step (Stp.callR (vs := [(.int .u32 1065353216)]) rfl rfl T.own82 (by decide) (fun wc hw => q82_59  wc )) (fun xq1 hq2 => ?_)
 refine GL.sg rfl (by decide) ?_
 refine GL.nil (GE.thenN (GC.ret ?_))
 refine GC.ret1 rfl (Rv.tmp rfl) (fun wN HN => ?_)
 exact HN.ret () trivial rfl ulN rfl

theorem q49_45 (c0 : Nat) (w : World) (hh : Has w [⟨c0, [(.float .f64 0), (.float .f64 0), (.float .f64 4607182418800017408), (.float .f64 0), (.float .f64 4607182418800017408), (.float .f64 0), (.float .f64 4607182418800017408), (.float .f64 0), (.float .f64 0)], 93, false⟩]) :
  Calls Try.prog 49 #[(.int .u32 1065353216), (.int .u32 1073741824), (.int .u32 1082130432), (.pointer (some ⟨c0, 0, none⟩))] w (Ret w (fun _ : Unit => True) (fun rz => (.tuple #[(.int .u32 1082130432), (.int .u32 1073741824), (.int .u32 1065353216)])) (fun rz => [])) := by
 refine enter (M := None) (L := [⟨c0, [(.float .f64 0), (.float .f64 0), (.float .f64 4607182418800017408), (.float .f64 0), (.float .f64 4607182418800017408), (.float .f64 0), (.float .f64 4607182418800017408), (.float .f64 0), (.float .f64 0)], 93, false⟩]) (n := 49) (l := [(0, (.int .u32 1065353216)), (1, (.int .u32 1073741824)), (2, (.int .u32 1082130432)), (3, (.pointer (some ⟨c0, 0, none⟩)))]) Try.func49 rfl rfl (Args.cons rfl (Args.cons rfl (Args.cons rfl (Args.cons rfl (Args.nil _))))) (Hp.reads hh rfl) ?_
 refine GC.seq (GC.region ?_)
 refine GL.sg rfl (by decide) ?_
 refine GL.sg rfl (by decide) ?_
 refine GL.sg rfl (by decide) ?_
 refine GL.nil (GE.thenN (GC.seq (GC.region ?_)))
 refine GL.step (Stp.alloc T.zr94 (by decide)) (fun bq1 _ => ?_)
 refine GL.nil (GE.thenN (GC.seq (GC.seq (GC.region ?_))))
 refine GL.val (v := (.agg #[(.float .f64 0), (.float .f64 0), (.float .f64 4607182418800017408), (.float .f64 0), (.float .f64 4607182418800017408), (.float .f64 0), (.float .f64 4607182418800017408), (.float .f64 0), (.float .f64 0)])) (Ex.loadA rfl T.ag93 T.sz93 (i := 1) rfl (vs := [(.float .f64 0), (.float .f64 0), (.float .f64 4607182418800017408), (.float .f64 0), (.float .f64 4607182418800017408), (.float .f64 0), (.float .f64 4607182418800017408), (.float .f64 0), (.float .f64 0)]) rfl rfl) (by decide) ?_
 refine GL.mv rfl (by decide) ?_
 refine GL.nil (GE.thenN (GC.block ?_))
 refine GC.unroll 200 ?_
 refine GE.round (GC.seq (GC.region ?_))
 refine GL.val (v := (.bool true)) (Ex.cast (Ex.lss rfl rfl) rfl) (by decide) ?_
 refine GL.nil (GE.thenN (GC.seq ?_))
 refine GC.cond rfl (fun _ => ?_) (fun hq2 => by cases hq2)
 refine GC.skip (GE.thenN (GC.seq (GC.block (GC.seq (GC.region ?_)))))
 refine GL.mv rfl (by decide) ?_
 refine GL.val (v := (.agg #[(.float .f64 0), (.float .f64 0), (.float .f64 4607182418800017408)])) (Ex.indexA rfl rfl Try.underlying93 T.sz92 T.ag92 (by decide) (by decide) (vs := [(.float .f64 0), (.float .f64 0), (.float .f64 4607182418800017408)]) rfl) (by decide) ?_
 refine GL.step (Stp.alloc T.zr92 (by decide)) (fun bq3 _ => ?_)
 refine GL.sg rfl (by decide) ?_
 refine GL.step (Stp.st0 (cs' := [(.float .f64 0), (.float .f64 0), (.float .f64 4607182418800017408)]) rfl rfl rfl T.sz92 rfl rfl rfl) (fun _ _ => ?_)
 refine GL.nil (GE.thenN (GC.seq ?_))
 refine GC.drawP [⟨bq3, [(.float .f64 0), (.float .f64 0), (.float .f64 4607182418800017408)], 92, true⟩, ⟨bq1, [(.int .u32 0), (.int .u32 0), (.int .u32 0)], 94, true⟩, ⟨c0, [(.float .f64 0), (.float .f64 0), (.float .f64 4607182418800017408), (.float .f64 0), (.float .f64 4607182418800017408), (.float .f64 0), (.float .f64 4607182418800017408), (.float .f64 0), (.float .f64 0)], 93, false⟩] T.mixed (by kernel_rfl) (by kernel_rfl) (fuel := 5) rfl rfl ?_
 refine GH.tk 0 (v := (.pointer (some ⟨bq3, 0, none⟩))) rfl (by kernel_rfl) (fun _ _ _ h => h) (Ex.cast (Ex.indexArr (m := 3) rfl rfl Try.underlying92 T.sz44 (by decide) (by decide)) rfl) (ulC (ulC (ulC ulN))) (by decide) ?_
 refine GH.tk 1 (v := (.float .f64 0)) rfl (by kernel_rfl) (fun _ _ _ h => h) (Ex.load rfl T.ag44 (i := 0) rfl rfl) (ulC (ulC (ulC ulN))) (by decide) ?_
 refine GH.tk 2 (v := (.int .u32 1065353216)) rfl (by kernel_rfl) (fun _ _ _ h => h) (Ex.move rfl) (ulC (ulC (ulC ulN))) (by decide) ?_
 refine GH.one 3 rfl (by kernel_rfl) (Stp.callR (vs := [(.int .u32 1065353216)]) rfl rfl T.own48 (by decide) (fun wc hw => q48_2  wc )) (fun _ => (ulC (ulC (ulC ulN)))) (fun xq6 hq7 => ?_)
 refine GH.tk 4 (v := (.float .f64 0)) rfl (by kernel_rfl) (fun _ _ _ h => h) (Ex.farith (r := 0) rfl rfl (by kernel_rfl)) (ulC (ulC (ulC ulN))) (by decide) ?_
 refine GH.done (by kernel_rfl) ?_
 refine GE.thenN ?_
 refine GE.tail rfl (Ex.wp (v := (.float .f64 0)) (Ex.assign rfl) (by decide)) (fun _ _ => ?_)
 refine GE.thenN (GC.seq ?_)
 refine GC.drawP [⟨bq3, [(.float .f64 0), (.float .f64 0), (.float .f64 4607182418800017408)], 92, true⟩, ⟨bq1, [(.int .u32 0), (.int .u32 0), (.int .u32 0)], 94, true⟩, ⟨c0, [(.float .f64 0), (.float .f64 0), (.float .f64 4607182418800017408), (.float .f64 0), (.float .f64 4607182418800017408), (.float .f64 0), (.float .f64 4607182418800017408), (.float .f64 0), (.float .f64 0)], 93, false⟩] T.mixed (by kernel_rfl) (by kernel_rfl) (fuel := 7) rfl rfl ?_
 refine GH.tk 0 (v := (.float .f64 0)) rfl (by kernel_rfl) (fun _ _ _ h => h) (Ex.move rfl) (ulC (ulC (ulC ulN))) (by decide) ?_
 refine GH.tk 1 (v := (.pointer (some ⟨bq3, 1, none⟩))) rfl (by kernel_rfl) (fun _ _ _ h => h) (Ex.cast (Ex.indexArr (m := 3) rfl rfl Try.underlying92 T.sz44 (by decide) (by decide)) rfl) (ulC (ulC (ulC ulN))) (by decide) ?_
 refine GH.tk 2 (v := (.float .f64 0)) rfl (by kernel_rfl) (fun _ _ _ h => h) (Ex.load rfl T.ag44 (i := 0) rfl rfl) (ulC (ulC (ulC ulN))) (by decide) ?_
 refine GH.tk 3 (v := (.int .u32 1073741824)) rfl (by kernel_rfl) (fun _ _ _ h => h) (Ex.move rfl) (ulC (ulC (ulC ulN))) (by decide) ?_
 refine GH.one 4 rfl (by kernel_rfl) (Stp.callR (vs := [(.int .u32 1073741824)]) rfl rfl T.own48 (by decide) (fun wc hw => q48_46  wc )) (fun _ => (ulC (ulC (ulC ulN)))) (fun xq10 hq11 => ?_)
 refine GH.tk 5 (v := (.float .f64 0)) rfl (by kernel_rfl) (fun _ _ _ h => h) (Ex.farith (r := 0) rfl rfl (by kernel_rfl)) (ulC (ulC (ulC ulN))) (by decide) ?_
 refine GH.tk 6 (v := (.float .f64 0)) rfl (by kernel_rfl) (fun _ _ _ h => h) (Ex.farith (r := 0) rfl rfl (by kernel_rfl)) (ulC (ulC (ulC ulN))) (by decide) ?_
 refine GH.done (by kernel_rfl) ?_
 refine GE.thenN ?_
 refine GE.tail rfl (Ex.wp (v := (.float .f64 0)) (Ex.assign rfl) (by decide)) (fun _ _ => ?_)
 refine GE.thenN (GC.seq ?_)
 refine GC.drawP [⟨bq3, [(.float .f64 0), (.float .f64 0), (.float .f64 4607182418800017408)], 92, true⟩, ⟨bq1, [(.int .u32 0), (.int .u32 0), (.int .u32 0)], 94, true⟩, ⟨c0, [(.float .f64 0), (.float .f64 0), (.float .f64 4607182418800017408), (.float .f64 0), (.float .f64 4607182418800017408), (.float .f64 0), (.float .f64 4607182418800017408), (.float .f64 0), (.float .f64 0)], 93, false⟩] T.mixed (by kernel_rfl) (by kernel_rfl) (fuel := 7) rfl rfl ?_
 refine GH.tk 0 (v := (.float .f64 0)) rfl (by kernel_rfl) (fun _ _ _ h => h) (Ex.move rfl) (ulC (ulC (ulC ulN))) (by decide) ?_
 refine GH.tk 1 (v := (.pointer (some ⟨bq3, 2, none⟩))) rfl (by kernel_rfl) (fun _ _ _ h => h) (Ex.cast (Ex.indexArr (m := 3) rfl rfl Try.underlying92 T.sz44 (by decide) (by decide)) rfl) (ulC (ulC (ulC ulN))) (by decide) ?_
 refine GH.tk 2 (v := (.float .f64 4607182418800017408)) rfl (by kernel_rfl) (fun _ _ _ h => h) (Ex.load rfl T.ag44 (i := 0) rfl rfl) (ulC (ulC (ulC ulN))) (by decide) ?_
 refine GH.tk 3 (v := (.int .u32 1082130432)) rfl (by kernel_rfl) (fun _ _ _ h => h) (Ex.move rfl) (ulC (ulC (ulC ulN))) (by decide) ?_
 refine GH.one 4 rfl (by kernel_rfl) (Stp.callR (vs := [(.int .u32 1082130432)]) rfl rfl T.own48 (by decide) (fun wc hw => q48_47  wc )) (fun _ => (ulC (ulC (ulC ulN)))) (fun xq14 hq15 => ?_)
 refine GH.tk 5 (v := (.float .f64 4616189618054758400)) rfl (by kernel_rfl) (fun _ _ _ h => h) (Ex.farith (r := 4616189618054758400) rfl rfl (by kernel_rfl)) (ulC (ulC (ulC ulN))) (by decide) ?_
 refine GH.tk 6 (v := (.float .f64 4616189618054758400)) rfl (by kernel_rfl) (fun _ _ _ h => h) (Ex.farith (r := 4616189618054758400) rfl rfl (by kernel_rfl)) (ulC (ulC (ulC ulN))) (by decide) ?_
 refine GH.done (by kernel_rfl) ?_
 refine GE.thenN ?_
 refine GE.tail rfl (Ex.wp (v := (.float .f64 4616189618054758400)) (Ex.assign rfl) (by decide)) (fun _ _ => ?_)
 refine GE.thenN (GC.region ?_)
 refine GL.mv rfl (by decide) ?_
 refine GL.mv rfl (by decide) ?_
 refine GL.step (Stp.callR (vs := [(.float .f64 4616189618054758400)]) rfl rfl T.own50 (by decide) (fun wc hw => q50_48  wc )) (fun xq16 hq17 => ?_)
 refine GL.val (v := (.pointer (some ⟨bq1, 0, none⟩))) (Ex.cast (Ex.indexArr (m := 3) rfl rfl Try.underlying94 T.sz28 (by decide) (by decide)) rfl) (by decide) ?_
 refine GL.step (Stp.st1 (cs' := [(.int .u32 1082130432), (.int .u32 0), (.int .u32 0)]) rfl rfl rfl T.sz28 rfl rfl rfl) (fun _ _ => ?_)
 refine GL.nil (GE.blockN (GE.thenN (GC.region ?_)))
 refine GL.val (v := (.int .i64 1)) (Ex.add rfl rfl (Z := 1) (by decide)) (by decide) ?_
 refine GL.mv rfl (by decide) ?_
 refine GL.nil (GE.thenN (GE.round (GC.seq (GC.region ?_))))
 refine GL.val (v := (.bool true)) (Ex.cast (Ex.lss rfl rfl) rfl) (by decide) ?_
 refine GL.nil (GE.thenN (GC.seq ?_))
 refine GC.cond rfl (fun _ => ?_) (fun hq18 => by cases hq18)
 refine GC.skip (GE.thenN (GC.seq (GC.block (GC.seq (GC.region ?_)))))
 refine GL.mv rfl (by decide) ?_
 refine GL.val (v := (.agg #[(.float .f64 0), (.float .f64 4607182418800017408), (.float .f64 0)])) (Ex.indexA rfl rfl Try.underlying93 T.sz92 T.ag92 (by decide) (by decide) (vs := [(.float .f64 0), (.float .f64 4607182418800017408), (.float .f64 0)]) rfl) (by decide) ?_
 refine GL.step (Stp.alloc T.zr92 (by decide)) (fun bq19 _ => ?_)
 refine GL.sg rfl (by decide) ?_
 refine GL.step (Stp.st0 (cs' := [(.float .f64 0), (.float .f64 4607182418800017408), (.float .f64 0)]) rfl rfl rfl T.sz92 rfl rfl rfl) (fun _ _ => ?_)
 refine GL.nil (GE.thenN (GC.seq ?_))
 refine GC.drawP [⟨bq19, [(.float .f64 0), (.float .f64 4607182418800017408), (.float .f64 0)], 92, true⟩, ⟨bq3, [(.float .f64 0), (.float .f64 0), (.float .f64 4607182418800017408)], 92, true⟩, ⟨bq1, [(.int .u32 1082130432), (.int .u32 0), (.int .u32 0)], 94, true⟩, ⟨c0, [(.float .f64 0), (.float .f64 0), (.float .f64 4607182418800017408), (.float .f64 0), (.float .f64 4607182418800017408), (.float .f64 0), (.float .f64 4607182418800017408), (.float .f64 0), (.float .f64 0)], 93, false⟩] T.mixed (by kernel_rfl) (by kernel_rfl) (fuel := 5) rfl rfl ?_
 refine GH.tk 0 (v := (.pointer (some ⟨bq19, 0, none⟩))) rfl (by kernel_rfl) (fun _ _ _ h => h) (Ex.cast (Ex.indexArr (m := 3) rfl rfl Try.underlying92 T.sz44 (by decide) (by decide)) rfl) (ulC (ulC (ulC (ulC ulN)))) (by decide) ?_
 refine GH.tk 1 (v := (.float .f64 0)) rfl (by kernel_rfl) (fun _ _ _ h => h) (Ex.load rfl T.ag44 (i := 0) rfl rfl) (ulC (ulC (ulC (ulC ulN)))) (by decide) ?_
 refine GH.tk 2 (v := (.int .u32 1065353216)) rfl (by kernel_rfl) (fun _ _ _ h => h) (Ex.move rfl) (ulC (ulC (ulC (ulC ulN)))) (by decide) ?_
 refine GH.one 3 rfl (by kernel_rfl) (Stp.callR (vs := [(.int .u32 1065353216)]) rfl rfl T.own48 (by decide) (fun wc hw => q48_2  wc )) (fun _ => (ulC (ulC (ulC (ulC ulN))))) (fun xq22 hq23 => ?_)
 refine GH.tk 4 (v := (.float .f64 0)) rfl (by kernel_rfl) (fun _ _ _ h => h) (Ex.farith (r := 0) rfl rfl (by kernel_rfl)) (ulC (ulC (ulC (ulC ulN)))) (by decide) ?_
 refine GH.done (by kernel_rfl) ?_
 refine GE.thenN ?_
 refine GE.tail rfl (Ex.wp (v := (.float .f64 0)) (Ex.assign rfl) (by decide)) (fun _ _ => ?_)
 refine GE.thenN (GC.seq ?_)
 refine GC.drawP [⟨bq19, [(.float .f64 0), (.float .f64 4607182418800017408), (.float .f64 0)], 92, true⟩, ⟨bq3, [(.float .f64 0), (.float .f64 0), (.float .f64 4607182418800017408)], 92, true⟩, ⟨bq1, [(.int .u32 1082130432), (.int .u32 0), (.int .u32 0)], 94, true⟩, ⟨c0, [(.float .f64 0), (.float .f64 0), (.float .f64 4607182418800017408), (.float .f64 0), (.float .f64 4607182418800017408), (.float .f64 0), (.float .f64 4607182418800017408), (.float .f64 0), (.float .f64 0)], 93, false⟩] T.mixed (by kernel_rfl) (by kernel_rfl) (fuel := 7) rfl rfl ?_
 refine GH.tk 0 (v := (.float .f64 0)) rfl (by kernel_rfl) (fun _ _ _ h => h) (Ex.move rfl) (ulC (ulC (ulC (ulC ulN)))) (by decide) ?_
 refine GH.tk 1 (v := (.pointer (some ⟨bq19, 1, none⟩))) rfl (by kernel_rfl) (fun _ _ _ h => h) (Ex.cast (Ex.indexArr (m := 3) rfl rfl Try.underlying92 T.sz44 (by decide) (by decide)) rfl) (ulC (ulC (ulC (ulC ulN)))) (by decide) ?_
 refine GH.tk 2 (v := (.float .f64 4607182418800017408)) rfl (by kernel_rfl) (fun _ _ _ h => h) (Ex.load rfl T.ag44 (i := 0) rfl rfl) (ulC (ulC (ulC (ulC ulN)))) (by decide) ?_
 refine GH.tk 3 (v := (.int .u32 1073741824)) rfl (by kernel_rfl) (fun _ _ _ h => h) (Ex.move rfl) (ulC (ulC (ulC (ulC ulN)))) (by decide) ?_
 refine GH.one 4 rfl (by kernel_rfl) (Stp.callR (vs := [(.int .u32 1073741824)]) rfl rfl T.own48 (by decide) (fun wc hw => q48_46  wc )) (fun _ => (ulC (ulC (ulC (ulC ulN))))) (fun xq26 hq27 => ?_)
 refine GH.tk 5 (v := (.float .f64 4611686018427387904)) rfl (by kernel_rfl) (fun _ _ _ h => h) (Ex.farith (r := 4611686018427387904) rfl rfl (by kernel_rfl)) (ulC (ulC (ulC (ulC ulN)))) (by decide) ?_
 refine GH.tk 6 (v := (.float .f64 4611686018427387904)) rfl (by kernel_rfl) (fun _ _ _ h => h) (Ex.farith (r := 4611686018427387904) rfl rfl (by kernel_rfl)) (ulC (ulC (ulC (ulC ulN)))) (by decide) ?_
 refine GH.done (by kernel_rfl) ?_
 refine GE.thenN ?_
 refine GE.tail rfl (Ex.wp (v := (.float .f64 4611686018427387904)) (Ex.assign rfl) (by decide)) (fun _ _ => ?_)
 refine GE.thenN (GC.seq ?_)
 refine GC.drawP [⟨bq19, [(.float .f64 0), (.float .f64 4607182418800017408), (.float .f64 0)], 92, true⟩, ⟨bq3, [(.float .f64 0), (.float .f64 0), (.float .f64 4607182418800017408)], 92, true⟩, ⟨bq1, [(.int .u32 1082130432), (.int .u32 0), (.int .u32 0)], 94, true⟩, ⟨c0, [(.float .f64 0), (.float .f64 0), (.float .f64 4607182418800017408), (.float .f64 0), (.float .f64 4607182418800017408), (.float .f64 0), (.float .f64 4607182418800017408), (.float .f64 0), (.float .f64 0)], 93, false⟩] T.mixed (by kernel_rfl) (by kernel_rfl) (fuel := 7) rfl rfl ?_
 refine GH.tk 0 (v := (.float .f64 4611686018427387904)) rfl (by kernel_rfl) (fun _ _ _ h => h) (Ex.move rfl) (ulC (ulC (ulC (ulC ulN)))) (by decide) ?_
 refine GH.tk 1 (v := (.pointer (some ⟨bq19, 2, none⟩))) rfl (by kernel_rfl) (fun _ _ _ h => h) (Ex.cast (Ex.indexArr (m := 3) rfl rfl Try.underlying92 T.sz44 (by decide) (by decide)) rfl) (ulC (ulC (ulC (ulC ulN)))) (by decide) ?_
 refine GH.tk 2 (v := (.float .f64 0)) rfl (by kernel_rfl) (fun _ _ _ h => h) (Ex.load rfl T.ag44 (i := 0) rfl rfl) (ulC (ulC (ulC (ulC ulN)))) (by decide) ?_
 refine GH.tk 3 (v := (.int .u32 1082130432)) rfl (by kernel_rfl) (fun _ _ _ h => h) (Ex.move rfl) (ulC (ulC (ulC (ulC ulN)))) (by decide) ?_
 refine GH.one 4 rfl (by kernel_rfl) (Stp.callR (vs := [(.int .u32 1082130432)]) rfl rfl T.own48 (by decide) (fun wc hw => q48_47  wc )) (fun _ => (ulC (ulC (ulC (ulC ulN))))) (fun xq30 hq31 => ?_)
 refine GH.tk 5 (v := (.float .f64 0)) rfl (by kernel_rfl) (fun _ _ _ h => h) (Ex.farith (r := 0) rfl rfl (by kernel_rfl)) (ulC (ulC (ulC (ulC ulN)))) (by decide) ?_
 refine GH.tk 6 (v := (.float .f64 4611686018427387904)) rfl (by kernel_rfl) (fun _ _ _ h => h) (Ex.farith (r := 4611686018427387904) rfl rfl (by kernel_rfl)) (ulC (ulC (ulC (ulC ulN)))) (by decide) ?_
 refine GH.done (by kernel_rfl) ?_
 refine GE.thenN ?_
 refine GE.tail rfl (Ex.wp (v := (.float .f64 4611686018427387904)) (Ex.assign rfl) (by decide)) (fun _ _ => ?_)
 refine GE.thenN (GC.region ?_)
 refine GL.mv rfl (by decide) ?_
 refine GL.mv rfl (by decide) ?_
 refine GL.step (Stp.callR (vs := [(.float .f64 4611686018427387904)]) rfl rfl T.own50 (by decide) (fun wc hw => q50_53  wc )) (fun xq32 hq33 => ?_)
 refine GL.val (v := (.pointer (some ⟨bq1, 1, none⟩))) (Ex.cast (Ex.indexArr (m := 3) rfl rfl Try.underlying94 T.sz28 (by decide) (by decide)) rfl) (by decide) ?_
 refine GL.step (Stp.st2 (cs' := [(.int .u32 1082130432), (.int .u32 1073741824), (.int .u32 0)]) rfl rfl rfl T.sz28 rfl rfl rfl) (fun _ _ => ?_)
 refine GL.nil (GE.blockN (GE.thenN (GC.region ?_)))
 refine GL.val (v := (.int .i64 2)) (Ex.add rfl rfl (Z := 2) (by decide)) (by decide) ?_
 refine GL.mv rfl (by decide) ?_
 refine GL.nil (GE.thenN (GE.round ?_))
 refine GC.pick (idx := [0, 2, 3]) (by decide) rfl ?_
 refine GC.seq (GC.region ?_)
 refine GL.val (v := (.bool true)) (Ex.cast (Ex.lss rfl rfl) rfl) (by decide) ?_
 refine GL.nil (GE.thenN (GC.seq ?_))
 refine GC.cond rfl (fun _ => ?_) (fun hq34 => by cases hq34)
 refine GC.skip (GE.thenN (GC.seq (GC.block (GC.seq (GC.region ?_)))))
 refine GL.mv rfl (by decide) ?_
 refine GL.val (v := (.agg #[(.float .f64 4607182418800017408), (.float .f64 0), (.float .f64 0)])) (Ex.indexA rfl rfl Try.underlying93 T.sz92 T.ag92 (by decide) (by decide) (vs := [(.float .f64 4607182418800017408), (.float .f64 0), (.float .f64 0)]) rfl) (by decide) ?_
 refine GL.step (Stp.alloc T.zr92 (by decide)) (fun bq35 _ => ?_)
 refine GL.sg rfl (by decide) ?_
 refine GL.step (Stp.st0 (cs' := [(.float .f64 4607182418800017408), (.float .f64 0), (.float .f64 0)]) rfl rfl rfl T.sz92 rfl rfl rfl) (fun _ _ => ?_)
 refine GL.nil (GE.thenN (GC.seq ?_))
 refine GC.drawP [⟨bq35, [(.float .f64 4607182418800017408), (.float .f64 0), (.float .f64 0)], 92, true⟩, ⟨bq19, [(.float .f64 0), (.float .f64 4607182418800017408), (.float .f64 0)], 92, true⟩, ⟨bq1, [(.int .u32 1082130432), (.int .u32 1073741824), (.int .u32 0)], 94, true⟩, ⟨c0, [(.float .f64 0), (.float .f64 0), (.float .f64 4607182418800017408), (.float .f64 0), (.float .f64 4607182418800017408), (.float .f64 0), (.float .f64 4607182418800017408), (.float .f64 0), (.float .f64 0)], 93, false⟩] T.mixed (by kernel_rfl) (by kernel_rfl) (fuel := 5) rfl rfl ?_
 refine GH.tk 0 (v := (.pointer (some ⟨bq35, 0, none⟩))) rfl (by kernel_rfl) (fun _ _ _ h => h) (Ex.cast (Ex.indexArr (m := 3) rfl rfl Try.underlying92 T.sz44 (by decide) (by decide)) rfl) (ulC (ulC (ulC (ulC ulN)))) (by decide) ?_
 refine GH.tk 1 (v := (.float .f64 4607182418800017408)) rfl (by kernel_rfl) (fun _ _ _ h => h) (Ex.load rfl T.ag44 (i := 0) rfl rfl) (ulC (ulC (ulC (ulC ulN)))) (by decide) ?_
 refine GH.tk 2 (v := (.int .u32 1065353216)) rfl (by kernel_rfl) (fun _ _ _ h => h) (Ex.move rfl) (ulC (ulC (ulC (ulC ulN)))) (by decide) ?_
 refine GH.one 3 rfl (by kernel_rfl) (Stp.callR (vs := [(.int .u32 1065353216)]) rfl rfl T.own48 (by decide) (fun wc hw => q48_2  wc )) (fun _ => (ulC (ulC (ulC (ulC ulN))))) (fun xq38 hq39 => ?_)
 refine GH.tk 4 (v := (.float .f64 4607182418800017408)) rfl (by kernel_rfl) (fun _ _ _ h => h) (Ex.farith (r := 4607182418800017408) rfl rfl (by kernel_rfl)) (ulC (ulC (ulC (ulC ulN)))) (by decide) ?_
 refine GH.done (by kernel_rfl) ?_
 refine GE.thenN ?_
 refine GE.tail rfl (Ex.wp (v := (.float .f64 4607182418800017408)) (Ex.assign rfl) (by decide)) (fun _ _ => ?_)
 refine GE.thenN (GC.seq ?_)
 refine GC.drawP [⟨bq35, [(.float .f64 4607182418800017408), (.float .f64 0), (.float .f64 0)], 92, true⟩, ⟨bq19, [(.float .f64 0), (.float .f64 4607182418800017408), (.float .f64 0)], 92, true⟩, ⟨bq1, [(.int .u32 1082130432), (.int .u32 1073741824), (.int .u32 0)], 94, true⟩, ⟨c0, [(.float .f64 0), (.float .f64 0), (.float .f64 4607182418800017408), (.float .f64 0), (.float .f64 4607182418800017408), (.float .f64 0), (.float .f64 4607182418800017408), (.float .f64 0), (.float .f64 0)], 93, false⟩] T.mixed (by kernel_rfl) (by kernel_rfl) (fuel := 7) rfl rfl ?_
 refine GH.tk 0 (v := (.float .f64 4607182418800017408)) rfl (by kernel_rfl) (fun _ _ _ h => h) (Ex.move rfl) (ulC (ulC (ulC (ulC ulN)))) (by decide) ?_
 refine GH.tk 1 (v := (.pointer (some ⟨bq35, 1, none⟩))) rfl (by kernel_rfl) (fun _ _ _ h => h) (Ex.cast (Ex.indexArr (m := 3) rfl rfl Try.underlying92 T.sz44 (by decide) (by decide)) rfl) (ulC (ulC (ulC (ulC ulN)))) (by decide) ?_
 refine GH.tk 2 (v := (.float .f64 0)) rfl (by kernel_rfl) (fun _ _ _ h => h) (Ex.load rfl T.ag44 (i := 0) rfl rfl) (ulC (ulC (ulC (ulC ulN)))) (by decide) ?_
 refine GH.tk 3 (v := (.int .u32 1073741824)) rfl (by kernel_rfl) (fun _ _ _ h => h) (Ex.move rfl) (ulC (ulC (ulC (ulC ulN)))) (by decide) ?_
 refine GH.one 4 rfl (by kernel_rfl) (Stp.callR (vs := [(.int .u32 1073741824)]) rfl rfl T.own48 (by decide) (fun wc hw => q48_46  wc )) (fun _ => (ulC (ulC (ulC (ulC ulN))))) (fun xq42 hq43 => ?_)
 refine GH.tk 5 (v := (.float .f64 0)) rfl (by kernel_rfl) (fun _ _ _ h => h) (Ex.farith (r := 0) rfl rfl (by kernel_rfl)) (ulC (ulC (ulC (ulC ulN)))) (by decide) ?_
 refine GH.tk 6 (v := (.float .f64 4607182418800017408)) rfl (by kernel_rfl) (fun _ _ _ h => h) (Ex.farith (r := 4607182418800017408) rfl rfl (by kernel_rfl)) (ulC (ulC (ulC (ulC ulN)))) (by decide) ?_
 refine GH.done (by kernel_rfl) ?_
 refine GE.thenN ?_
 refine GE.tail rfl (Ex.wp (v := (.float .f64 4607182418800017408)) (Ex.assign rfl) (by decide)) (fun _ _ => ?_)
 refine GE.thenN (GC.seq ?_)
 refine GC.drawP [⟨bq35, [(.float .f64 4607182418800017408), (.float .f64 0), (.float .f64 0)], 92, true⟩, ⟨bq19, [(.float .f64 0), (.float .f64 4607182418800017408), (.float .f64 0)], 92, true⟩, ⟨bq1, [(.int .u32 1082130432), (.int .u32 1073741824), (.int .u32 0)], 94, true⟩, ⟨c0, [(.float .f64 0), (.float .f64 0), (.float .f64 4607182418800017408), (.float .f64 0), (.float .f64 4607182418800017408), (.float .f64 0), (.float .f64 4607182418800017408), (.float .f64 0), (.float .f64 0)], 93, false⟩] T.mixed (by kernel_rfl) (by kernel_rfl) (fuel := 7) rfl rfl ?_
 refine GH.tk 0 (v := (.float .f64 4607182418800017408)) rfl (by kernel_rfl) (fun _ _ _ h => h) (Ex.move rfl) (ulC (ulC (ulC (ulC ulN)))) (by decide) ?_
 refine GH.tk 1 (v := (.pointer (some ⟨bq35, 2, none⟩))) rfl (by kernel_rfl) (fun _ _ _ h => h) (Ex.cast (Ex.indexArr (m := 3) rfl rfl Try.underlying92 T.sz44 (by decide) (by decide)) rfl) (ulC (ulC (ulC (ulC ulN)))) (by decide) ?_
 refine GH.tk 2 (v := (.float .f64 0)) rfl (by kernel_rfl) (fun _ _ _ h => h) (Ex.load rfl T.ag44 (i := 0) rfl rfl) (ulC (ulC (ulC (ulC ulN)))) (by decide) ?_
 refine GH.tk 3 (v := (.int .u32 1082130432)) rfl (by kernel_rfl) (fun _ _ _ h => h) (Ex.move rfl) (ulC (ulC (ulC (ulC ulN)))) (by decide) ?_
 refine GH.one 4 rfl (by kernel_rfl) (Stp.callR (vs := [(.int .u32 1082130432)]) rfl rfl T.own48 (by decide) (fun wc hw => q48_47  wc )) (fun _ => (ulC (ulC (ulC (ulC ulN))))) (fun xq46 hq47 => ?_)
 refine GH.tk 5 (v := (.float .f64 0)) rfl (by kernel_rfl) (fun _ _ _ h => h) (Ex.farith (r := 0) rfl rfl (by kernel_rfl)) (ulC (ulC (ulC (ulC ulN)))) (by decide) ?_
 refine GH.tk 6 (v := (.float .f64 4607182418800017408)) rfl (by kernel_rfl) (fun _ _ _ h => h) (Ex.farith (r := 4607182418800017408) rfl rfl (by kernel_rfl)) (ulC (ulC (ulC (ulC ulN)))) (by decide) ?_
 refine GH.done (by kernel_rfl) ?_
 refine GE.thenN ?_
 refine GE.tail rfl (Ex.wp (v := (.float .f64 4607182418800017408)) (Ex.assign rfl) (by decide)) (fun _ _ => ?_)
 refine GE.thenN (GC.region ?_)
 refine GL.mv rfl (by decide) ?_
 refine GL.mv rfl (by decide) ?_
 refine GL.step (Stp.callR (vs := [(.float .f64 4607182418800017408)]) rfl rfl T.own50 (by decide) (fun wc hw => q50_58  wc )) (fun xq48 hq49 => ?_)
 refine GL.val (v := (.pointer (some ⟨bq1, 2, none⟩))) (Ex.cast (Ex.indexArr (m := 3) rfl rfl Try.underlying94 T.sz28 (by decide) (by decide)) rfl) (by decide) ?_
 refine GL.step (Stp.st2 (cs' := [(.int .u32 1082130432), (.int .u32 1073741824), (.int .u32 1065353216)]) rfl rfl rfl T.sz28 rfl rfl rfl) (fun _ _ => ?_)
 refine GL.nil (GE.blockN (GE.thenN (GC.region ?_)))
 refine GL.val (v := (.int .i64 3)) (Ex.add rfl rfl (Z := 3) (by decide)) (by decide) ?_
 refine GL.mv rfl (by decide) ?_
 refine GL.nil (GE.thenN (GE.round ?_))
 refine GC.pick (idx := [0, 2, 3]) (by decide) rfl ?_
 refine GC.seq (GC.region ?_)
 refine GL.val (v := (.bool false)) (Ex.cast (Ex.lss rfl rfl) rfl) (by decide) ?_
 refine GL.nil (GE.thenN (GC.seq ?_))
 refine GC.cond rfl (fun hq50 => by cases hq50) (fun _ => ?_)
 refine GC.exit (GE.thenE (GE.thenE (GE.blockE (GE.thenN (GC.seq ?_)))))
 refine GC.drawP [⟨bq35, [(.float .f64 4607182418800017408), (.float .f64 0), (.float .f64 0)], 92, true⟩, ⟨bq1, [(.int .u32 1082130432), (.int .u32 1073741824), (.int .u32 1065353216)], 94, true⟩, ⟨c0, [(.float .f64 0), (.float .f64 0), (.float .f64 4607182418800017408), (.float .f64 0), (.float .f64 4607182418800017408), (.float .f64 0), (.float .f64 4607182418800017408), (.float .f64 0), (.float .f64 0)], 93, false⟩] T.mixed (by kernel_rfl) (by kernel_rfl) (fuel := 8) rfl rfl ?_
 refine GH.tk 0 (v := (.pointer (some ⟨bq1, 0, none⟩))) rfl (by kernel_rfl) (fun _ _ _ h => h) (Ex.cast (Ex.indexArr (m := 3) rfl rfl Try.underlying94 T.sz28 (by decide) (by decide)) rfl) (ulC (ulC (ulC ulN))) (by decide) ?_
 refine GH.tk 1 (v := (.int .u32 1082130432)) rfl (by kernel_rfl) (fun _ _ _ h => h) (Ex.load rfl T.ag28 (i := 1) rfl rfl) (ulC (ulC (ulC ulN))) (by decide) ?_
 refine GH.tk 2 (v := (.pointer (some ⟨bq1, 1, none⟩))) rfl (by kernel_rfl) (fun _ _ _ h => h) (Ex.cast (Ex.indexArr (m := 3) rfl rfl Try.underlying94 T.sz28 (by decide) (by decide)) rfl) (ulC (ulC (ulC ulN))) (by decide) ?_
 refine GH.tk 3 (v := (.int .u32 1073741824)) rfl (by kernel_rfl) (fun _ _ _ h => h) (Ex.load rfl T.ag28 (i := 1) rfl rfl) (ulC (ulC (ulC ulN))) (by decide) ?_
 refine GH.tk 4 (v := (.pointer (some ⟨bq1, 2, none⟩))) rfl (by kernel_rfl) (fun _ _ _ h => h) (Ex.cast (Ex.indexArr (m := 3) rfl rfl Try.underlying94 T.sz28 (by decide) (by decide)) rfl) (ulC (ulC (ulC ulN))) (by decide) ?_
 refine GH.tk 5 (v := (.int .u32 1065353216)) rfl (by kernel_rfl) (fun _ _ _ h => h) (Ex.load rfl T.ag28 (i := 1) rfl rfl) (ulC (ulC (ulC ulN))) (by decide) ?_
 refine GH.tk 6 (v := (.int .u32 1082130432)) rfl (by kernel_rfl) (fun _ _ _ h => h) (Ex.assign rfl) (ulC (ulC (ulC ulN))) (by decide) ?_
 refine GH.tk 7 (v := (.int .u32 1073741824)) rfl (by kernel_rfl) (fun _ _ _ h => h) (Ex.assign rfl) (ulC (ulC (ulC ulN))) (by decide) ?_
 refine GH.done (by kernel_rfl) ?_
 refine GE.thenN ?_
 refine GE.tail rfl (Ex.wp (v := (.int .u32 1065353216)) (Ex.assign rfl) (by decide)) (fun _ _ => ?_)
 refine GE.thenN (GC.ret ?_)
 refine GC.ret3 rfl (Rv.tmp rfl) (Rv.tmp rfl) (Rv.tmp rfl) (fun wN HN => ?_)
 exact HN.ret () trivial rfl (ulS (ulS (ulS ulN))) rfl

theorem kn_new81 (w : World) : Calls Try.prog 17 #[(.int .i64 1), (.int .i64 2), (.int .i64 1), (.int .i64 1), (.int .u32 0)] w (Ret w (fun r : Ac => r.Ok ∧ (∀ q ∈ r.qs, q.Ok) ∧ r.ds = newD 1 2 1 1 0) (fun r => (.tuple #[(.agg #[(.int .i64 ((picS 81 1))), (.slice r.ad r.n r.cp)]), (.int .i64 81)])) (fun r => r.blks 43 28)) := by
 have h := newp_u 1 2 1 1 0 w
 rw [show newE 1 2 1 1 = 81 from by decide] at h
 exact h

theorem kn_new80 (w : World) : Calls Try.prog 17 #[(.int .i64 0), (.int .i64 5), (.int .i64 1), (.int .i64 1), (.int .u32 0)] w (Ret w (fun r : Ac => r.Ok ∧ (∀ q ∈ r.qs, q.Ok) ∧ r.ds = newD 0 5 1 1 0) (fun r => (.tuple #[(.agg #[(.int .i64 ((picS 80 0))), (.slice r.ad r.n r.cp)]), (.int .i64 80)])) (fun r => r.blks 43 28)) := by
 have h := newp_u 0 5 1 1 0 w
 rw [show newE 0 5 1 1 = 80 from by decide] at h
 exact h

end Go.Proofs.Ytiikkhbmhojbaaa.C
