/- PictureMaps: what its code does, walked. -/
import Derived.Test.YtiikkhbmhojbaaaGreatKMaps1
namespace Go.Proofs.YtiikkhbmhojbaaaGreat.C
open Go Go.RowKit Sx
set_option linter.unusedVariables false
set_option maxRecDepth 100000
set_option maxHeartbeats 1000000
theorem room_s1 (w0 : World) (R : List Blk) (rb n cap : Nat) (ad : Option Addr) (xs : List Int) (n1 b1 c1 b2 c2 : Nat) (xs1 sp1 xs2 sp2 : List Value) (w : World) (hs : Lst w0 ad n xs) (hb : n ≤ 35184372087808) (hn1 : n1 ≤ 4000000000000) (hx1 : xs1.length = n1) (hx2 : xs2.length = n1) (hc1 : (xs1 ++ sp1).length = c1 * 1) (hc2 : (xs2 ++ sp2).length = c2 * 1) (hp0 : Hp None w0 (⟨rb, [(.slice (some ⟨b1, 0, none⟩) n1 c1), (.slice (some ⟨b2, 0, none⟩) n1 c2), (.slice none 0 0), (.slice none 0 0), (.slice none 0 0), (.slice none 0 0), (.slice none 0 0), (.slice none 0 0)], 39, true⟩ :: ⟨b1, xs1 ++ sp1, 53, true⟩ :: ⟨b2, xs2 ++ sp2, 53, true⟩ :: R) w) :
  Calls Tryz.prog 120 #[(.pointer (some ⟨rb, 0, none⟩)), (.slice ad n cap)] w (Frm (σ := (Nat × Nat × List Value) × (Nat × Nat × List Value) × (Nat × Nat × List Value) × Nat) None w0 (fun x => (xs1 ++ [(Value.slice (some ⟨x.2.2.2, 0, none⟩) (n + 5) (n + 5))] ++ x.2.2.1.2.2 : List Value).length = x.2.2.1.2.1 * 1 ∧ (xs2 ++ [(Value.slice (some ⟨x.2.1.1, 0, none⟩) (n + 5) x.2.1.2.1)] ++ x.1.2.2 : List Value).length = x.1.2.1 * 1) (fun x => (.slice (some ⟨x.2.2.2, 0, none⟩) n (n + 5))) (fun x => (⟨x.1.1, xs2 ++ [(Value.slice (some ⟨x.2.1.1, 0, none⟩) (n + 5) x.2.1.2.1)] ++ x.1.2.2, 53, true⟩ :: ⟨x.2.1.1, (roomL xs).map u32 ++ x.2.1.2.2, 52, true⟩ :: ⟨x.2.2.1.1, xs1 ++ [(Value.slice (some ⟨x.2.2.2, 0, none⟩) (n + 5) (n + 5))] ++ x.2.2.1.2.2, 53, true⟩ :: ⟨x.2.2.2, (roomL xs).map u32, 52, true⟩ :: ⟨rb, [(.slice (some ⟨x.2.2.1.1, 0, none⟩) (n1 + 1) x.2.2.1.2.1), (.slice (some ⟨x.1.1, 0, none⟩) (n1 + 1) x.1.2.1), (.slice none 0 0), (.slice none 0 0), (.slice none 0 0), (.slice none 0 0), (.slice none 0 0), (.slice none 0 0)], 39, true⟩ :: R))) := by
 have hsl := hs.1
 refine enterF (w0 := w0) (M := None) (L := (⟨rb, [(.slice (some ⟨b1, 0, none⟩) n1 c1), (.slice (some ⟨b2, 0, none⟩) n1 c2), nilS, nilS, nilS, nilS, nilS, nilS], 39, true⟩ :: ⟨b1, xs1 ++ sp1, 53, true⟩ :: ⟨b2, xs2 ++ sp2, 53, true⟩ :: R)) (n := 53) (l := [(0, (.pointer (some ⟨rb, 0, none⟩))), (1, (.slice ad n cap))]) Tryz.func120 rfl rfl (Args.cons rfl (Args.cons rfl (Args.nil _))) hp0 ?_
 refine GC.seq (GC.region ?_)
 refine GL.sg rfl (by decide) ?_
 refine GL.nil (GE.thenN (GC.seq (GC.region ?_)))
 refine GL.mv rfl (by decide) ?_
 refine GL.val (v := (.int .i64 ((n : Int)))) (Ex.len rfl Tryz.underlying53) (by decide) ?_
 refine GL.val (v := (.int .i64 (((n + 5 : Nat) : Int)))) (Ex.add rfl rfl (Z := ((n + 5 : Nat) : Int)) (by rw [w64 (by omega)]; rfl)) (by decide) ?_
 refine GL.step (Stp.makeSlice (a1 := n + 5) (c := n + 5) rfl rfl Tryz.underlying53 T.zr52 T.sz52 T.by52 rfl (Nat.le_refl _) (by omega) (by omega) (by decide)) (fun bq1 _ => ?_)
 rw [madeCells_one]
 refine GL.sg rfl (by decide) ?_
 refine GL.nil (GE.thenN (GC.seq (GC.region ?_)))
 refine GL.mv rfl (by decide) ?_
 refine GL.mv rfl (by decide) ?_
 refine GL.step (Stp.copyO (i := 0) (vs := xs.map u32) (L1 := (⟨bq1, roomC xs 0, 52, true⟩ :: ⟨rb, [(.slice (some ⟨b1, 0, none⟩) n1 c1), (.slice (some ⟨b2, 0, none⟩) n1 c2), nilS, nilS, nilS, nilS, nilS, nilS], 39, true⟩ :: ⟨b1, xs1 ++ sp1, 53, true⟩ :: ⟨b2, xs2 ++ sp2, 53, true⟩ :: R)) rfl rfl Tryz.underlying53 T.sz52 rfl (hs.2.2.2.imp id (fun ⟨b', o', e, hr⟩ => ⟨b', o', e, fun wz hz => hz.rd hr (fun x => x)⟩)) (by simpa using hs.1) (by omega) (by simp) (u32_one xs) (by rw [roomC_zero xs hs.1]; rfl) (by decide)) (fun _ _ => ?_)
 refine GL.nil (GE.thenN (GC.seq (GC.seq (GC.region ?_))))
 refine GL.mv rfl (by decide) ?_
 refine GL.val (v := (.int .i64 ((n : Int)))) (Ex.len rfl Tryz.underlying53) (by decide) ?_
 refine GL.sg rfl (by decide) ?_
 refine GL.nil (GE.thenN (GC.block ?_))
 refine GC.loop (σ := Nat) (fun k => k ≤ 5) (fun k => [(0, (.pointer (some ⟨rb, 0, none⟩))), (1, (.slice ad n cap)), (5, (.slice (some ⟨bq1, 0, none⟩) (n + 5) (n + 5))), (6, (.int .i64 (((n + k : Nat) : Int))))]) (fun k => (⟨bq1, roomC xs k, 52, true⟩ :: ⟨rb, [(.slice (some ⟨b1, 0, none⟩) n1 c1), (.slice (some ⟨b2, 0, none⟩) n1 c2), nilS, nilS, nilS, nilS, nilS, nilS], 39, true⟩ :: ⟨b1, xs1 ++ sp1, 53, true⟩ :: ⟨b2, xs2 ++ sp2, 53, true⟩ :: R)) (fun k => 5 - k) (0) (by decide) ((sub_cons rfl ((sub_cons rfl ((sub_cons rfl ((sub_cons rfl ((sub_nil _)))))))))) (ulC (ulC (ulC (ulC ulR)))) (fun k hp => ?_)
 refine GC.seq (GC.seq (GC.region ?_))
 refine GL.mv rfl (by decide) ?_
 refine GL.mv rfl (by decide) ?_
 refine GL.val (v := (.int .i64 (((n + 5) : Int)))) (Ex.len rfl Tryz.underlying53) (by decide) ?_
 refine GL.val (v := (.bool (decide ((((n + k : Nat) : Int)) < (((n + 5) : Int)))))) (Ex.lss rfl rfl) (by decide) ?_
 refine GL.nil (GE.thenN ?_)
 refine GC.cond rfl (fun hq2 => ?_) (fun hq2 => ?_)
 ·replace hq2 := of_decide_eq_true hq2
  refine GC.skip (GE.thenN (GC.seq (GC.block (GC.region ?_))))
  refine GL.mv rfl (by decide) ?_
  refine GL.mv rfl (by decide) ?_
  refine GL.mv rfl (by decide) ?_
  refine GL.val (v := (.int .i64 (2141192202 + (((n + k : Nat) : Int))))) (Ex.add rfl rfl (Z := 2141192202 + (((n + k : Nat) : Int))) (w64 (by omega))) (by decide) ?_
  refine GL.val (v := (.int .u32 (fil (n + k)))) (Ex.conv rfl Tryz.underlying3 Tryz.underlying52 (Z := fil (n + k)) (by rw [wu32]; rfl)) (by decide) ?_
  refine GL.val (v := (.pointer (some ⟨bq1, n + k, none⟩))) (Ex.cast (Ex.indexAddr rfl rfl Tryz.underlying53 T.sz52 (by omega) (by omega)) (by simp)) (by decide) ?_
  refine GL.step (Stp.storeL (i := 0) (cs := roomC xs k) (vs := [.int .u32 (fil (n + k))]) (o := n + k) (L1 := (⟨bq1, roomC xs (k + 1), 52, true⟩ :: ⟨rb, [(.slice (some ⟨b1, 0, none⟩) n1 c1), (.slice (some ⟨b2, 0, none⟩) n1 c2), nilS, nilS, nilS, nilS, nilS, nilS], 39, true⟩ :: ⟨b1, xs1 ++ sp1, 53, true⟩ :: ⟨b2, xs2 ++ sp2, 53, true⟩ :: R)) rfl rfl rfl T.sz52 rfl (Nat.ble_eq_true_of_le (by rw [roomC_len (by omega)]; simp; omega)) rfl (by rw [roomC_store hs.1 (by omega)]; rfl)) (fun _ _ => ?_)
  refine GL.nil (GE.blockN (GE.thenN (GC.region ?_)))
  refine GL.mv rfl (by decide) ?_
  refine GL.val (v := (.int .i64 (((n + (k + 1) : Nat) : Int)))) (Ex.add rfl rfl (Z := ((n + (k + 1) : Nat) : Int)) (by rw [w64 (by omega)]; simp only [Int.natCast_add]; omega)) (by decide) ?_
  refine GL.sg rfl (by decide) ?_
  refine GL.nil (GE.thenN ?_)
  exact Head.mk (k + 1) (by omega) (by omega) ((sub_cons rfl ((sub_cons rfl ((sub_cons rfl ((sub_cons rfl ((sub_nil _)))))))))) (ulC (ulC (ulC (ulC ulR))))
 ·replace hq2 := of_decide_eq_false hq2
  refine GC.exit (GE.thenE (GE.thenE (GE.blockE (GE.thenN (GC.seq ?_)))))
  obtain rfl : k = 5 := by omega
  rw [roomC_full]
  refine GC.region ?_
  refine GL.mv rfl (by decide) ?_
  refine GL.mv rfl (by decide) ?_
  refine GL.val (v := (.pointer (some ⟨rb, 0, none⟩))) (Ex.nilCheck rfl) (by decide) ?_
  refine GL.val (v := (.pointer (some ⟨rb, 0, none⟩))) (Ex.cast (Ex.fieldAddr rfl Tryz.underlying39 rfl T.sz29 (by decide)) rfl) (by decide) ?_
  refine GL.val (Ex.load rfl T.ag29 (i := 1) rfl rfl) (by decide) ?_
  refine GL.mv rfl (by decide) ?_
  refine GL.step (Stp.buildSlice (cs := [(.slice (some ⟨bq1, 0, none⟩) (n + 5) (n + 5))]) (vs := [(0, (.slice (some ⟨bq1, 0, none⟩) (n + 5) (n + 5)))]) Tryz.underlying29 T.zr53 T.sz53 rfl (by decide) (by decide) (by first | rfl | kernel_rfl) (by decide)) (fun bq3 _ => ?_)
  refine GL.step (Stp.appendOwn (i := 3) (xs := xs1) (sp := sp1) (vs := [(.slice (some ⟨bq1, 0, none⟩) (n + 5) (n + 5))]) (L1 := (⟨bq3, [(.slice (some ⟨bq1, 0, none⟩) (n + 5) (n + 5))], 53, true⟩ :: ⟨bq1, (roomL xs).map u32, 52, true⟩ :: ⟨rb, [(.slice (some ⟨b1, 0, none⟩) n1 c1), (.slice (some ⟨b2, 0, none⟩) n1 c2), nilS, nilS, nilS, nilS, nilS, nilS], 39, true⟩ :: ⟨b2, xs2 ++ sp2, 53, true⟩ :: R)) rfl rfl Tryz.underlying29 T.sz53 T.zr53 rfl T.by53 rfl (by omega) hc1 (fun wz hz => hz.rdOf (i := 0) rfl 0) rfl rfl (by omega) (by omega) rfl (by decide)) (fun xq4 hq5 => ?_)
  refine GL.val (v := (.pointer (some ⟨rb, 0, none⟩))) (Ex.nilCheck rfl) (by decide) ?_
  refine GL.val (v := (.pointer (some ⟨rb, 0, none⟩))) (Ex.cast (Ex.fieldAddr rfl Tryz.underlying39 rfl T.sz29 (by decide)) rfl) (by decide) ?_
  refine GL.step (Stp.st3 (cs' := [(.slice (some ⟨xq4.1, 0, none⟩) (n1 + 1) xq4.2.1), (.slice (some ⟨b2, 0, none⟩) n1 c2), nilS, nilS, nilS, nilS, nilS, nilS]) rfl rfl rfl T.sz29 rfl rfl rfl) (fun _ _ => ?_)
  refine GL.nil (GE.thenN (GC.seq ?_))
  refine GC.draw (⟨xq4.1, xs1 ++ [(.slice (some ⟨bq1, 0, none⟩) (n + 5) (n + 5))] ++ xq4.2.2, 53, true⟩ :: ⟨bq3, [(.slice (some ⟨bq1, 0, none⟩) (n + 5) (n + 5))], 53, true⟩ :: ⟨bq1, (roomL xs).map u32, 52, true⟩ :: R) T.mixed (fuel := 12) rfl rfl ?_
  refine GH.tk 0 (v := (.pointer (some ⟨rb, 0, none⟩))) rfl (by kernel_rfl) (fun _ _ _ h => h) (Ex.move rfl) (ulC (ulC (ulC (ulS (ulS ulR))))) (by decide) ?_
  refine GH.tk 1 (v := (.pointer (some ⟨rb, 0, none⟩))) rfl (by kernel_rfl) (fun _ _ _ h => h) (Ex.move rfl) (ulC (ulC (ulC (ulS (ulS ulR))))) (by decide) ?_
  refine GH.tk 5 (v := (.slice (some ⟨bq1, 0, none⟩) (n + 5) (n + 5))) rfl (by kernel_rfl) (fun _ _ _ h => h) (Ex.move rfl) (ulC (ulC (ulC (ulS (ulS ulR))))) (by decide) ?_
  refine GH.many (rs := [2, 6]) (by kernel_rfl) (by simp) ?_
  refine GHs.cons rfl (Ex.wp (v := (.pointer (some ⟨rb, 0, none⟩))) (Ex.nilCheck rfl) (by decide)) (fun _ => (ulC (ulC (ulC (ulS (ulS ulR)))))) (fun _ _ => ?_) ?_
  ·refine GH.tk 3 (v := (.pointer (some ⟨rb, 1, none⟩))) rfl (by kernel_rfl) (fun _ _ _ h => h) (Ex.cast (Ex.fieldAddr rfl Tryz.underlying39 rfl T.sz29 (by decide)) rfl) (ulC (ulC (ulC (ulS (ulS ulR))))) (by decide) ?_
   refine GH.many (rs := [4, 6]) (by kernel_rfl) (by simp) ?_
   refine GHs.cons rfl (Ex.wp (v := (.slice (some ⟨b2, 0, none⟩) n1 c2)) (Ex.load rfl T.ag29 (i := 3) rfl rfl) (by decide)) (fun _ => (ulC (ulC (ulC (ulS (ulS ulR)))))) (fun _ _ => ?_) ?_
   ·refine GH.one 6 rfl (by kernel_rfl) (Stp.appendNil (vs := (roomL xs).map u32) rfl rfl Tryz.underlying53 T.sz52 T.zr52 rfl T.by52 (fun wz hz => hz.rdOf (i := 2) rfl 0) (by simp [roomL_len, hs.1]) (by omega) (by omega) (by omega) (by decide)) (fun _ => (ulS (ulC (ulC (ulC (ulS (ulS ulR))))))) (fun xq6 hq7 => ?_)
    refine GH.one 7 rfl (by kernel_rfl) (Stp.buildSlice (cs := [(.slice (some ⟨xq6.1, 0, none⟩) (n + 5) xq6.2.1)]) (vs := [(0, (.slice (some ⟨xq6.1, 0, none⟩) (n + 5) xq6.2.1))]) Tryz.underlying29 T.zr53 T.sz53 rfl (by decide) (by decide) (by first | rfl | kernel_rfl) (by decide)) (fun _ => (ulS (ulS (ulC (ulC (ulC (ulS (ulS ulR)))))))) (fun bq8 _ => ?_)
    refine GH.one 8 rfl (by kernel_rfl) (Stp.appendOwn (i := 6) (xs := xs2) (sp := sp2) (vs := [(.slice (some ⟨xq6.1, 0, none⟩) (n + 5) xq6.2.1)]) (L1 := (⟨bq8, [(.slice (some ⟨xq6.1, 0, none⟩) (n + 5) xq6.2.1)], 53, true⟩ :: ⟨xq6.1, (roomL xs).map u32 ++ xq6.2.2, 52, true⟩ :: ⟨xq4.1, xs1 ++ [(.slice (some ⟨bq1, 0, none⟩) (n + 5) (n + 5))] ++ xq4.2.2, 53, true⟩ :: ⟨bq3, [(.slice (some ⟨bq1, 0, none⟩) (n + 5) (n + 5))], 53, true⟩ :: ⟨bq1, (roomL xs).map u32, 52, true⟩ :: ⟨rb, [(.slice (some ⟨xq4.1, 0, none⟩) (n1 + 1) xq4.2.1), (.slice (some ⟨b2, 0, none⟩) n1 c2), nilS, nilS, nilS, nilS, nilS, nilS], 39, true⟩ :: R)) rfl rfl Tryz.underlying29 T.sz53 T.zr53 rfl T.by53 rfl (by omega) hc2 (fun wz hz => hz.rdOf (i := 0) rfl 0) rfl rfl (by omega) (by omega) rfl (by decide)) (fun _ => (ulS (ulS (ulS (ulC (ulC (ulC (ulS ulR)))))))) (fun xq9 hq10 => ?_)
    refine GH.one 9 rfl (by kernel_rfl) (Ex.wp (v := (.pointer (some ⟨rb, 0, none⟩))) (Ex.nilCheck rfl) (by decide)) (fun _ => (ulS (ulS (ulS (ulC (ulC (ulC (ulS ulR)))))))) (fun _ _ => ?_)
    refine GH.tk 10 (v := (.pointer (some ⟨rb, 1, none⟩))) rfl (by kernel_rfl) (fun _ _ _ h => h) (Ex.cast (Ex.fieldAddr rfl Tryz.underlying39 rfl T.sz29 (by decide)) rfl) (ulS (ulS (ulS (ulC (ulC (ulC (ulS ulR))))))) (by decide) ?_
    refine GH.one 11 rfl (by kernel_rfl) (Stp.st6 (cs' := [(.slice (some ⟨xq4.1, 0, none⟩) (n1 + 1) xq4.2.1), (.slice (some ⟨xq9.1, 0, none⟩) (n1 + 1) xq9.2.1), nilS, nilS, nilS, nilS, nilS, nilS]) rfl rfl rfl T.sz29 rfl rfl rfl) (fun _ => (ulS (ulS (ulS (ulC (ulC (ulC (ulS ulR)))))))) (fun _ _ => ?_)
    refine GH.done (by kernel_rfl) ?_
    refine GE.thenN (GC.seq (GC.region ?_))
    refine GL.mv rfl (by decide) ?_
    refine GL.mv rfl (by decide) ?_
    refine GL.val (v := (.int .i64 ((n : Int)))) (Ex.len rfl Tryz.underlying53) (by decide) ?_
    refine GL.val (v := (.slice (some ⟨bq1, 0, none⟩) n (n + 5))) (Ex.sliceH (m := n) rfl rfl Tryz.underlying53 T.sz52 rfl (by omega)) (by decide) ?_
    refine GL.sg rfl (by decide) ?_
    refine GL.nil (GE.thenN (GC.ret ?_))
    refine GC.ret1 rfl (Rv.tmp rfl) (fun wN HN => ?_)
    exact HN.frm (xq9, xq6, xq4, bq1) ⟨hq5.1, hq10.1⟩ (by rfl) (ulC (ulS (ulC (ulC (ulS (ulC (ulC ulR)))))))
   refine GHs.cons rfl (Stp.appendNil (vs := (roomL xs).map u32) rfl rfl Tryz.underlying53 T.sz52 T.zr52 rfl T.by52 (fun wz hz => hz.rdOf (i := 2) rfl 0) (by simp [roomL_len, hs.1]) (by omega) (by omega) (by omega) (by decide)) (fun _ => (ulS (ulC (ulC (ulC (ulS (ulS ulR))))))) (fun xq11 hq12 => ?_) ?_
   ·refine GH.many (rs := [4, 7]) (by kernel_rfl) (by simp) ?_
    refine GHs.cons rfl (Ex.wp (v := (.slice (some ⟨b2, 0, none⟩) n1 c2)) (Ex.load rfl T.ag29 (i := 4) rfl rfl) (by decide)) (fun _ => (ulS (ulC (ulC (ulC (ulS (ulS ulR))))))) (fun _ _ => ?_) ?_
    ·refine GH.one 7 rfl (by kernel_rfl) (Stp.buildSlice (cs := [(.slice (some ⟨xq11.1, 0, none⟩) (n + 5) xq11.2.1)]) (vs := [(0, (.slice (some ⟨xq11.1, 0, none⟩) (n + 5) xq11.2.1))]) Tryz.underlying29 T.zr53 T.sz53 rfl (by decide) (by decide) (by first | rfl | kernel_rfl) (by decide)) (fun _ => (ulS (ulS (ulC (ulC (ulC (ulS (ulS ulR)))))))) (fun bq13 _ => ?_)
     refine GH.one 8 rfl (by kernel_rfl) (Stp.appendOwn (i := 6) (xs := xs2) (sp := sp2) (vs := [(.slice (some ⟨xq11.1, 0, none⟩) (n + 5) xq11.2.1)]) (L1 := (⟨bq13, [(.slice (some ⟨xq11.1, 0, none⟩) (n + 5) xq11.2.1)], 53, true⟩ :: ⟨xq11.1, (roomL xs).map u32 ++ xq11.2.2, 52, true⟩ :: ⟨xq4.1, xs1 ++ [(.slice (some ⟨bq1, 0, none⟩) (n + 5) (n + 5))] ++ xq4.2.2, 53, true⟩ :: ⟨bq3, [(.slice (some ⟨bq1, 0, none⟩) (n + 5) (n + 5))], 53, true⟩ :: ⟨bq1, (roomL xs).map u32, 52, true⟩ :: ⟨rb, [(.slice (some ⟨xq4.1, 0, none⟩) (n1 + 1) xq4.2.1), (.slice (some ⟨b2, 0, none⟩) n1 c2), nilS, nilS, nilS, nilS, nilS, nilS], 39, true⟩ :: R)) rfl rfl Tryz.underlying29 T.sz53 T.zr53 rfl T.by53 rfl (by omega) hc2 (fun wz hz => hz.rdOf (i := 0) rfl 0) rfl rfl (by omega) (by omega) rfl (by decide)) (fun _ => (ulS (ulS (ulS (ulC (ulC (ulC (ulS ulR)))))))) (fun xq14 hq15 => ?_)
     refine GH.one 9 rfl (by kernel_rfl) (Ex.wp (v := (.pointer (some ⟨rb, 0, none⟩))) (Ex.nilCheck rfl) (by decide)) (fun _ => (ulS (ulS (ulS (ulC (ulC (ulC (ulS ulR)))))))) (fun _ _ => ?_)
     refine GH.tk 10 (v := (.pointer (some ⟨rb, 1, none⟩))) rfl (by kernel_rfl) (fun _ _ _ h => h) (Ex.cast (Ex.fieldAddr rfl Tryz.underlying39 rfl T.sz29 (by decide)) rfl) (ulS (ulS (ulS (ulC (ulC (ulC (ulS ulR))))))) (by decide) ?_
     refine GH.one 11 rfl (by kernel_rfl) (Stp.st6 (cs' := [(.slice (some ⟨xq4.1, 0, none⟩) (n1 + 1) xq4.2.1), (.slice (some ⟨xq14.1, 0, none⟩) (n1 + 1) xq14.2.1), nilS, nilS, nilS, nilS, nilS, nilS]) rfl rfl rfl T.sz29 rfl rfl rfl) (fun _ => (ulS (ulS (ulS (ulC (ulC (ulC (ulS ulR)))))))) (fun _ _ => ?_)
     refine GH.done (by kernel_rfl) ?_
     refine GE.thenN (GC.seq (GC.region ?_))
     refine GL.mv rfl (by decide) ?_
     refine GL.mv rfl (by decide) ?_
     refine GL.val (v := (.int .i64 ((n : Int)))) (Ex.len rfl Tryz.underlying53) (by decide) ?_
     refine GL.val (v := (.slice (some ⟨bq1, 0, none⟩) n (n + 5))) (Ex.sliceH (m := n) rfl rfl Tryz.underlying53 T.sz52 rfl (by omega)) (by decide) ?_
     refine GL.sg rfl (by decide) ?_
     refine GL.nil (GE.thenN (GC.ret ?_))
     refine GC.ret1 rfl (Rv.tmp rfl) (fun wN HN => ?_)
     exact HN.frm (xq14, xq11, xq4, bq1) ⟨hq5.1, hq15.1⟩ (by rfl) (ulC (ulS (ulC (ulC (ulS (ulC (ulC ulR)))))))
    refine GHs.cons rfl (Stp.buildSlice (cs := [(.slice (some ⟨xq11.1, 0, none⟩) (n + 5) xq11.2.1)]) (vs := [(0, (.slice (some ⟨xq11.1, 0, none⟩) (n + 5) xq11.2.1))]) Tryz.underlying29 T.zr53 T.sz53 rfl (by decide) (by decide) (by first | rfl | kernel_rfl) (by decide)) (fun _ => (ulS (ulS (ulC (ulC (ulC (ulS (ulS ulR)))))))) (fun bq16 _ => ?_) ?_
    ·refine GH.one 4 rfl (by kernel_rfl) (Ex.wp (v := (.slice (some ⟨b2, 0, none⟩) n1 c2)) (Ex.load rfl T.ag29 (i := 5) rfl rfl) (by decide)) (fun _ => (ulS (ulS (ulC (ulC (ulC (ulS (ulS ulR)))))))) (fun _ _ => ?_)
     refine GH.one 8 rfl (by kernel_rfl) (Stp.appendOwn (i := 6) (xs := xs2) (sp := sp2) (vs := [(.slice (some ⟨xq11.1, 0, none⟩) (n + 5) xq11.2.1)]) (L1 := (⟨bq16, [(.slice (some ⟨xq11.1, 0, none⟩) (n + 5) xq11.2.1)], 53, true⟩ :: ⟨xq11.1, (roomL xs).map u32 ++ xq11.2.2, 52, true⟩ :: ⟨xq4.1, xs1 ++ [(.slice (some ⟨bq1, 0, none⟩) (n + 5) (n + 5))] ++ xq4.2.2, 53, true⟩ :: ⟨bq3, [(.slice (some ⟨bq1, 0, none⟩) (n + 5) (n + 5))], 53, true⟩ :: ⟨bq1, (roomL xs).map u32, 52, true⟩ :: ⟨rb, [(.slice (some ⟨xq4.1, 0, none⟩) (n1 + 1) xq4.2.1), (.slice (some ⟨b2, 0, none⟩) n1 c2), nilS, nilS, nilS, nilS, nilS, nilS], 39, true⟩ :: R)) rfl rfl Tryz.underlying29 T.sz53 T.zr53 rfl T.by53 rfl (by omega) hc2 (fun wz hz => hz.rdOf (i := 0) rfl 0) rfl rfl (by omega) (by omega) rfl (by decide)) (fun _ => (ulS (ulS (ulS (ulC (ulC (ulC (ulS ulR)))))))) (fun xq17 hq18 => ?_)
     refine GH.one 9 rfl (by kernel_rfl) (Ex.wp (v := (.pointer (some ⟨rb, 0, none⟩))) (Ex.nilCheck rfl) (by decide)) (fun _ => (ulS (ulS (ulS (ulC (ulC (ulC (ulS ulR)))))))) (fun _ _ => ?_)
     refine GH.tk 10 (v := (.pointer (some ⟨rb, 1, none⟩))) rfl (by kernel_rfl) (fun _ _ _ h => h) (Ex.cast (Ex.fieldAddr rfl Tryz.underlying39 rfl T.sz29 (by decide)) rfl) (ulS (ulS (ulS (ulC (ulC (ulC (ulS ulR))))))) (by decide) ?_
     refine GH.one 11 rfl (by kernel_rfl) (Stp.st6 (cs' := [(.slice (some ⟨xq4.1, 0, none⟩) (n1 + 1) xq4.2.1), (.slice (some ⟨xq17.1, 0, none⟩) (n1 + 1) xq17.2.1), nilS, nilS, nilS, nilS, nilS, nilS]) rfl rfl rfl T.sz29 rfl rfl rfl) (fun _ => (ulS (ulS (ulS (ulC (ulC (ulC (ulS ulR)))))))) (fun _ _ => ?_)
     refine GH.done (by kernel_rfl) ?_
     refine GE.thenN (GC.seq (GC.region ?_))
     refine GL.mv rfl (by decide) ?_
     refine GL.mv rfl (by decide) ?_
     refine GL.val (v := (.int .i64 ((n : Int)))) (Ex.len rfl Tryz.underlying53) (by decide) ?_
     refine GL.val (v := (.slice (some ⟨bq1, 0, none⟩) n (n + 5))) (Ex.sliceH (m := n) rfl rfl Tryz.underlying53 T.sz52 rfl (by omega)) (by decide) ?_
     refine GL.sg rfl (by decide) ?_
     refine GL.nil (GE.thenN (GC.ret ?_))
     refine GC.ret1 rfl (Rv.tmp rfl) (fun wN HN => ?_)
     exact HN.frm (xq17, xq11, xq4, bq1) ⟨hq5.1, hq18.1⟩ (by rfl) (ulC (ulS (ulC (ulC (ulS (ulC (ulC ulR)))))))
    exact GHs.nil
   exact GHs.nil
  refine GHs.cons rfl (Stp.appendNil (vs := (roomL xs).map u32) rfl rfl Tryz.underlying53 T.sz52 T.zr52 rfl T.by52 (fun wz hz => hz.rdOf (i := 2) rfl 0) (by simp [roomL_len, hs.1]) (by omega) (by omega) (by omega) (by decide)) (fun _ => (ulS (ulC (ulC (ulC (ulS (ulS ulR))))))) (fun xq19 hq20 => ?_) ?_
  ·refine GH.many (rs := [2, 7]) (by kernel_rfl) (by simp) ?_
   refine GHs.cons rfl (Ex.wp (v := (.pointer (some ⟨rb, 0, none⟩))) (Ex.nilCheck rfl) (by decide)) (fun _ => (ulS (ulC (ulC (ulC (ulS (ulS ulR))))))) (fun _ _ => ?_) ?_
   ·refine GH.tk 3 (v := (.pointer (some ⟨rb, 1, none⟩))) rfl (by kernel_rfl) (fun _ _ _ h => h) (Ex.cast (Ex.fieldAddr rfl Tryz.underlying39 rfl T.sz29 (by decide)) rfl) (ulS (ulC (ulC (ulC (ulS (ulS ulR)))))) (by decide) ?_
    refine GH.many (rs := [4, 7]) (by kernel_rfl) (by simp) ?_
    refine GHs.cons rfl (Ex.wp (v := (.slice (some ⟨b2, 0, none⟩) n1 c2)) (Ex.load rfl T.ag29 (i := 4) rfl rfl) (by decide)) (fun _ => (ulS (ulC (ulC (ulC (ulS (ulS ulR))))))) (fun _ _ => ?_) ?_
    ·refine GH.one 7 rfl (by kernel_rfl) (Stp.buildSlice (cs := [(.slice (some ⟨xq19.1, 0, none⟩) (n + 5) xq19.2.1)]) (vs := [(0, (.slice (some ⟨xq19.1, 0, none⟩) (n + 5) xq19.2.1))]) Tryz.underlying29 T.zr53 T.sz53 rfl (by decide) (by decide) (by first | rfl | kernel_rfl) (by decide)) (fun _ => (ulS (ulS (ulC (ulC (ulC (ulS (ulS ulR)))))))) (fun bq21 _ => ?_)
     refine GH.one 8 rfl (by kernel_rfl) (Stp.appendOwn (i := 6) (xs := xs2) (sp := sp2) (vs := [(.slice (some ⟨xq19.1, 0, none⟩) (n + 5) xq19.2.1)]) (L1 := (⟨bq21, [(.slice (some ⟨xq19.1, 0, none⟩) (n + 5) xq19.2.1)], 53, true⟩ :: ⟨xq19.1, (roomL xs).map u32 ++ xq19.2.2, 52, true⟩ :: ⟨xq4.1, xs1 ++ [(.slice (some ⟨bq1, 0, none⟩) (n + 5) (n + 5))] ++ xq4.2.2, 53, true⟩ :: ⟨bq3, [(.slice (some ⟨bq1, 0, none⟩) (n + 5) (n + 5))], 53, true⟩ :: ⟨bq1, (roomL xs).map u32, 52, true⟩ :: ⟨rb, [(.slice (some ⟨xq4.1, 0, none⟩) (n1 + 1) xq4.2.1), (.slice (some ⟨b2, 0, none⟩) n1 c2), nilS, nilS, nilS, nilS, nilS, nilS], 39, true⟩ :: R)) rfl rfl Tryz.underlying29 T.sz53 T.zr53 rfl T.by53 rfl (by omega) hc2 (fun wz hz => hz.rdOf (i := 0) rfl 0) rfl rfl (by omega) (by omega) rfl (by decide)) (fun _ => (ulS (ulS (ulS (ulC (ulC (ulC (ulS ulR)))))))) (fun xq22 hq23 => ?_)
     refine GH.one 9 rfl (by kernel_rfl) (Ex.wp (v := (.pointer (some ⟨rb, 0, none⟩))) (Ex.nilCheck rfl) (by decide)) (fun _ => (ulS (ulS (ulS (ulC (ulC (ulC (ulS ulR)))))))) (fun _ _ => ?_)
     refine GH.tk 10 (v := (.pointer (some ⟨rb, 1, none⟩))) rfl (by kernel_rfl) (fun _ _ _ h => h) (Ex.cast (Ex.fieldAddr rfl Tryz.underlying39 rfl T.sz29 (by decide)) rfl) (ulS (ulS (ulS (ulC (ulC (ulC (ulS ulR))))))) (by decide) ?_
     refine GH.one 11 rfl (by kernel_rfl) (Stp.st6 (cs' := [(.slice (some ⟨xq4.1, 0, none⟩) (n1 + 1) xq4.2.1), (.slice (some ⟨xq22.1, 0, none⟩) (n1 + 1) xq22.2.1), nilS, nilS, nilS, nilS, nilS, nilS]) rfl rfl rfl T.sz29 rfl rfl rfl) (fun _ => (ulS (ulS (ulS (ulC (ulC (ulC (ulS ulR)))))))) (fun _ _ => ?_)
     refine GH.done (by kernel_rfl) ?_
     refine GE.thenN (GC.seq (GC.region ?_))
     refine GL.mv rfl (by decide) ?_
     refine GL.mv rfl (by decide) ?_
     refine GL.val (v := (.int .i64 ((n : Int)))) (Ex.len rfl Tryz.underlying53) (by decide) ?_
     refine GL.val (v := (.slice (some ⟨bq1, 0, none⟩) n (n + 5))) (Ex.sliceH (m := n) rfl rfl Tryz.underlying53 T.sz52 rfl (by omega)) (by decide) ?_
     refine GL.sg rfl (by decide) ?_
     refine GL.nil (GE.thenN (GC.ret ?_))
     refine GC.ret1 rfl (Rv.tmp rfl) (fun wN HN => ?_)
     exact HN.frm (xq22, xq19, xq4, bq1) ⟨hq5.1, hq23.1⟩ (by rfl) (ulC (ulS (ulC (ulC (ulS (ulC (ulC ulR)))))))
    refine GHs.cons rfl (Stp.buildSlice (cs := [(.slice (some ⟨xq19.1, 0, none⟩) (n + 5) xq19.2.1)]) (vs := [(0, (.slice (some ⟨xq19.1, 0, none⟩) (n + 5) xq19.2.1))]) Tryz.underlying29 T.zr53 T.sz53 rfl (by decide) (by decide) (by first | rfl | kernel_rfl) (by decide)) (fun _ => (ulS (ulS (ulC (ulC (ulC (ulS (ulS ulR)))))))) (fun bq24 _ => ?_) ?_
    ·refine GH.one 4 rfl (by kernel_rfl) (Ex.wp (v := (.slice (some ⟨b2, 0, none⟩) n1 c2)) (Ex.load rfl T.ag29 (i := 5) rfl rfl) (by decide)) (fun _ => (ulS (ulS (ulC (ulC (ulC (ulS (ulS ulR)))))))) (fun _ _ => ?_)
     refine GH.one 8 rfl (by kernel_rfl) (Stp.appendOwn (i := 6) (xs := xs2) (sp := sp2) (vs := [(.slice (some ⟨xq19.1, 0, none⟩) (n + 5) xq19.2.1)]) (L1 := (⟨bq24, [(.slice (some ⟨xq19.1, 0, none⟩) (n + 5) xq19.2.1)], 53, true⟩ :: ⟨xq19.1, (roomL xs).map u32 ++ xq19.2.2, 52, true⟩ :: ⟨xq4.1, xs1 ++ [(.slice (some ⟨bq1, 0, none⟩) (n + 5) (n + 5))] ++ xq4.2.2, 53, true⟩ :: ⟨bq3, [(.slice (some ⟨bq1, 0, none⟩) (n + 5) (n + 5))], 53, true⟩ :: ⟨bq1, (roomL xs).map u32, 52, true⟩ :: ⟨rb, [(.slice (some ⟨xq4.1, 0, none⟩) (n1 + 1) xq4.2.1), (.slice (some ⟨b2, 0, none⟩) n1 c2), nilS, nilS, nilS, nilS, nilS, nilS], 39, true⟩ :: R)) rfl rfl Tryz.underlying29 T.sz53 T.zr53 rfl T.by53 rfl (by omega) hc2 (fun wz hz => hz.rdOf (i := 0) rfl 0) rfl rfl (by omega) (by omega) rfl (by decide)) (fun _ => (ulS (ulS (ulS (ulC (ulC (ulC (ulS ulR)))))))) (fun xq25 hq26 => ?_)
     refine GH.one 9 rfl (by kernel_rfl) (Ex.wp (v := (.pointer (some ⟨rb, 0, none⟩))) (Ex.nilCheck rfl) (by decide)) (fun _ => (ulS (ulS (ulS (ulC (ulC (ulC (ulS ulR)))))))) (fun _ _ => ?_)
     refine GH.tk 10 (v := (.pointer (some ⟨rb, 1, none⟩))) rfl (by kernel_rfl) (fun _ _ _ h => h) (Ex.cast (Ex.fieldAddr rfl Tryz.underlying39 rfl T.sz29 (by decide)) rfl) (ulS (ulS (ulS (ulC (ulC (ulC (ulS ulR))))))) (by decide) ?_
     refine GH.one 11 rfl (by kernel_rfl) (Stp.st6 (cs' := [(.slice (some ⟨xq4.1, 0, none⟩) (n1 + 1) xq4.2.1), (.slice (some ⟨xq25.1, 0, none⟩) (n1 + 1) xq25.2.1), nilS, nilS, nilS, nilS, nilS, nilS]) rfl rfl rfl T.sz29 rfl rfl rfl) (fun _ => (ulS (ulS (ulS (ulC (ulC (ulC (ulS ulR)))))))) (fun _ _ => ?_)
     refine GH.done (by kernel_rfl) ?_
     refine GE.thenN (GC.seq (GC.region ?_))
     refine GL.mv rfl (by decide) ?_
     refine GL.mv rfl (by decide) ?_
     refine GL.val (v := (.int .i64 ((n : Int)))) (Ex.len rfl Tryz.underlying53) (by decide) ?_
     refine GL.val (v := (.slice (some ⟨bq1, 0, none⟩) n (n + 5))) (Ex.sliceH (m := n) rfl rfl Tryz.underlying53 T.sz52 rfl (by omega)) (by decide) ?_
     refine GL.sg rfl (by decide) ?_
     refine GL.nil (GE.thenN (GC.ret ?_))
     refine GC.ret1 rfl (Rv.tmp rfl) (fun wN HN => ?_)
     exact HN.frm (xq25, xq19, xq4, bq1) ⟨hq5.1, hq26.1⟩ (by rfl) (ulC (ulS (ulC (ulC (ulS (ulC (ulC ulR)))))))
    exact GHs.nil
   refine GHs.cons rfl (Stp.buildSlice (cs := [(.slice (some ⟨xq19.1, 0, none⟩) (n + 5) xq19.2.1)]) (vs := [(0, (.slice (some ⟨xq19.1, 0, none⟩) (n + 5) xq19.2.1))]) Tryz.underlying29 T.zr53 T.sz53 rfl (by decide) (by decide) (by first | rfl | kernel_rfl) (by decide)) (fun _ => (ulS (ulS (ulC (ulC (ulC (ulS (ulS ulR)))))))) (fun bq27 _ => ?_) ?_
   ·refine GH.one 2 rfl (by kernel_rfl) (Ex.wp (v := (.pointer (some ⟨rb, 0, none⟩))) (Ex.nilCheck rfl) (by decide)) (fun _ => (ulS (ulS (ulC (ulC (ulC (ulS (ulS ulR)))))))) (fun _ _ => ?_)
    refine GH.tk 3 (v := (.pointer (some ⟨rb, 1, none⟩))) rfl (by kernel_rfl) (fun _ _ _ h => h) (Ex.cast (Ex.fieldAddr rfl Tryz.underlying39 rfl T.sz29 (by decide)) rfl) (ulS (ulS (ulC (ulC (ulC (ulS (ulS ulR))))))) (by decide) ?_
    refine GH.one 4 rfl (by kernel_rfl) (Ex.wp (v := (.slice (some ⟨b2, 0, none⟩) n1 c2)) (Ex.load rfl T.ag29 (i := 5) rfl rfl) (by decide)) (fun _ => (ulS (ulS (ulC (ulC (ulC (ulS (ulS ulR)))))))) (fun _ _ => ?_)
    refine GH.one 8 rfl (by kernel_rfl) (Stp.appendOwn (i := 6) (xs := xs2) (sp := sp2) (vs := [(.slice (some ⟨xq19.1, 0, none⟩) (n + 5) xq19.2.1)]) (L1 := (⟨bq27, [(.slice (some ⟨xq19.1, 0, none⟩) (n + 5) xq19.2.1)], 53, true⟩ :: ⟨xq19.1, (roomL xs).map u32 ++ xq19.2.2, 52, true⟩ :: ⟨xq4.1, xs1 ++ [(.slice (some ⟨bq1, 0, none⟩) (n + 5) (n + 5))] ++ xq4.2.2, 53, true⟩ :: ⟨bq3, [(.slice (some ⟨bq1, 0, none⟩) (n + 5) (n + 5))], 53, true⟩ :: ⟨bq1, (roomL xs).map u32, 52, true⟩ :: ⟨rb, [(.slice (some ⟨xq4.1, 0, none⟩) (n1 + 1) xq4.2.1), (.slice (some ⟨b2, 0, none⟩) n1 c2), nilS, nilS, nilS, nilS, nilS, nilS], 39, true⟩ :: R)) rfl rfl Tryz.underlying29 T.sz53 T.zr53 rfl T.by53 rfl (by omega) hc2 (fun wz hz => hz.rdOf (i := 0) rfl 0) rfl rfl (by omega) (by omega) rfl (by decide)) (fun _ => (ulS (ulS (ulS (ulC (ulC (ulC (ulS ulR)))))))) (fun xq28 hq29 => ?_)
    refine GH.one 9 rfl (by kernel_rfl) (Ex.wp (v := (.pointer (some ⟨rb, 0, none⟩))) (Ex.nilCheck rfl) (by decide)) (fun _ => (ulS (ulS (ulS (ulC (ulC (ulC (ulS ulR)))))))) (fun _ _ => ?_)
    refine GH.tk 10 (v := (.pointer (some ⟨rb, 1, none⟩))) rfl (by kernel_rfl) (fun _ _ _ h => h) (Ex.cast (Ex.fieldAddr rfl Tryz.underlying39 rfl T.sz29 (by decide)) rfl) (ulS (ulS (ulS (ulC (ulC (ulC (ulS ulR))))))) (by decide) ?_
    refine GH.one 11 rfl (by kernel_rfl) (Stp.st6 (cs' := [(.slice (some ⟨xq4.1, 0, none⟩) (n1 + 1) xq4.2.1), (.slice (some ⟨xq28.1, 0, none⟩) (n1 + 1) xq28.2.1), nilS, nilS, nilS, nilS, nilS, nilS]) rfl rfl rfl T.sz29 rfl rfl rfl) (fun _ => (ulS (ulS (ulS (ulC (ulC (ulC (ulS ulR)))))))) (fun _ _ => ?_)
    refine GH.done (by kernel_rfl) ?_
    refine GE.thenN (GC.seq (GC.region ?_))
    refine GL.mv rfl (by decide) ?_
    refine GL.mv rfl (by decide) ?_
    refine GL.val (v := (.int .i64 ((n : Int)))) (Ex.len rfl Tryz.underlying53) (by decide) ?_
    refine GL.val (v := (.slice (some ⟨bq1, 0, none⟩) n (n + 5))) (Ex.sliceH (m := n) rfl rfl Tryz.underlying53 T.sz52 rfl (by omega)) (by decide) ?_
    refine GL.sg rfl (by decide) ?_
    refine GL.nil (GE.thenN (GC.ret ?_))
    refine GC.ret1 rfl (Rv.tmp rfl) (fun wN HN => ?_)
    exact HN.frm (xq28, xq19, xq4, bq1) ⟨hq5.1, hq29.1⟩ (by rfl) (ulC (ulS (ulC (ulC (ulS (ulC (ulC ulR)))))))
   exact GHs.nil
  exact GHs.nil

theorem room_s0 (w0 : World) (R : List Blk) (rb n cap : Nat) (ad : Option Addr) (xs : List Int) (w : World) (hs : Lst w0 ad n xs) (hb : n ≤ 35184372087808) (hp0 : Hp None w0 (⟨rb, [(.slice none 0 0), (.slice none 0 0), (.slice none 0 0), (.slice none 0 0), (.slice none 0 0), (.slice none 0 0), (.slice none 0 0), (.slice none 0 0)], 39, true⟩ :: R) w) :
  Calls Tryz.prog 120 #[(.pointer (some ⟨rb, 0, none⟩)), (.slice ad n cap)] w (Frm (σ := (Nat × Nat × List Value) × (Nat × Nat × List Value) × (Nat × Nat × List Value) × Nat) None w0 (fun x => ([(Value.slice (some ⟨x.2.2.2, 0, none⟩) (n + 5) (n + 5))] ++ x.2.2.1.2.2 : List Value).length = x.2.2.1.2.1 * 1 ∧ ([(Value.slice (some ⟨x.2.1.1, 0, none⟩) (n + 5) x.2.1.2.1)] ++ x.1.2.2 : List Value).length = x.1.2.1 * 1) (fun x => (.slice (some ⟨x.2.2.2, 0, none⟩) n (n + 5))) (fun x => (⟨x.1.1, [(Value.slice (some ⟨x.2.1.1, 0, none⟩) (n + 5) x.2.1.2.1)] ++ x.1.2.2, 53, true⟩ :: ⟨x.2.1.1, (roomL xs).map u32 ++ x.2.1.2.2, 52, true⟩ :: ⟨x.2.2.1.1, [(Value.slice (some ⟨x.2.2.2, 0, none⟩) (n + 5) (n + 5))] ++ x.2.2.1.2.2, 53, true⟩ :: ⟨x.2.2.2, (roomL xs).map u32, 52, true⟩ :: ⟨rb, [(.slice (some ⟨x.2.2.1.1, 0, none⟩) 1 x.2.2.1.2.1), (.slice (some ⟨x.1.1, 0, none⟩) 1 x.1.2.1), (.slice none 0 0), (.slice none 0 0), (.slice none 0 0), (.slice none 0 0), (.slice none 0 0), (.slice none 0 0)], 39, true⟩ :: R))) := by
 have hsl := hs.1
 refine enterF (w0 := w0) (M := None) (L := (⟨rb, [nilS, nilS, nilS, nilS, nilS, nilS, nilS, nilS], 39, true⟩ :: R)) (n := 53) (l := [(0, (.pointer (some ⟨rb, 0, none⟩))), (1, (.slice ad n cap))]) Tryz.func120 rfl rfl (Args.cons rfl (Args.cons rfl (Args.nil _))) hp0 ?_
 refine GC.seq (GC.region ?_)
 refine GL.sg rfl (by decide) ?_
 refine GL.nil (GE.thenN (GC.seq (GC.region ?_)))
 refine GL.mv rfl (by decide) ?_
 refine GL.val (v := (.int .i64 ((n : Int)))) (Ex.len rfl Tryz.underlying53) (by decide) ?_
 refine GL.val (v := (.int .i64 (((n + 5 : Nat) : Int)))) (Ex.add rfl rfl (Z := ((n + 5 : Nat) : Int)) (by rw [w64 (by omega)]; rfl)) (by decide) ?_
 refine GL.step (Stp.makeSlice (a1 := n + 5) (c := n + 5) rfl rfl Tryz.underlying53 T.zr52 T.sz52 T.by52 rfl (Nat.le_refl _) (by omega) (by omega) (by decide)) (fun bq1 _ => ?_)
 rw [madeCells_one]
 refine GL.sg rfl (by decide) ?_
 refine GL.nil (GE.thenN (GC.seq (GC.region ?_)))
 refine GL.mv rfl (by decide) ?_
 refine GL.mv rfl (by decide) ?_
 refine GL.step (Stp.copyO (i := 0) (vs := xs.map u32) (L1 := (⟨bq1, roomC xs 0, 52, true⟩ :: ⟨rb, [nilS, nilS, nilS, nilS, nilS, nilS, nilS, nilS], 39, true⟩ :: R)) rfl rfl Tryz.underlying53 T.sz52 rfl (hs.2.2.2.imp id (fun ⟨b', o', e, hr⟩ => ⟨b', o', e, fun wz hz => hz.rd hr (fun x => x)⟩)) (by simpa using hs.1) (by omega) (by simp) (u32_one xs) (by rw [roomC_zero xs hs.1]; rfl) (by decide)) (fun _ _ => ?_)
 refine GL.nil (GE.thenN (GC.seq (GC.seq (GC.region ?_))))
 refine GL.mv rfl (by decide) ?_
 refine GL.val (v := (.int .i64 ((n : Int)))) (Ex.len rfl Tryz.underlying53) (by decide) ?_
 refine GL.sg rfl (by decide) ?_
 refine GL.nil (GE.thenN (GC.block ?_))
 refine GC.loop (σ := Nat) (fun k => k ≤ 5) (fun k => [(0, (.pointer (some ⟨rb, 0, none⟩))), (1, (.slice ad n cap)), (5, (.slice (some ⟨bq1, 0, none⟩) (n + 5) (n + 5))), (6, (.int .i64 (((n + k : Nat) : Int))))]) (fun k => (⟨bq1, roomC xs k, 52, true⟩ :: ⟨rb, [nilS, nilS, nilS, nilS, nilS, nilS, nilS, nilS], 39, true⟩ :: R)) (fun k => 5 - k) (0) (by decide) ((sub_cons rfl ((sub_cons rfl ((sub_cons rfl ((sub_cons rfl ((sub_nil _)))))))))) (ulC (ulC ulR)) (fun k hp => ?_)
 refine GC.seq (GC.seq (GC.region ?_))
 refine GL.mv rfl (by decide) ?_
 refine GL.mv rfl (by decide) ?_
 refine GL.val (v := (.int .i64 (((n + 5) : Int)))) (Ex.len rfl Tryz.underlying53) (by decide) ?_
 refine GL.val (v := (.bool (decide ((((n + k : Nat) : Int)) < (((n + 5) : Int)))))) (Ex.lss rfl rfl) (by decide) ?_
 refine GL.nil (GE.thenN ?_)
 refine GC.cond rfl (fun hq2 => ?_) (fun hq2 => ?_)
 ·replace hq2 := of_decide_eq_true hq2
  refine GC.skip (GE.thenN (GC.seq (GC.block (GC.region ?_))))
  refine GL.mv rfl (by decide) ?_
  refine GL.mv rfl (by decide) ?_
  refine GL.mv rfl (by decide) ?_
  refine GL.val (v := (.int .i64 (2141192202 + (((n + k : Nat) : Int))))) (Ex.add rfl rfl (Z := 2141192202 + (((n + k : Nat) : Int))) (w64 (by omega))) (by decide) ?_
  refine GL.val (v := (.int .u32 (fil (n + k)))) (Ex.conv rfl Tryz.underlying3 Tryz.underlying52 (Z := fil (n + k)) (by rw [wu32]; rfl)) (by decide) ?_
  refine GL.val (v := (.pointer (some ⟨bq1, n + k, none⟩))) (Ex.cast (Ex.indexAddr rfl rfl Tryz.underlying53 T.sz52 (by omega) (by omega)) (by simp)) (by decide) ?_
  refine GL.step (Stp.storeL (i := 0) (cs := roomC xs k) (vs := [.int .u32 (fil (n + k))]) (o := n + k) (L1 := (⟨bq1, roomC xs (k + 1), 52, true⟩ :: ⟨rb, [nilS, nilS, nilS, nilS, nilS, nilS, nilS, nilS], 39, true⟩ :: R)) rfl rfl rfl T.sz52 rfl (Nat.ble_eq_true_of_le (by rw [roomC_len (by omega)]; simp; omega)) rfl (by rw [roomC_store hs.1 (by omega)]; rfl)) (fun _ _ => ?_)
  refine GL.nil (GE.blockN (GE.thenN (GC.region ?_)))
  refine GL.mv rfl (by decide) ?_
  refine GL.val (v := (.int .i64 (((n + (k + 1) : Nat) : Int)))) (Ex.add rfl rfl (Z := ((n + (k + 1) : Nat) : Int)) (by rw [w64 (by omega)]; simp only [Int.natCast_add]; omega)) (by decide) ?_
  refine GL.sg rfl (by decide) ?_
  refine GL.nil (GE.thenN ?_)
  exact Head.mk (k + 1) (by omega) (by omega) ((sub_cons rfl ((sub_cons rfl ((sub_cons rfl ((sub_cons rfl ((sub_nil _)))))))))) (ulC (ulC ulR))
 ·replace hq2 := of_decide_eq_false hq2
  refine GC.exit (GE.thenE (GE.thenE (GE.blockE (GE.thenN (GC.seq ?_)))))
  obtain rfl : k = 5 := by omega
  rw [roomC_full]
  refine GC.region ?_
  refine GL.mv rfl (by decide) ?_
  refine GL.mv rfl (by decide) ?_
  refine GL.val (v := (.pointer (some ⟨rb, 0, none⟩))) (Ex.nilCheck rfl) (by decide) ?_
  refine GL.val (v := (.pointer (some ⟨rb, 0, none⟩))) (Ex.cast (Ex.fieldAddr rfl Tryz.underlying39 rfl T.sz29 (by decide)) rfl) (by decide) ?_
  refine GL.val (Ex.load rfl T.ag29 (i := 1) rfl rfl) (by decide) ?_
  refine GL.mv rfl (by decide) ?_
  refine GL.step (Stp.buildSlice (cs := [(.slice (some ⟨bq1, 0, none⟩) (n + 5) (n + 5))]) (vs := [(0, (.slice (some ⟨bq1, 0, none⟩) (n + 5) (n + 5)))]) Tryz.underlying29 T.zr53 T.sz53 rfl (by decide) (by decide) (by first | rfl | kernel_rfl) (by decide)) (fun bq3 _ => ?_)
  refine GL.step (Stp.appendNil (vs := [(.slice (some ⟨bq1, 0, none⟩) (n + 5) (n + 5))]) rfl rfl Tryz.underlying29 T.sz53 T.zr53 rfl T.by53 (fun wz hz => hz.rdOf (i := 0) rfl 0) rfl (by decide) (by decide) (by decide) (by decide)) (fun xq4 hq5 => ?_)
  refine GL.val (v := (.pointer (some ⟨rb, 0, none⟩))) (Ex.nilCheck rfl) (by decide) ?_
  refine GL.val (v := (.pointer (some ⟨rb, 0, none⟩))) (Ex.cast (Ex.fieldAddr rfl Tryz.underlying39 rfl T.sz29 (by decide)) rfl) (by decide) ?_
  refine GL.step (Stp.st3 (cs' := [(.slice (some ⟨xq4.1, 0, none⟩) 1 xq4.2.1), nilS, nilS, nilS, nilS, nilS, nilS, nilS]) rfl rfl rfl T.sz29 rfl rfl rfl) (fun _ _ => ?_)
  refine GL.nil (GE.thenN (GC.seq ?_))
  refine GC.draw (⟨xq4.1, [(.slice (some ⟨bq1, 0, none⟩) (n + 5) (n + 5))] ++ xq4.2.2, 53, true⟩ :: ⟨bq3, [(.slice (some ⟨bq1, 0, none⟩) (n + 5) (n + 5))], 53, true⟩ :: ⟨bq1, (roomL xs).map u32, 52, true⟩ :: R) T.mixed (fuel := 12) rfl rfl ?_
  refine GH.tk 0 (v := (.pointer (some ⟨rb, 0, none⟩))) rfl (by kernel_rfl) (fun _ _ _ h => h) (Ex.move rfl) (ulC (ulC (ulC (ulS ulR)))) (by decide) ?_
  refine GH.tk 1 (v := (.pointer (some ⟨rb, 0, none⟩))) rfl (by kernel_rfl) (fun _ _ _ h => h) (Ex.move rfl) (ulC (ulC (ulC (ulS ulR)))) (by decide) ?_
  refine GH.tk 5 (v := (.slice (some ⟨bq1, 0, none⟩) (n + 5) (n + 5))) rfl (by kernel_rfl) (fun _ _ _ h => h) (Ex.move rfl) (ulC (ulC (ulC (ulS ulR)))) (by decide) ?_
  refine GH.many (rs := [2, 6]) (by kernel_rfl) (by simp) ?_
  refine GHs.cons rfl (Ex.wp (v := (.pointer (some ⟨rb, 0, none⟩))) (Ex.nilCheck rfl) (by decide)) (fun _ => (ulC (ulC (ulC (ulS ulR))))) (fun _ _ => ?_) ?_
  ·refine GH.tk 3 (v := (.pointer (some ⟨rb, 1, none⟩))) rfl (by kernel_rfl) (fun _ _ _ h => h) (Ex.cast (Ex.fieldAddr rfl Tryz.underlying39 rfl T.sz29 (by decide)) rfl) (ulC (ulC (ulC (ulS ulR)))) (by decide) ?_
   refine GH.many (rs := [4, 6]) (by kernel_rfl) (by simp) ?_
   refine GHs.cons rfl (Ex.wp (v := nilS) (Ex.load rfl T.ag29 (i := 3) rfl rfl) (by decide)) (fun _ => (ulC (ulC (ulC (ulS ulR))))) (fun _ _ => ?_) ?_
   ·refine GH.one 6 rfl (by kernel_rfl) (Stp.appendNil (vs := (roomL xs).map u32) rfl rfl Tryz.underlying53 T.sz52 T.zr52 rfl T.by52 (fun wz hz => hz.rdOf (i := 2) rfl 0) (by simp [roomL_len, hs.1]) (by omega) (by omega) (by omega) (by decide)) (fun _ => (ulS (ulC (ulC (ulC (ulS ulR)))))) (fun xq6 hq7 => ?_)
    refine GH.one 7 rfl (by kernel_rfl) (Stp.buildSlice (cs := [(.slice (some ⟨xq6.1, 0, none⟩) (n + 5) xq6.2.1)]) (vs := [(0, (.slice (some ⟨xq6.1, 0, none⟩) (n + 5) xq6.2.1))]) Tryz.underlying29 T.zr53 T.sz53 rfl (by decide) (by decide) (by first | rfl | kernel_rfl) (by decide)) (fun _ => (ulS (ulS (ulC (ulC (ulC (ulS ulR))))))) (fun bq8 _ => ?_)
    refine GH.one 8 rfl (by kernel_rfl) (Stp.appendNil (vs := [(.slice (some ⟨xq6.1, 0, none⟩) (n + 5) xq6.2.1)]) rfl rfl Tryz.underlying29 T.sz53 T.zr53 rfl T.by53 (fun wz hz => hz.rdOf (i := 0) rfl 0) rfl (by decide) (by decide) (by decide) (by decide)) (fun _ => (ulS (ulS (ulS (ulC (ulC (ulC (ulS ulR)))))))) (fun xq9 hq10 => ?_)
    refine GH.one 9 rfl (by kernel_rfl) (Ex.wp (v := (.pointer (some ⟨rb, 0, none⟩))) (Ex.nilCheck rfl) (by decide)) (fun _ => (ulS (ulS (ulS (ulC (ulC (ulC (ulS ulR)))))))) (fun _ _ => ?_)
    refine GH.tk 10 (v := (.pointer (some ⟨rb, 1, none⟩))) rfl (by kernel_rfl) (fun _ _ _ h => h) (Ex.cast (Ex.fieldAddr rfl Tryz.underlying39 rfl T.sz29 (by decide)) rfl) (ulS (ulS (ulS (ulC (ulC (ulC (ulS ulR))))))) (by decide) ?_
    refine GH.one 11 rfl (by kernel_rfl) (Stp.st6 (cs' := [(.slice (some ⟨xq4.1, 0, none⟩) 1 xq4.2.1), (.slice (some ⟨xq9.1, 0, none⟩) 1 xq9.2.1), nilS, nilS, nilS, nilS, nilS, nilS]) rfl rfl rfl T.sz29 rfl rfl rfl) (fun _ => (ulS (ulS (ulS (ulC (ulC (ulC (ulS ulR)))))))) (fun _ _ => ?_)
    refine GH.done (by kernel_rfl) ?_
    refine GE.thenN (GC.seq (GC.region ?_))
    refine GL.mv rfl (by decide) ?_
    refine GL.mv rfl (by decide) ?_
    refine GL.val (v := (.int .i64 ((n : Int)))) (Ex.len rfl Tryz.underlying53) (by decide) ?_
    refine GL.val (v := (.slice (some ⟨bq1, 0, none⟩) n (n + 5))) (Ex.sliceH (m := n) rfl rfl Tryz.underlying53 T.sz52 rfl (by omega)) (by decide) ?_
    refine GL.sg rfl (by decide) ?_
    refine GL.nil (GE.thenN (GC.ret ?_))
    refine GC.ret1 rfl (Rv.tmp rfl) (fun wN HN => ?_)
    exact HN.frm (xq9, xq6, xq4, bq1) ⟨hq5.1, hq10.1⟩ (by rfl) (ulC (ulS (ulC (ulC (ulS (ulC (ulC ulR)))))))
   refine GHs.cons rfl (Stp.appendNil (vs := (roomL xs).map u32) rfl rfl Tryz.underlying53 T.sz52 T.zr52 rfl T.by52 (fun wz hz => hz.rdOf (i := 2) rfl 0) (by simp [roomL_len, hs.1]) (by omega) (by omega) (by omega) (by decide)) (fun _ => (ulS (ulC (ulC (ulC (ulS ulR)))))) (fun xq11 hq12 => ?_) ?_
   ·refine GH.many (rs := [4, 7]) (by kernel_rfl) (by simp) ?_
    refine GHs.cons rfl (Ex.wp (v := nilS) (Ex.load rfl T.ag29 (i := 4) rfl rfl) (by decide)) (fun _ => (ulS (ulC (ulC (ulC (ulS ulR)))))) (fun _ _ => ?_) ?_
    ·refine GH.one 7 rfl (by kernel_rfl) (Stp.buildSlice (cs := [(.slice (some ⟨xq11.1, 0, none⟩) (n + 5) xq11.2.1)]) (vs := [(0, (.slice (some ⟨xq11.1, 0, none⟩) (n + 5) xq11.2.1))]) Tryz.underlying29 T.zr53 T.sz53 rfl (by decide) (by decide) (by first | rfl | kernel_rfl) (by decide)) (fun _ => (ulS (ulS (ulC (ulC (ulC (ulS ulR))))))) (fun bq13 _ => ?_)
     refine GH.one 8 rfl (by kernel_rfl) (Stp.appendNil (vs := [(.slice (some ⟨xq11.1, 0, none⟩) (n + 5) xq11.2.1)]) rfl rfl Tryz.underlying29 T.sz53 T.zr53 rfl T.by53 (fun wz hz => hz.rdOf (i := 0) rfl 0) rfl (by decide) (by decide) (by decide) (by decide)) (fun _ => (ulS (ulS (ulS (ulC (ulC (ulC (ulS ulR)))))))) (fun xq14 hq15 => ?_)
     refine GH.one 9 rfl (by kernel_rfl) (Ex.wp (v := (.pointer (some ⟨rb, 0, none⟩))) (Ex.nilCheck rfl) (by decide)) (fun _ => (ulS (ulS (ulS (ulC (ulC (ulC (ulS ulR)))))))) (fun _ _ => ?_)
     refine GH.tk 10 (v := (.pointer (some ⟨rb, 1, none⟩))) rfl (by kernel_rfl) (fun _ _ _ h => h) (Ex.cast (Ex.fieldAddr rfl Tryz.underlying39 rfl T.sz29 (by decide)) rfl) (ulS (ulS (ulS (ulC (ulC (ulC (ulS ulR))))))) (by decide) ?_
     refine GH.one 11 rfl (by kernel_rfl) (Stp.st6 (cs' := [(.slice (some ⟨xq4.1, 0, none⟩) 1 xq4.2.1), (.slice (some ⟨xq14.1, 0, none⟩) 1 xq14.2.1), nilS, nilS, nilS, nilS, nilS, nilS]) rfl rfl rfl T.sz29 rfl rfl rfl) (fun _ => (ulS (ulS (ulS (ulC (ulC (ulC (ulS ulR)))))))) (fun _ _ => ?_)
     refine GH.done (by kernel_rfl) ?_
     refine GE.thenN (GC.seq (GC.region ?_))
     refine GL.mv rfl (by decide) ?_
     refine GL.mv rfl (by decide) ?_
     refine GL.val (v := (.int .i64 ((n : Int)))) (Ex.len rfl Tryz.underlying53) (by decide) ?_
     refine GL.val (v := (.slice (some ⟨bq1, 0, none⟩) n (n + 5))) (Ex.sliceH (m := n) rfl rfl Tryz.underlying53 T.sz52 rfl (by omega)) (by decide) ?_
     refine GL.sg rfl (by decide) ?_
     refine GL.nil (GE.thenN (GC.ret ?_))
     refine GC.ret1 rfl (Rv.tmp rfl) (fun wN HN => ?_)
     exact HN.frm (xq14, xq11, xq4, bq1) ⟨hq5.1, hq15.1⟩ (by rfl) (ulC (ulS (ulC (ulC (ulS (ulC (ulC ulR)))))))
    refine GHs.cons rfl (Stp.buildSlice (cs := [(.slice (some ⟨xq11.1, 0, none⟩) (n + 5) xq11.2.1)]) (vs := [(0, (.slice (some ⟨xq11.1, 0, none⟩) (n + 5) xq11.2.1))]) Tryz.underlying29 T.zr53 T.sz53 rfl (by decide) (by decide) (by first | rfl | kernel_rfl) (by decide)) (fun _ => (ulS (ulS (ulC (ulC (ulC (ulS ulR))))))) (fun bq16 _ => ?_) ?_
    ·refine GH.one 4 rfl (by kernel_rfl) (Ex.wp (v := nilS) (Ex.load rfl T.ag29 (i := 5) rfl rfl) (by decide)) (fun _ => (ulS (ulS (ulC (ulC (ulC (ulS ulR))))))) (fun _ _ => ?_)
     refine GH.one 8 rfl (by kernel_rfl) (Stp.appendNil (vs := [(.slice (some ⟨xq11.1, 0, none⟩) (n + 5) xq11.2.1)]) rfl rfl Tryz.underlying29 T.sz53 T.zr53 rfl T.by53 (fun wz hz => hz.rdOf (i := 0) rfl 0) rfl (by decide) (by decide) (by decide) (by decide)) (fun _ => (ulS (ulS (ulS (ulC (ulC (ulC (ulS ulR)))))))) (fun xq17 hq18 => ?_)
     refine GH.one 9 rfl (by kernel_rfl) (Ex.wp (v := (.pointer (some ⟨rb, 0, none⟩))) (Ex.nilCheck rfl) (by decide)) (fun _ => (ulS (ulS (ulS (ulC (ulC (ulC (ulS ulR)))))))) (fun _ _ => ?_)
     refine GH.tk 10 (v := (.pointer (some ⟨rb, 1, none⟩))) rfl (by kernel_rfl) (fun _ _ _ h => h) (Ex.cast (Ex.fieldAddr rfl Tryz.underlying39 rfl T.sz29 (by decide)) rfl) (ulS (ulS (ulS (ulC (ulC (ulC (ulS ulR))))))) (by decide) ?_
     refine GH.one 11 rfl (by kernel_rfl) (Stp.st6 (cs' := [(.slice (some ⟨xq4.1, 0, none⟩) 1 xq4.2.1), (.slice (some ⟨xq17.1, 0, none⟩) 1 xq17.2.1), nilS, nilS, nilS, nilS, nilS, nilS]) rfl rfl rfl T.sz29 rfl rfl rfl) (fun _ => (ulS (ulS (ulS (ulC (ulC (ulC (ulS ulR)))))))) (fun _ _ => ?_)
     refine GH.done (by kernel_rfl) ?_
     refine GE.thenN (GC.seq (GC.region ?_))
     refine GL.mv rfl (by decide) ?_
     refine GL.mv rfl (by decide) ?_
     refine GL.val (v := (.int .i64 ((n : Int)))) (Ex.len rfl Tryz.underlying53) (by decide) ?_
     refine GL.val (v := (.slice (some ⟨bq1, 0, none⟩) n (n + 5))) (Ex.sliceH (m := n) rfl rfl Tryz.underlying53 T.sz52 rfl (by omega)) (by decide) ?_
     refine GL.sg rfl (by decide) ?_
     refine GL.nil (GE.thenN (GC.ret ?_))
     refine GC.ret1 rfl (Rv.tmp rfl) (fun wN HN => ?_)
     exact HN.frm (xq17, xq11, xq4, bq1) ⟨hq5.1, hq18.1⟩ (by rfl) (ulC (ulS (ulC (ulC (ulS (ulC (ulC ulR)))))))
    exact GHs.nil
   exact GHs.nil
  refine GHs.cons rfl (Stp.appendNil (vs := (roomL xs).map u32) rfl rfl Tryz.underlying53 T.sz52 T.zr52 rfl T.by52 (fun wz hz => hz.rdOf (i := 2) rfl 0) (by simp [roomL_len, hs.1]) (by omega) (by omega) (by omega) (by decide)) (fun _ => (ulS (ulC (ulC (ulC (ulS ulR)))))) (fun xq19 hq20 => ?_) ?_
  ·refine GH.many (rs := [2, 7]) (by kernel_rfl) (by simp) ?_
   refine GHs.cons rfl (Ex.wp (v := (.pointer (some ⟨rb, 0, none⟩))) (Ex.nilCheck rfl) (by decide)) (fun _ => (ulS (ulC (ulC (ulC (ulS ulR)))))) (fun _ _ => ?_) ?_
   ·refine GH.tk 3 (v := (.pointer (some ⟨rb, 1, none⟩))) rfl (by kernel_rfl) (fun _ _ _ h => h) (Ex.cast (Ex.fieldAddr rfl Tryz.underlying39 rfl T.sz29 (by decide)) rfl) (ulS (ulC (ulC (ulC (ulS ulR))))) (by decide) ?_
    refine GH.many (rs := [4, 7]) (by kernel_rfl) (by simp) ?_
    refine GHs.cons rfl (Ex.wp (v := nilS) (Ex.load rfl T.ag29 (i := 4) rfl rfl) (by decide)) (fun _ => (ulS (ulC (ulC (ulC (ulS ulR)))))) (fun _ _ => ?_) ?_
    ·refine GH.one 7 rfl (by kernel_rfl) (Stp.buildSlice (cs := [(.slice (some ⟨xq19.1, 0, none⟩) (n + 5) xq19.2.1)]) (vs := [(0, (.slice (some ⟨xq19.1, 0, none⟩) (n + 5) xq19.2.1))]) Tryz.underlying29 T.zr53 T.sz53 rfl (by decide) (by decide) (by first | rfl | kernel_rfl) (by decide)) (fun _ => (ulS (ulS (ulC (ulC (ulC (ulS ulR))))))) (fun bq21 _ => ?_)
     refine GH.one 8 rfl (by kernel_rfl) (Stp.appendNil (vs := [(.slice (some ⟨xq19.1, 0, none⟩) (n + 5) xq19.2.1)]) rfl rfl Tryz.underlying29 T.sz53 T.zr53 rfl T.by53 (fun wz hz => hz.rdOf (i := 0) rfl 0) rfl (by decide) (by decide) (by decide) (by decide)) (fun _ => (ulS (ulS (ulS (ulC (ulC (ulC (ulS ulR)))))))) (fun xq22 hq23 => ?_)
     refine GH.one 9 rfl (by kernel_rfl) (Ex.wp (v := (.pointer (some ⟨rb, 0, none⟩))) (Ex.nilCheck rfl) (by decide)) (fun _ => (ulS (ulS (ulS (ulC (ulC (ulC (ulS ulR)))))))) (fun _ _ => ?_)
     refine GH.tk 10 (v := (.pointer (some ⟨rb, 1, none⟩))) rfl (by kernel_rfl) (fun _ _ _ h => h) (Ex.cast (Ex.fieldAddr rfl Tryz.underlying39 rfl T.sz29 (by decide)) rfl) (ulS (ulS (ulS (ulC (ulC (ulC (ulS ulR))))))) (by decide) ?_
     refine GH.one 11 rfl (by kernel_rfl) (Stp.st6 (cs' := [(.slice (some ⟨xq4.1, 0, none⟩) 1 xq4.2.1), (.slice (some ⟨xq22.1, 0, none⟩) 1 xq22.2.1), nilS, nilS, nilS, nilS, nilS, nilS]) rfl rfl rfl T.sz29 rfl rfl rfl) (fun _ => (ulS (ulS (ulS (ulC (ulC (ulC (ulS ulR)))))))) (fun _ _ => ?_)
     refine GH.done (by kernel_rfl) ?_
     refine GE.thenN (GC.seq (GC.region ?_))
     refine GL.mv rfl (by decide) ?_
     refine GL.mv rfl (by decide) ?_
     refine GL.val (v := (.int .i64 ((n : Int)))) (Ex.len rfl Tryz.underlying53) (by decide) ?_
     refine GL.val (v := (.slice (some ⟨bq1, 0, none⟩) n (n + 5))) (Ex.sliceH (m := n) rfl rfl Tryz.underlying53 T.sz52 rfl (by omega)) (by decide) ?_
     refine GL.sg rfl (by decide) ?_
     refine GL.nil (GE.thenN (GC.ret ?_))
     refine GC.ret1 rfl (Rv.tmp rfl) (fun wN HN => ?_)
     exact HN.frm (xq22, xq19, xq4, bq1) ⟨hq5.1, hq23.1⟩ (by rfl) (ulC (ulS (ulC (ulC (ulS (ulC (ulC ulR)))))))
    refine GHs.cons rfl (Stp.buildSlice (cs := [(.slice (some ⟨xq19.1, 0, none⟩) (n + 5) xq19.2.1)]) (vs := [(0, (.slice (some ⟨xq19.1, 0, none⟩) (n + 5) xq19.2.1))]) Tryz.underlying29 T.zr53 T.sz53 rfl (by decide) (by decide) (by first | rfl | kernel_rfl) (by decide)) (fun _ => (ulS (ulS (ulC (ulC (ulC (ulS ulR))))))) (fun bq24 _ => ?_) ?_
    ·refine GH.one 4 rfl (by kernel_rfl) (Ex.wp (v := nilS) (Ex.load rfl T.ag29 (i := 5) rfl rfl) (by decide)) (fun _ => (ulS (ulS (ulC (ulC (ulC (ulS ulR))))))) (fun _ _ => ?_)
     refine GH.one 8 rfl (by kernel_rfl) (Stp.appendNil (vs := [(.slice (some ⟨xq19.1, 0, none⟩) (n + 5) xq19.2.1)]) rfl rfl Tryz.underlying29 T.sz53 T.zr53 rfl T.by53 (fun wz hz => hz.rdOf (i := 0) rfl 0) rfl (by decide) (by decide) (by decide) (by decide)) (fun _ => (ulS (ulS (ulS (ulC (ulC (ulC (ulS ulR)))))))) (fun xq25 hq26 => ?_)
     refine GH.one 9 rfl (by kernel_rfl) (Ex.wp (v := (.pointer (some ⟨rb, 0, none⟩))) (Ex.nilCheck rfl) (by decide)) (fun _ => (ulS (ulS (ulS (ulC (ulC (ulC (ulS ulR)))))))) (fun _ _ => ?_)
     refine GH.tk 10 (v := (.pointer (some ⟨rb, 1, none⟩))) rfl (by kernel_rfl) (fun _ _ _ h => h) (Ex.cast (Ex.fieldAddr rfl Tryz.underlying39 rfl T.sz29 (by decide)) rfl) (ulS (ulS (ulS (ulC (ulC (ulC (ulS ulR))))))) (by decide) ?_
     refine GH.one 11 rfl (by kernel_rfl) (Stp.st6 (cs' := [(.slice (some ⟨xq4.1, 0, none⟩) 1 xq4.2.1), (.slice (some ⟨xq25.1, 0, none⟩) 1 xq25.2.1), nilS, nilS, nilS, nilS, nilS, nilS]) rfl rfl rfl T.sz29 rfl rfl rfl) (fun _ => (ulS (ulS (ulS (ulC (ulC (ulC (ulS ulR)))))))) (fun _ _ => ?_)
     refine GH.done (by kernel_rfl) ?_
     refine GE.thenN (GC.seq (GC.region ?_))
     refine GL.mv rfl (by decide) ?_
     refine GL.mv rfl (by decide) ?_
     refine GL.val (v := (.int .i64 ((n : Int)))) (Ex.len rfl Tryz.underlying53) (by decide) ?_
     refine GL.val (v := (.slice (some ⟨bq1, 0, none⟩) n (n + 5))) (Ex.sliceH (m := n) rfl rfl Tryz.underlying53 T.sz52 rfl (by omega)) (by decide) ?_
     refine GL.sg rfl (by decide) ?_
     refine GL.nil (GE.thenN (GC.ret ?_))
     refine GC.ret1 rfl (Rv.tmp rfl) (fun wN HN => ?_)
     exact HN.frm (xq25, xq19, xq4, bq1) ⟨hq5.1, hq26.1⟩ (by rfl) (ulC (ulS (ulC (ulC (ulS (ulC (ulC ulR)))))))
    exact GHs.nil
   refine GHs.cons rfl (Stp.buildSlice (cs := [(.slice (some ⟨xq19.1, 0, none⟩) (n + 5) xq19.2.1)]) (vs := [(0, (.slice (some ⟨xq19.1, 0, none⟩) (n + 5) xq19.2.1))]) Tryz.underlying29 T.zr53 T.sz53 rfl (by decide) (by decide) (by first | rfl | kernel_rfl) (by decide)) (fun _ => (ulS (ulS (ulC (ulC (ulC (ulS ulR))))))) (fun bq27 _ => ?_) ?_
   ·refine GH.one 2 rfl (by kernel_rfl) (Ex.wp (v := (.pointer (some ⟨rb, 0, none⟩))) (Ex.nilCheck rfl) (by decide)) (fun _ => (ulS (ulS (ulC (ulC (ulC (ulS ulR))))))) (fun _ _ => ?_)
    refine GH.tk 3 (v := (.pointer (some ⟨rb, 1, none⟩))) rfl (by kernel_rfl) (fun _ _ _ h => h) (Ex.cast (Ex.fieldAddr rfl Tryz.underlying39 rfl T.sz29 (by decide)) rfl) (ulS (ulS (ulC (ulC (ulC (ulS ulR)))))) (by decide) ?_
    refine GH.one 4 rfl (by kernel_rfl) (Ex.wp (v := nilS) (Ex.load rfl T.ag29 (i := 5) rfl rfl) (by decide)) (fun _ => (ulS (ulS (ulC (ulC (ulC (ulS ulR))))))) (fun _ _ => ?_)
    refine GH.one 8 rfl (by kernel_rfl) (Stp.appendNil (vs := [(.slice (some ⟨xq19.1, 0, none⟩) (n + 5) xq19.2.1)]) rfl rfl Tryz.underlying29 T.sz53 T.zr53 rfl T.by53 (fun wz hz => hz.rdOf (i := 0) rfl 0) rfl (by decide) (by decide) (by decide) (by decide)) (fun _ => (ulS (ulS (ulS (ulC (ulC (ulC (ulS ulR)))))))) (fun xq28 hq29 => ?_)
    refine GH.one 9 rfl (by kernel_rfl) (Ex.wp (v := (.pointer (some ⟨rb, 0, none⟩))) (Ex.nilCheck rfl) (by decide)) (fun _ => (ulS (ulS (ulS (ulC (ulC (ulC (ulS ulR)))))))) (fun _ _ => ?_)
    refine GH.tk 10 (v := (.pointer (some ⟨rb, 1, none⟩))) rfl (by kernel_rfl) (fun _ _ _ h => h) (Ex.cast (Ex.fieldAddr rfl Tryz.underlying39 rfl T.sz29 (by decide)) rfl) (ulS (ulS (ulS (ulC (ulC (ulC (ulS ulR))))))) (by decide) ?_
    refine GH.one 11 rfl (by kernel_rfl) (Stp.st6 (cs' := [(.slice (some ⟨xq4.1, 0, none⟩) 1 xq4.2.1), (.slice (some ⟨xq28.1, 0, none⟩) 1 xq28.2.1), nilS, nilS, nilS, nilS, nilS, nilS]) rfl rfl rfl T.sz29 rfl rfl rfl) (fun _ => (ulS (ulS (ulS (ulC (ulC (ulC (ulS ulR)))))))) (fun _ _ => ?_)
    refine GH.done (by kernel_rfl) ?_
    refine GE.thenN (GC.seq (GC.region ?_))
    refine GL.mv rfl (by decide) ?_
    refine GL.mv rfl (by decide) ?_
    refine GL.val (v := (.int .i64 ((n : Int)))) (Ex.len rfl Tryz.underlying53) (by decide) ?_
    refine GL.val (v := (.slice (some ⟨bq1, 0, none⟩) n (n + 5))) (Ex.sliceH (m := n) rfl rfl Tryz.underlying53 T.sz52 rfl (by omega)) (by decide) ?_
    refine GL.sg rfl (by decide) ?_
    refine GL.nil (GE.thenN (GC.ret ?_))
    refine GC.ret1 rfl (Rv.tmp rfl) (fun wN HN => ?_)
    exact HN.frm (xq28, xq19, xq4, bq1) ⟨hq5.1, hq29.1⟩ (by rfl) (ulC (ulS (ulC (ulC (ulS (ulC (ulC ulR)))))))
   exact GHs.nil
  exact GHs.nil

theorem room_p0 (w0 : World) (R : List Blk) (W H : Int) (rb n cap : Nat) (ad : Option Addr) (xs : List Int) (w : World) (hs : Lst w0 ad n xs) (hb : n ≤ 35184372087808) (hp0 : Hp None w0 (⟨rb, [(.slice none 0 0), (.slice none 0 0), (.slice none 0 0), (.slice none 0 0), (.slice none 0 0), (.slice none 0 0), (.slice none 0 0), (.slice none 0 0)], 39, true⟩ :: R) w) :
  Calls Tryz.prog 76 #[(.pointer (some ⟨rb, 0, none⟩)), (.agg #[(.int .i64 W), (.int .i64 H), (.slice ad n cap)])] w (Frm (σ := (Nat × Nat × List Value) × (Nat × Nat × List Value) × (Nat × Nat × List Value) × Nat) None w0 (fun x => ([(Value.slice (some ⟨x.2.2.2, 0, none⟩) (n + 5) (n + 5))] ++ x.2.2.1.2.2 : List Value).length = x.2.2.1.2.1 * 1 ∧ ([(Value.slice (some ⟨x.2.1.1, 0, none⟩) (n + 5) x.2.1.2.1)] ++ x.1.2.2 : List Value).length = x.1.2.1 * 1) (fun x => (.agg #[(.int .i64 W), (.int .i64 H), (.slice (some ⟨x.2.2.2, 0, none⟩) n (n + 5))])) (fun x => (⟨x.1.1, [(Value.slice (some ⟨x.2.1.1, 0, none⟩) (n + 5) x.2.1.2.1)] ++ x.1.2.2, 53, true⟩ :: ⟨x.2.1.1, (roomL xs).map u32 ++ x.2.1.2.2, 52, true⟩ :: ⟨x.2.2.1.1, [(Value.slice (some ⟨x.2.2.2, 0, none⟩) (n + 5) (n + 5))] ++ x.2.2.1.2.2, 53, true⟩ :: ⟨x.2.2.2, (roomL xs).map u32, 52, true⟩ :: ⟨rb, [(.slice (some ⟨x.2.2.1.1, 0, none⟩) 1 x.2.2.1.2.1), (.slice (some ⟨x.1.1, 0, none⟩) 1 x.1.2.1), (.slice none 0 0), (.slice none 0 0), (.slice none 0 0), (.slice none 0 0), (.slice none 0 0), (.slice none 0 0)], 39, true⟩ :: R))) := by
 refine enterF (w0 := w0) (M := None) (L := (⟨rb, [nilS, nilS, nilS, nilS, nilS, nilS, nilS, nilS], 39, true⟩ :: R)) (n := 11) (l := [(0, (.pointer (some ⟨rb, 0, none⟩))), (1, (.agg #[(.int .i64 W), (.int .i64 H), (.slice ad n cap)]))]) Tryz.func76 rfl rfl (Args.cons rfl (Args.cons rfl (Args.nil _))) hp0 ?_
 refine GC.seq (GC.region ?_)
 refine GL.step (Stp.box (cs := [(.int .i64 W), (.int .i64 H), (.slice ad n cap)]) rfl rfl (by decide)) (fun bq1 _ => ?_)
 refine GL.step (Stp.alloc T.zr75 (by decide)) (fun bq2 _ => ?_)
 refine GL.nil (GE.thenN (GC.seq (GC.region ?_)))
 refine GL.mv rfl (by decide) ?_
 refine GL.val (v := (.pointer (some ⟨bq1, 2, none⟩))) (Ex.cast (Ex.fieldAddr rfl Tryz.underlying75 rfl T.sz53 (by decide)) rfl) (by decide) ?_
 refine GL.val (Ex.load rfl T.ag53 (i := 1) rfl rfl) (by decide) ?_
 refine GL.step (Stp.call (vs := [(.pointer (some ⟨rb, 0, none⟩)), (.slice ad n cap)]) rfl rfl T.own120 (by decide) (fun wc hw => room_s0 w0 _ rb n cap ad xs wc hs hb (Hp.pickT (A := [⟨bq2, [(.int .i64 0), (.int .i64 0), nilS], 75, true⟩, ⟨bq1, [(.int .i64 W), (.int .i64 H), (.slice ad n cap)], 75, true⟩, ⟨rb, [nilS, nilS, nilS, nilS, nilS, nilS, nilS, nilS], 39, true⟩]) (R := R) hw (idx := [2, 0, 1]) (by decide) rfl))) (fun xq3 hq4 => ?_)
 refine GL.val (v := (.pointer (some ⟨bq1, 2, none⟩))) (Ex.cast (Ex.fieldAddr rfl Tryz.underlying75 rfl T.sz53 (by decide)) rfl) (by decide) ?_
 refine GL.step (Stp.st6 (cs' := [(.int .i64 W), (.int .i64 H), (.slice (some ⟨xq3.2.2.2, 0, none⟩) n (n + 5))]) rfl rfl rfl T.sz53 rfl rfl rfl) (fun _ _ => ?_)
 refine GL.nil (GE.thenN (GC.seq (GC.region ?_)))
 refine GL.val (v := (.agg #[(.int .i64 W), (.int .i64 H), (.slice (some ⟨xq3.2.2.2, 0, none⟩) n (n + 5))])) (Ex.loadA rfl T.ag75 T.sz75 (i := 6) rfl (vs := [(.int .i64 W), (.int .i64 H), (.slice (some ⟨xq3.2.2.2, 0, none⟩) n (n + 5))]) rfl rfl) (by decide) ?_
 refine GL.step (Stp.st5 (cs' := [(.int .i64 W), (.int .i64 H), (.slice (some ⟨xq3.2.2.2, 0, none⟩) n (n + 5))]) rfl rfl rfl T.sz75 rfl rfl rfl) (fun _ _ => ?_)
 refine GL.nil (GE.thenN (GC.ret ?_))
 refine GC.ret1 rfl (Rv.cellA rfl T.ag75 T.sz75 (L := _) (i := 5) rfl (vs := [(.int .i64 W), (.int .i64 H), (.slice (some ⟨xq3.2.2.2, 0, none⟩) n (n + 5))]) rfl rfl) (fun wN HN => ?_)
 exact HN.frm xq3 hq4 (by rfl) (ulC (ulC (ulC (ulC (ulC (ulS (ulS ulR)))))))

theorem room_p1 (w0 : World) (R : List Blk) (W H : Int) (rb n cap : Nat) (ad : Option Addr) (xs : List Int) (n1 b1 c1 b2 c2 : Nat) (xs1 sp1 xs2 sp2 : List Value) (w : World) (hs : Lst w0 ad n xs) (hb : n ≤ 35184372087808) (hn1 : n1 ≤ 4000000000000) (hx1 : xs1.length = n1) (hx2 : xs2.length = n1) (hc1 : (xs1 ++ sp1).length = c1 * 1) (hc2 : (xs2 ++ sp2).length = c2 * 1) (hp0 : Hp None w0 (⟨rb, [(.slice (some ⟨b1, 0, none⟩) n1 c1), (.slice (some ⟨b2, 0, none⟩) n1 c2), (.slice none 0 0), (.slice none 0 0), (.slice none 0 0), (.slice none 0 0), (.slice none 0 0), (.slice none 0 0)], 39, true⟩ :: ⟨b1, xs1 ++ sp1, 53, true⟩ :: ⟨b2, xs2 ++ sp2, 53, true⟩ :: R) w) :
  Calls Tryz.prog 76 #[(.pointer (some ⟨rb, 0, none⟩)), (.agg #[(.int .i64 W), (.int .i64 H), (.slice ad n cap)])] w (Frm (σ := (Nat × Nat × List Value) × (Nat × Nat × List Value) × (Nat × Nat × List Value) × Nat) None w0 (fun x => (xs1 ++ [(Value.slice (some ⟨x.2.2.2, 0, none⟩) (n + 5) (n + 5))] ++ x.2.2.1.2.2 : List Value).length = x.2.2.1.2.1 * 1 ∧ (xs2 ++ [(Value.slice (some ⟨x.2.1.1, 0, none⟩) (n + 5) x.2.1.2.1)] ++ x.1.2.2 : List Value).length = x.1.2.1 * 1) (fun x => (.agg #[(.int .i64 W), (.int .i64 H), (.slice (some ⟨x.2.2.2, 0, none⟩) n (n + 5))])) (fun x => (⟨x.1.1, xs2 ++ [(Value.slice (some ⟨x.2.1.1, 0, none⟩) (n + 5) x.2.1.2.1)] ++ x.1.2.2, 53, true⟩ :: ⟨x.2.1.1, (roomL xs).map u32 ++ x.2.1.2.2, 52, true⟩ :: ⟨x.2.2.1.1, xs1 ++ [(Value.slice (some ⟨x.2.2.2, 0, none⟩) (n + 5) (n + 5))] ++ x.2.2.1.2.2, 53, true⟩ :: ⟨x.2.2.2, (roomL xs).map u32, 52, true⟩ :: ⟨rb, [(.slice (some ⟨x.2.2.1.1, 0, none⟩) (n1 + 1) x.2.2.1.2.1), (.slice (some ⟨x.1.1, 0, none⟩) (n1 + 1) x.1.2.1), (.slice none 0 0), (.slice none 0 0), (.slice none 0 0), (.slice none 0 0), (.slice none 0 0), (.slice none 0 0)], 39, true⟩ :: R))) := by
 refine enterF (w0 := w0) (M := None) (L := (⟨rb, [(.slice (some ⟨b1, 0, none⟩) n1 c1), (.slice (some ⟨b2, 0, none⟩) n1 c2), nilS, nilS, nilS, nilS, nilS, nilS], 39, true⟩ :: ⟨b1, xs1 ++ sp1, 53, true⟩ :: ⟨b2, xs2 ++ sp2, 53, true⟩ :: R)) (n := 11) (l := [(0, (.pointer (some ⟨rb, 0, none⟩))), (1, (.agg #[(.int .i64 W), (.int .i64 H), (.slice ad n cap)]))]) Tryz.func76 rfl rfl (Args.cons rfl (Args.cons rfl (Args.nil _))) hp0 ?_
 refine GC.seq (GC.region ?_)
 refine GL.step (Stp.box (cs := [(.int .i64 W), (.int .i64 H), (.slice ad n cap)]) rfl rfl (by decide)) (fun bq1 _ => ?_)
 refine GL.step (Stp.alloc T.zr75 (by decide)) (fun bq2 _ => ?_)
 refine GL.nil (GE.thenN (GC.seq (GC.region ?_)))
 refine GL.mv rfl (by decide) ?_
 refine GL.val (v := (.pointer (some ⟨bq1, 2, none⟩))) (Ex.cast (Ex.fieldAddr rfl Tryz.underlying75 rfl T.sz53 (by decide)) rfl) (by decide) ?_
 refine GL.val (Ex.load rfl T.ag53 (i := 1) rfl rfl) (by decide) ?_
 refine GL.step (Stp.call (vs := [(.pointer (some ⟨rb, 0, none⟩)), (.slice ad n cap)]) rfl rfl T.own120 (by decide) (fun wc hw => room_s1 w0 _ rb n cap ad xs n1 b1 c1 b2 c2 xs1 sp1 xs2 sp2 wc hs hb (by first | decide | omega) (by first | rfl | omega) (by first | rfl | omega) hc1 hc2 (Hp.pickT (A := [⟨bq2, [(.int .i64 0), (.int .i64 0), nilS], 75, true⟩, ⟨bq1, [(.int .i64 W), (.int .i64 H), (.slice ad n cap)], 75, true⟩, ⟨rb, [(.slice (some ⟨b1, 0, none⟩) n1 c1), (.slice (some ⟨b2, 0, none⟩) n1 c2), nilS, nilS, nilS, nilS, nilS, nilS], 39, true⟩, ⟨b1, xs1 ++ sp1, 53, true⟩, ⟨b2, xs2 ++ sp2, 53, true⟩]) (R := R) hw (idx := [2, 3, 4, 0, 1]) (by decide) rfl))) (fun xq3 hq4 => ?_)
 refine GL.val (v := (.pointer (some ⟨bq1, 2, none⟩))) (Ex.cast (Ex.fieldAddr rfl Tryz.underlying75 rfl T.sz53 (by decide)) rfl) (by decide) ?_
 refine GL.step (Stp.st6 (cs' := [(.int .i64 W), (.int .i64 H), (.slice (some ⟨xq3.2.2.2, 0, none⟩) n (n + 5))]) rfl rfl rfl T.sz53 rfl rfl rfl) (fun _ _ => ?_)
 refine GL.nil (GE.thenN (GC.seq (GC.region ?_)))
 refine GL.val (v := (.agg #[(.int .i64 W), (.int .i64 H), (.slice (some ⟨xq3.2.2.2, 0, none⟩) n (n + 5))])) (Ex.loadA rfl T.ag75 T.sz75 (i := 6) rfl (vs := [(.int .i64 W), (.int .i64 H), (.slice (some ⟨xq3.2.2.2, 0, none⟩) n (n + 5))]) rfl rfl) (by decide) ?_
 refine GL.step (Stp.st5 (cs' := [(.int .i64 W), (.int .i64 H), (.slice (some ⟨xq3.2.2.2, 0, none⟩) n (n + 5))]) rfl rfl rfl T.sz75 rfl rfl rfl) (fun _ _ => ?_)
 refine GL.nil (GE.thenN (GC.ret ?_))
 refine GC.ret1 rfl (Rv.cellA rfl T.ag75 T.sz75 (L := _) (i := 5) rfl (vs := [(.int .i64 W), (.int .i64 H), (.slice (some ⟨xq3.2.2.2, 0, none⟩) n (n + 5))]) rfl rfl) (fun wN HN => ?_)
 exact HN.frm xq3 hq4 (by rfl) (ulC (ulC (ulC (ulC (ulC (ulS (ulS ulR)))))))

theorem book_hold (kb n1 b1 c1 b2 c2 : Nat) (its : List It) (sp1 sp2 : List Value) (w : World) (hn1 : its.length = n1) (hn2 : n1 ≤ 4000000000000) (hit : ∀ t ∈ its, It.Ok w t) (hh : Has w [⟨kb, [(.slice (some ⟨b1, 0, none⟩) n1 c1), (.slice none 0 0), (.slice none 0 0), (.slice none 0 0), (.slice (some ⟨b2, 0, none⟩) n1 c2), (.slice none 0 0), (.slice none 0 0), (.slice none 0 0)], 36, false⟩, ⟨b1, its.map It.v ++ sp1, 53, false⟩, ⟨b2, its.map It.mv ++ sp2, 3, false⟩]) :
  Calls Tryz.prog 15 #[(.pointer (some ⟨kb, 0, none⟩))] w (Ret w (fun _ : Unit => True) (fun _ => .bool true) (fun _ => [])) := by
 refine enter (M := None) (L := [⟨kb, [(.slice (some ⟨b1, 0, none⟩) n1 c1), nilS, nilS, nilS, (.slice (some ⟨b2, 0, none⟩) n1 c2), nilS, nilS, nilS], 36, false⟩, ⟨b1, its.map It.v ++ sp1, 53, false⟩, ⟨b2, its.map It.mv ++ sp2, 3, false⟩]) (n := 182) (l := [(0, (.pointer (some ⟨kb, 0, none⟩)))]) Tryz.func15 rfl rfl (Args.cons rfl (Args.nil _)) (Hp.reads hh rfl) ?_
 refine GC.seq (GC.region ?_)
 refine GL.sg rfl (by decide) ?_
 refine GL.nil (GE.thenN (GC.seq (GC.seq (GC.region ?_))))
 refine GL.sg rfl (by decide) ?_
 refine GL.nil (GE.thenN (GC.block ?_))
 refine GC.loop (σ := Nat) (fun n => n ≤ n1) (fun n => [(0, (.pointer (some ⟨kb, 0, none⟩))), (3, (.int .i64 (((n : Nat) : Int))))]) (fun n => [⟨kb, [(.slice (some ⟨b1, 0, none⟩) n1 c1), nilS, nilS, nilS, (.slice (some ⟨b2, 0, none⟩) n1 c2), nilS, nilS, nilS], 36, false⟩, ⟨b1, its.map It.v ++ sp1, 53, false⟩, ⟨b2, its.map It.mv ++ sp2, 3, false⟩]) (fun n => n1 - n) (0) (Nat.zero_le _) ((sub_cons rfl ((sub_cons rfl ((sub_nil _)))))) (ulC (ulC (ulC ulN))) (fun n hp => ?_)
 refine GC.seq (GC.seq (GC.region ?_))
 refine GL.mv rfl (by decide) ?_
 refine GL.mv rfl (by decide) ?_
 refine GL.val (v := (.pointer (some ⟨kb, 0, none⟩))) (Ex.nilCheck rfl) (by decide) ?_
 refine GL.val (v := (.pointer (some ⟨kb, 0, none⟩))) (Ex.cast (Ex.fieldAddr rfl Tryz.underlying36 rfl T.sz29 (by decide)) rfl) (by decide) ?_
 refine GL.val (Ex.load rfl T.ag29 (i := 0) rfl rfl) (by decide) ?_
 refine GL.val (v := (.int .i64 ((n1 : Int)))) (Ex.len rfl Tryz.underlying29) (by decide) ?_
 refine GL.val (v := (.bool (decide ((((n : Nat) : Int)) < ((n1 : Int)))))) (Ex.lss rfl rfl) (by decide) ?_
 refine GL.nil (GE.thenN ?_)
 refine GC.cond rfl (fun hq1 => ?_) (fun hq1 => ?_)
 ·replace hq1 := of_decide_eq_true hq1
  refine GC.skip (GE.thenN (GC.seq (GC.block (GC.seq ?_))))
  have hnl : n < its.length := by omega
  have hio := it_ok hnl hit
  refine GC.region ?_
  refine GL.sg rfl (by decide) ?_
  refine GL.nil (GE.thenN (GC.block ?_))
  refine GC.loop (σ := Nat) (fun k => k ≤ (itAt its n).cap) (fun k => [(0, (.pointer (some ⟨kb, 0, none⟩))), (3, (.int .i64 (((n : Nat) : Int)))), (4, (.int .i64 (((k : Nat) : Int))))]) (fun k => [⟨kb, [(.slice (some ⟨b1, 0, none⟩) n1 c1), nilS, nilS, nilS, (.slice (some ⟨b2, 0, none⟩) n1 c2), nilS, nilS, nilS], 36, false⟩, ⟨b1, its.map It.v ++ sp1, 53, false⟩, ⟨b2, its.map It.mv ++ sp2, 3, false⟩]) (fun k => (itAt its n).cap - k) (0) (Nat.zero_le _) ((sub_cons rfl ((sub_cons rfl ((sub_cons rfl ((sub_nil _)))))))) (ulC (ulC (ulC ulN))) (fun k hp => ?_)
  refine GC.seq (GC.seq (GC.region ?_))
  refine GL.mv rfl (by decide) ?_
  refine GL.mv rfl (by decide) ?_
  refine GL.val (v := (.pointer (some ⟨kb, 0, none⟩))) (Ex.nilCheck rfl) (by decide) ?_
  refine GL.val (v := (.pointer (some ⟨kb, 0, none⟩))) (Ex.cast (Ex.fieldAddr rfl Tryz.underlying36 rfl T.sz29 (by decide)) rfl) (by decide) ?_
  refine GL.val (Ex.load rfl T.ag29 (i := 0) rfl rfl) (by decide) ?_
  refine GL.mv rfl (by decide) ?_
  refine GL.val (v := (.pointer (some ⟨b1, n, none⟩))) (Ex.cast (Ex.indexAddr rfl rfl Tryz.underlying29 T.sz53 (by omega) (by omega)) (by simp)) (by decide) ?_
  refine GL.val (Ex.load rfl T.ag53 (i := 1) rfl (it_at hnl sp1)) (by decide) ?_
  refine GL.val (v := (.int .i64 ((((itAt its n).cap) : Int)))) (Ex.len rfl Tryz.underlying53) (by decide) ?_
  refine GL.val (v := (.bool (decide ((((k : Nat) : Int)) < ((((itAt its n).cap) : Int)))))) (Ex.lss rfl rfl) (by decide) ?_
  refine GL.nil (GE.thenN ?_)
  refine GC.cond rfl (fun hq2 => ?_) (fun hq2 => ?_)
  ·replace hq2 := of_decide_eq_true hq2
   refine GC.skip (GE.thenN (GC.seq (GC.block (GC.seq ?_))))
   obtain ⟨bi, hbi, hri⟩ := hio.2.resolve_left (by omega)
   refine GC.draw [⟨kb, [(.slice (some ⟨b1, 0, none⟩) n1 c1), nilS, nilS, nilS, (.slice (some ⟨b2, 0, none⟩) n1 c2), nilS, nilS, nilS], 36, false⟩, ⟨b1, its.map It.v ++ sp1, 53, false⟩, ⟨b2, its.map It.mv ++ sp2, 3, false⟩] T.mixed (fuel := 22) rfl rfl ?_
   refine GH.tk 0 (v := (.pointer (some ⟨kb, 0, none⟩))) rfl (by kernel_rfl) (fun _ _ _ h => h) (Ex.move rfl) (ulC (ulC (ulC ulN))) (by decide) ?_
   refine GH.tk 4 (v := (.int .i64 (((n : Nat) : Int)))) rfl (by kernel_rfl) (fun _ _ _ h => h) (Ex.move rfl) (ulC (ulC (ulC ulN))) (by decide) ?_
   refine GH.tk 7 (v := (.int .i64 (((k : Nat) : Int)))) rfl (by kernel_rfl) (fun _ _ _ h => h) (Ex.move rfl) (ulC (ulC (ulC ulN))) (by decide) ?_
   refine GH.tk 10 (v := (.pointer (some ⟨kb, 0, none⟩))) rfl (by kernel_rfl) (fun _ _ _ h => h) (Ex.move rfl) (ulC (ulC (ulC ulN))) (by decide) ?_
   refine GH.tk 15 (v := (.int .i64 (((n : Nat) : Int)))) rfl (by kernel_rfl) (fun _ _ _ h => h) (Ex.move rfl) (ulC (ulC (ulC ulN))) (by decide) ?_
   refine GH.tk 18 (v := (.int .i64 (((k : Nat) : Int)))) rfl (by kernel_rfl) (fun _ _ _ h => h) (Ex.move rfl) (ulC (ulC (ulC ulN))) (by decide) ?_
   refine GH.many (rs := [1, 11]) (by kernel_rfl) (by simp) ?_
   refine GHs.cons rfl (Ex.wp (v := (.pointer (some ⟨kb, 0, none⟩))) (Ex.nilCheck rfl) (by decide)) (fun _ => (ulC (ulC (ulC ulN)))) (fun _ _ => ?_) ?_
   ·refine GH.tk 2 (v := (.pointer (some ⟨kb, 0, none⟩))) rfl (by kernel_rfl) (fun _ _ _ h => h) (Ex.cast (Ex.fieldAddr rfl Tryz.underlying36 rfl T.sz29 (by decide)) rfl) (ulC (ulC (ulC ulN))) (by decide) ?_
    refine GH.tk 3 (v := (.slice (some ⟨b1, 0, none⟩) n1 c1)) rfl (by kernel_rfl) (fun _ _ _ h => h) (Ex.load rfl T.ag29 (i := 0) rfl rfl) (ulC (ulC (ulC ulN))) (by decide) ?_
    refine GH.tk 5 (v := (.pointer (some ⟨b1, n, none⟩))) rfl (by kernel_rfl) (fun _ _ _ h => h) (Ex.cast (Ex.indexAddr rfl rfl Tryz.underlying29 T.sz53 (by omega) (by omega)) (by simp)) (ulC (ulC (ulC ulN))) (by decide) ?_
    refine GH.tk 6 (v := (.slice (some ⟨bi, 0, none⟩) ((itAt its n).cap) ((itAt its n).cap))) rfl (by kernel_rfl) (fun _ _ _ h => h) (Ex.load rfl T.ag53 (i := 1) rfl (by rw [← hbi]; exact it_at hnl sp1)) (ulC (ulC (ulC ulN))) (by decide) ?_
    refine GH.tk 8 (v := (.pointer (some ⟨bi, k, none⟩))) rfl (by kernel_rfl) (fun _ _ _ h => h) (Ex.cast (Ex.indexAddr rfl rfl Tryz.underlying53 T.sz52 (by omega) (by omega)) (by simp)) (ulC (ulC (ulC ulN))) (by decide) ?_
    refine GH.tk 9 (v := (.int .u32 (mk (itAt its n).m k))) rfl (by kernel_rfl) (fun _ _ _ h => h) (Ex.loadO rfl T.ag52 (Rd.mkat hri (by omega)) (fun x => x)) (ulC (ulC (ulC ulN))) (by decide) ?_
    refine GH.one 11 rfl (by kernel_rfl) (Ex.wp (v := (.pointer (some ⟨kb, 0, none⟩))) (Ex.nilCheck rfl) (by decide)) (fun _ => (ulC (ulC (ulC ulN)))) (fun _ _ => ?_)
    refine GH.tk 12 (v := (.pointer (some ⟨kb, 4, none⟩))) rfl (by kernel_rfl) (fun _ _ _ h => h) (Ex.cast (Ex.fieldAddr rfl Tryz.underlying36 rfl T.sz34 (by decide)) rfl) (ulC (ulC (ulC ulN))) (by decide) ?_
    refine GH.tk 13 (v := (.pointer (some ⟨kb, 4, none⟩))) rfl (by kernel_rfl) (fun _ _ _ h => h) (Ex.cast (Ex.indexArr (m := 4) rfl rfl Tryz.underlying34 T.sz33 (by decide) (by decide)) rfl) (ulC (ulC (ulC ulN))) (by decide) ?_
    refine GH.tk 14 (v := (.slice (some ⟨b2, 0, none⟩) n1 c2)) rfl (by kernel_rfl) (fun _ _ _ h => h) (Ex.load rfl T.ag33 (i := 0) rfl rfl) (ulC (ulC (ulC ulN))) (by decide) ?_
    refine GH.tk 16 (v := (.pointer (some ⟨b2, n, none⟩))) rfl (by kernel_rfl) (fun _ _ _ h => h) (Ex.cast (Ex.indexAddr rfl rfl Tryz.underlying33 T.sz3 (by omega) (by omega)) (by simp)) (ulC (ulC (ulC ulN))) (by decide) ?_
    refine GH.tk 17 (v := (.int .i64 ((itAt its n).m))) rfl (by kernel_rfl) (fun _ _ _ h => h) (Ex.load rfl T.ag3 (i := 2) rfl (it_mv hnl sp2)) (ulC (ulC (ulC ulN))) (by decide) ?_
    refine GH.one 19 rfl (by kernel_rfl) (Stp.callR (vs := [(.int .i64 ((itAt its n).m)), (.int .i64 (((k : Nat) : Int)))]) rfl rfl T.own55 (by decide) (fun wc hw => bkmark ((itAt its n).m) (((k : Nat) : Int)) wc)) (fun _ => (ulC (ulC (ulC ulN)))) (fun xq3 hq4 => ?_)
    refine GH.tk 20 (v := (.int .u32 (mk (itAt its n).m k))) rfl (by kernel_rfl) (fun _ _ _ h => h) (Ex.conv rfl Tryz.underlying3 Tryz.underlying52 (Z := mk (itAt its n).m k) (by rw [wu32]; rfl)) (ulC (ulC (ulC ulN))) (by decide) ?_
    refine GH.tk 21 (v := (.bool false)) rfl (by kernel_rfl) (fun _ _ _ h => h) (Ex.cast (Ex.neq rfl rfl) (congrArg Value.bool (decide_eq_false (by simp)))) (ulC (ulC (ulC ulN))) (by decide) ?_
    refine GH.done (by kernel_rfl) ?_
    refine GE.thenN ?_
    refine GC.cond rfl (fun hq5 => by cases hq5) (fun _ => ?_)
    refine GC.skip (GE.blockN (GE.thenN (GC.region ?_)))
    refine GL.mv rfl (by decide) ?_
    refine GL.val (v := (.int .i64 (((k + 1 : Nat) : Int)))) (Ex.add rfl rfl (Z := ((k + 1 : Nat) : Int)) (by rw [w64 (by have := hio.1; omega)]; rfl)) (by decide) ?_
    refine GL.sg rfl (by decide) ?_
    refine GL.nil (GE.thenN ?_)
    exact Head.mk (k + 1) (by omega) (by omega) ((sub_cons rfl ((sub_cons rfl ((sub_cons rfl ((sub_nil _)))))))) (ulC (ulC (ulC ulN)))
   refine GHs.cons rfl (Ex.wp (v := (.pointer (some ⟨kb, 0, none⟩))) (Ex.nilCheck rfl) (by decide)) (fun _ => (ulC (ulC (ulC ulN)))) (fun _ _ => ?_) ?_
   ·refine GH.tk 12 (v := (.pointer (some ⟨kb, 4, none⟩))) rfl (by kernel_rfl) (fun _ _ _ h => h) (Ex.cast (Ex.fieldAddr rfl Tryz.underlying36 rfl T.sz34 (by decide)) rfl) (ulC (ulC (ulC ulN))) (by decide) ?_
    refine GH.tk 13 (v := (.pointer (some ⟨kb, 4, none⟩))) rfl (by kernel_rfl) (fun _ _ _ h => h) (Ex.cast (Ex.indexArr (m := 4) rfl rfl Tryz.underlying34 T.sz33 (by decide) (by decide)) rfl) (ulC (ulC (ulC ulN))) (by decide) ?_
    refine GH.tk 14 (v := (.slice (some ⟨b2, 0, none⟩) n1 c2)) rfl (by kernel_rfl) (fun _ _ _ h => h) (Ex.load rfl T.ag33 (i := 0) rfl rfl) (ulC (ulC (ulC ulN))) (by decide) ?_
    refine GH.tk 16 (v := (.pointer (some ⟨b2, n, none⟩))) rfl (by kernel_rfl) (fun _ _ _ h => h) (Ex.cast (Ex.indexAddr rfl rfl Tryz.underlying33 T.sz3 (by omega) (by omega)) (by simp)) (ulC (ulC (ulC ulN))) (by decide) ?_
    refine GH.tk 17 (v := (.int .i64 ((itAt its n).m))) rfl (by kernel_rfl) (fun _ _ _ h => h) (Ex.load rfl T.ag3 (i := 2) rfl (it_mv hnl sp2)) (ulC (ulC (ulC ulN))) (by decide) ?_
    refine GH.many (rs := [1, 19]) (by kernel_rfl) (by simp) ?_
    refine GHs.cons rfl (Ex.wp (v := (.pointer (some ⟨kb, 0, none⟩))) (Ex.nilCheck rfl) (by decide)) (fun _ => (ulC (ulC (ulC ulN)))) (fun _ _ => ?_) ?_
    ·refine GH.tk 2 (v := (.pointer (some ⟨kb, 0, none⟩))) rfl (by kernel_rfl) (fun _ _ _ h => h) (Ex.cast (Ex.fieldAddr rfl Tryz.underlying36 rfl T.sz29 (by decide)) rfl) (ulC (ulC (ulC ulN))) (by decide) ?_
     refine GH.tk 3 (v := (.slice (some ⟨b1, 0, none⟩) n1 c1)) rfl (by kernel_rfl) (fun _ _ _ h => h) (Ex.load rfl T.ag29 (i := 0) rfl rfl) (ulC (ulC (ulC ulN))) (by decide) ?_
     refine GH.tk 5 (v := (.pointer (some ⟨b1, n, none⟩))) rfl (by kernel_rfl) (fun _ _ _ h => h) (Ex.cast (Ex.indexAddr rfl rfl Tryz.underlying29 T.sz53 (by omega) (by omega)) (by simp)) (ulC (ulC (ulC ulN))) (by decide) ?_
     refine GH.tk 6 (v := (.slice (some ⟨bi, 0, none⟩) ((itAt its n).cap) ((itAt its n).cap))) rfl (by kernel_rfl) (fun _ _ _ h => h) (Ex.load rfl T.ag53 (i := 1) rfl (by rw [← hbi]; exact it_at hnl sp1)) (ulC (ulC (ulC ulN))) (by decide) ?_
     refine GH.tk 8 (v := (.pointer (some ⟨bi, k, none⟩))) rfl (by kernel_rfl) (fun _ _ _ h => h) (Ex.cast (Ex.indexAddr rfl rfl Tryz.underlying53 T.sz52 (by omega) (by omega)) (by simp)) (ulC (ulC (ulC ulN))) (by decide) ?_
     refine GH.tk 9 (v := (.int .u32 (mk (itAt its n).m k))) rfl (by kernel_rfl) (fun _ _ _ h => h) (Ex.loadO rfl T.ag52 (Rd.mkat hri (by omega)) (fun x => x)) (ulC (ulC (ulC ulN))) (by decide) ?_
     refine GH.one 19 rfl (by kernel_rfl) (Stp.callR (vs := [(.int .i64 ((itAt its n).m)), (.int .i64 (((k : Nat) : Int)))]) rfl rfl T.own55 (by decide) (fun wc hw => bkmark ((itAt its n).m) (((k : Nat) : Int)) wc)) (fun _ => (ulC (ulC (ulC ulN)))) (fun xq6 hq7 => ?_)
     refine GH.tk 20 (v := (.int .u32 (mk (itAt its n).m k))) rfl (by kernel_rfl) (fun _ _ _ h => h) (Ex.conv rfl Tryz.underlying3 Tryz.underlying52 (Z := mk (itAt its n).m k) (by rw [wu32]; rfl)) (ulC (ulC (ulC ulN))) (by decide) ?_
     refine GH.tk 21 (v := (.bool false)) rfl (by kernel_rfl) (fun _ _ _ h => h) (Ex.cast (Ex.neq rfl rfl) (congrArg Value.bool (decide_eq_false (by simp)))) (ulC (ulC (ulC ulN))) (by decide) ?_
     refine GH.done (by kernel_rfl) ?_
     refine GE.thenN ?_
     refine GC.cond rfl (fun hq8 => by cases hq8) (fun _ => ?_)
     refine GC.skip (GE.blockN (GE.thenN (GC.region ?_)))
     refine GL.mv rfl (by decide) ?_
     refine GL.val (v := (.int .i64 (((k + 1 : Nat) : Int)))) (Ex.add rfl rfl (Z := ((k + 1 : Nat) : Int)) (by rw [w64 (by have := hio.1; omega)]; rfl)) (by decide) ?_
     refine GL.sg rfl (by decide) ?_
     refine GL.nil (GE.thenN ?_)
     exact Head.mk (k + 1) (by omega) (by omega) ((sub_cons rfl ((sub_cons rfl ((sub_cons rfl ((sub_nil _)))))))) (ulC (ulC (ulC ulN)))
    refine GHs.cons rfl (Stp.callR (vs := [(.int .i64 ((itAt its n).m)), (.int .i64 (((k : Nat) : Int)))]) rfl rfl T.own55 (by decide) (fun wc hw => bkmark ((itAt its n).m) (((k : Nat) : Int)) wc)) (fun _ => (ulC (ulC (ulC ulN)))) (fun xq9 hq10 => ?_) ?_
    ·refine GH.tk 20 (v := (.int .u32 (mk (itAt its n).m k))) rfl (by kernel_rfl) (fun _ _ _ h => h) (Ex.conv rfl Tryz.underlying3 Tryz.underlying52 (Z := mk (itAt its n).m k) (by rw [wu32]; rfl)) (ulC (ulC (ulC ulN))) (by decide) ?_
     refine GH.one 1 rfl (by kernel_rfl) (Ex.wp (v := (.pointer (some ⟨kb, 0, none⟩))) (Ex.nilCheck rfl) (by decide)) (fun _ => (ulC (ulC (ulC ulN)))) (fun _ _ => ?_)
     refine GH.tk 2 (v := (.pointer (some ⟨kb, 0, none⟩))) rfl (by kernel_rfl) (fun _ _ _ h => h) (Ex.cast (Ex.fieldAddr rfl Tryz.underlying36 rfl T.sz29 (by decide)) rfl) (ulC (ulC (ulC ulN))) (by decide) ?_
     refine GH.tk 3 (v := (.slice (some ⟨b1, 0, none⟩) n1 c1)) rfl (by kernel_rfl) (fun _ _ _ h => h) (Ex.load rfl T.ag29 (i := 0) rfl rfl) (ulC (ulC (ulC ulN))) (by decide) ?_
     refine GH.tk 5 (v := (.pointer (some ⟨b1, n, none⟩))) rfl (by kernel_rfl) (fun _ _ _ h => h) (Ex.cast (Ex.indexAddr rfl rfl Tryz.underlying29 T.sz53 (by omega) (by omega)) (by simp)) (ulC (ulC (ulC ulN))) (by decide) ?_
     refine GH.tk 6 (v := (.slice (some ⟨bi, 0, none⟩) ((itAt its n).cap) ((itAt its n).cap))) rfl (by kernel_rfl) (fun _ _ _ h => h) (Ex.load rfl T.ag53 (i := 1) rfl (by rw [← hbi]; exact it_at hnl sp1)) (ulC (ulC (ulC ulN))) (by decide) ?_
     refine GH.tk 8 (v := (.pointer (some ⟨bi, k, none⟩))) rfl (by kernel_rfl) (fun _ _ _ h => h) (Ex.cast (Ex.indexAddr rfl rfl Tryz.underlying53 T.sz52 (by omega) (by omega)) (by simp)) (ulC (ulC (ulC ulN))) (by decide) ?_
     refine GH.tk 9 (v := (.int .u32 (mk (itAt its n).m k))) rfl (by kernel_rfl) (fun _ _ _ h => h) (Ex.loadO rfl T.ag52 (Rd.mkat hri (by omega)) (fun x => x)) (ulC (ulC (ulC ulN))) (by decide) ?_
     refine GH.tk 21 (v := (.bool false)) rfl (by kernel_rfl) (fun _ _ _ h => h) (Ex.cast (Ex.neq rfl rfl) (congrArg Value.bool (decide_eq_false (by simp)))) (ulC (ulC (ulC ulN))) (by decide) ?_
     refine GH.done (by kernel_rfl) ?_
     refine GE.thenN ?_
     refine GC.cond rfl (fun hq11 => by cases hq11) (fun _ => ?_)
     refine GC.skip (GE.blockN (GE.thenN (GC.region ?_)))
     refine GL.mv rfl (by decide) ?_
     refine GL.val (v := (.int .i64 (((k + 1 : Nat) : Int)))) (Ex.add rfl rfl (Z := ((k + 1 : Nat) : Int)) (by rw [w64 (by have := hio.1; omega)]; rfl)) (by decide) ?_
     refine GL.sg rfl (by decide) ?_
     refine GL.nil (GE.thenN ?_)
     exact Head.mk (k + 1) (by omega) (by omega) ((sub_cons rfl ((sub_cons rfl ((sub_cons rfl ((sub_nil _)))))))) (ulC (ulC (ulC ulN)))
    exact GHs.nil
   exact GHs.nil
  ·replace hq2 := of_decide_eq_false hq2
   refine GC.exit (GE.thenE (GE.thenE (GE.blockE (GE.blockN (GE.thenN (GC.region ?_))))))
   refine GL.mv rfl (by decide) ?_
   refine GL.val (v := (.int .i64 (((n + 1 : Nat) : Int)))) (Ex.add rfl rfl (Z := ((n + 1 : Nat) : Int)) (by rw [w64 (by omega)]; rfl)) (by decide) ?_
   refine GL.sg rfl (by decide) ?_
   refine GL.nil (GE.thenN ?_)
   exact Head.mk (n + 1) (by omega) (by omega) ((sub_cons rfl ((sub_cons rfl ((sub_nil _)))))) (ulC (ulC (ulC ulN)))
 ·replace hq1 := of_decide_eq_false hq1
  refine GC.exit (GE.thenE (GE.thenE (GE.blockE (GE.thenN (GC.seq (GC.seq (GC.region ?_)))))))
  refine GL.sg rfl (by decide) ?_
  refine GL.nil (GE.thenN (GC.block ?_))
  refine GC.unroll 1 ?_
  refine GE.round (GC.seq (GC.seq (GC.region ?_)))
  refine GL.mv rfl (by decide) ?_
  refine GL.mv rfl (by decide) ?_
  refine GL.val (v := (.pointer (some ⟨kb, 0, none⟩))) (Ex.nilCheck rfl) (by decide) ?_
  refine GL.val (v := (.pointer (some ⟨kb, 1, none⟩))) (Ex.cast (Ex.fieldAddr rfl Tryz.underlying36 rfl T.sz30 (by decide)) rfl) (by decide) ?_
  refine GL.val (Ex.load rfl T.ag30 (i := 0) rfl rfl) (by decide) ?_
  refine GL.val (v := (.int .i64 0)) (Ex.len rfl Tryz.underlying30) (by decide) ?_
  refine GL.val (v := (.bool false)) (Ex.cast (Ex.lss rfl rfl) rfl) (by decide) ?_
  refine GL.nil (GE.thenN ?_)
  refine GC.cond rfl (fun hq12 => by cases hq12) (fun _ => ?_)
  refine GC.exit (GE.thenE (GE.thenE (GE.blockE (GE.thenN (GC.seq (GC.seq (GC.region ?_)))))))
  refine GL.sg rfl (by decide) ?_
  refine GL.nil (GE.thenN (GC.block ?_))
  refine GC.unroll 1 ?_
  refine GE.round (GC.seq (GC.seq (GC.region ?_)))
  refine GL.mv rfl (by decide) ?_
  refine GL.mv rfl (by decide) ?_
  refine GL.val (v := (.pointer (some ⟨kb, 0, none⟩))) (Ex.nilCheck rfl) (by decide) ?_
  refine GL.val (v := (.pointer (some ⟨kb, 2, none⟩))) (Ex.cast (Ex.fieldAddr rfl Tryz.underlying36 rfl T.sz31 (by decide)) rfl) (by decide) ?_
  refine GL.val (Ex.load rfl T.ag31 (i := 0) rfl rfl) (by decide) ?_
  refine GL.val (v := (.int .i64 0)) (Ex.len rfl Tryz.underlying31) (by decide) ?_
  refine GL.val (v := (.bool false)) (Ex.cast (Ex.lss rfl rfl) rfl) (by decide) ?_
  refine GL.nil (GE.thenN ?_)
  refine GC.cond rfl (fun hq13 => by cases hq13) (fun _ => ?_)
  refine GC.exit (GE.thenE (GE.thenE (GE.blockE (GE.thenN (GC.seq (GC.seq (GC.region ?_)))))))
  refine GL.sg rfl (by decide) ?_
  refine GL.nil (GE.thenN (GC.block ?_))
  refine GC.unroll 1 ?_
  refine GE.round (GC.seq (GC.seq (GC.region ?_)))
  refine GL.mv rfl (by decide) ?_
  refine GL.mv rfl (by decide) ?_
  refine GL.val (v := (.pointer (some ⟨kb, 0, none⟩))) (Ex.nilCheck rfl) (by decide) ?_
  refine GL.val (v := (.pointer (some ⟨kb, 3, none⟩))) (Ex.cast (Ex.fieldAddr rfl Tryz.underlying36 rfl T.sz32 (by decide)) rfl) (by decide) ?_
  refine GL.val (Ex.load rfl T.ag32 (i := 0) rfl rfl) (by decide) ?_
  refine GL.val (v := (.int .i64 0)) (Ex.len rfl Tryz.underlying32) (by decide) ?_
  refine GL.val (v := (.bool false)) (Ex.cast (Ex.lss rfl rfl) rfl) (by decide) ?_
  refine GL.nil (GE.thenN ?_)
  refine GC.cond rfl (fun hq14 => by cases hq14) (fun _ => ?_)
  refine GC.exit (GE.thenE (GE.thenE (GE.blockE (GE.thenN (GC.seq (GC.region ?_))))))
  refine GL.sg rfl (by decide) ?_
  refine GL.nil (GE.thenN (GC.ret ?_))
  refine GC.ret1 rfl (Rv.tmp rfl) (fun wN HN => ?_)
  exact HN.ret () trivial rfl (List.nil_sublist _) rfl

theorem rm_plane (w0 : World) (R : List Blk) (rb0 : Nat) (W H : Int) (r : Rm) (n cap : Nat) (ad : Option Addr) (xs : List Int) (w : World) (hs : Lst w0 ad n xs) (hb : n ≤ 35184372087808) (hr : r.Ok) (hl : r.its.length ≤ 4000000000000) (h0 : r.rb = rb0) (hp0 : Hp None w0 (r.blks 39 53 52 ++ R) w) :
  Calls Tryz.prog 76 #[(.pointer (some ⟨rb0, 0, none⟩)), .agg #[.int .i64 W, .int .i64 H, .slice ad n cap]] w
   (Frm (σ := Rm × RIt) None w0 (fun x => x.1.Ok ∧ x.1.rb = rb0 ∧ x.1.its = r.its ++ [x.2] ∧ x.2.xs = xs ∧ x.2.n = n) (fun x => .agg #[.int .i64 W, .int .i64 H, .slice (some ⟨x.2.a, 0, none⟩) n (n + 5)]) (fun x => x.1.blks 39 53 52 ++ R)) := by
 subst h0
 obtain ⟨rb, its, b1, c1, s1, b2, c2, s2⟩ := r
 cases its with
 | nil =>
  refine (room_p0 w0 R W H rb n cap ad xs w hs hb hp0).mono fun e w' ⟨x, he, hp, h⟩ => ?_
  refine ⟨(⟨rb, [⟨x.2.2.2, n, xs, x.2.1.1, x.2.1.2.1, x.2.1.2.2⟩], x.2.2.1.1, x.2.2.1.2.1, x.2.2.1.2.2, x.1.1, x.1.2.1, x.1.2.2⟩, ⟨x.2.2.2, n, xs, x.2.1.1, x.2.1.2.1, x.2.1.2.2⟩), he, ⟨⟨Or.inr ⟨hp.1, hp.2⟩, fun t ht => ?_⟩, rfl, rfl, rfl, rfl⟩, ?_⟩
  ·rw [List.mem_singleton.1 ht]; exact ⟨hs.1, hb⟩
  ·have h2 := Hp.pickT (A := [_, _, _, _, _]) (R := R) (idx := [4, 2, 0, 1, 3]) h (by decide) rfl
   exact h2
 | cons t0 its =>
  have hc := hr.1.resolve_left (fun h => by cases h)
  have hl' : (t0 :: its).length ≤ 4000000000000 := hl
  have h0 : Hp None w0 (⟨rb, [.slice (some ⟨b1, 0, none⟩) (t0 :: its).length c1, .slice (some ⟨b2, 0, none⟩) (t0 :: its).length c2, .slice none 0 0, .slice none 0 0, .slice none 0 0, .slice none 0 0, .slice none 0 0, .slice none 0 0], 39, true⟩ :: ⟨b1, (t0 :: its).map RIt.v1 ++ s1, 53, true⟩ :: ⟨b2, (t0 :: its).map RIt.v2 ++ s2, 53, true⟩ :: (rblks 52 (t0 :: its) ++ R)) w := by
   have h1 := hp0
   unfold Rm.blks at h1
   rw [List.cons_append, List.append_assoc] at h1
   exact h1
  refine (room_p1 w0 (rblks 52 (t0 :: its) ++ R) W H rb n cap ad xs (t0 :: its).length b1 c1 b2 c2 ((t0 :: its).map RIt.v1) s1 ((t0 :: its).map RIt.v2) s2 w hs hb hl' (List.length_map _) (List.length_map _) hc.1 hc.2 h0).mono fun e w' ⟨x, he, hp, h⟩ => ?_
  refine ⟨(⟨rb, (t0 :: its) ++ [⟨x.2.2.2, n, xs, x.2.1.1, x.2.1.2.1, x.2.1.2.2⟩], x.2.2.1.1, x.2.2.1.2.1, x.2.2.1.2.2, x.1.1, x.1.2.1, x.1.2.2⟩, ⟨x.2.2.2, n, xs, x.2.1.1, x.2.1.2.1, x.2.1.2.2⟩), he, ⟨⟨Or.inr ⟨?_, ?_⟩, fun t ht => ?_⟩, rfl, rfl, rfl, rfl⟩, ?_⟩
  ·rw [List.map_append]; exact hp.1
  ·rw [List.map_append]; exact hp.2
  ·rcases List.mem_append.1 ht with ht | ht
   ·exact hr.2 t ht
   ·rw [List.mem_singleton.1 ht]; exact ⟨hs.1, hb⟩
  ·have e : ∀ t : RIt, Rm.blks 39 53 52 ⟨rb, (t0 :: its) ++ [t], x.2.2.1.1, x.2.2.1.2.1, x.2.2.1.2.2, x.1.1, x.1.2.1, x.1.2.2⟩ ++ R = (⟨rb, [.slice (some ⟨x.2.2.1.1, 0, none⟩) ((t0 :: its).length + 1) x.2.2.1.2.1, .slice (some ⟨x.1.1, 0, none⟩) ((t0 :: its).length + 1) x.1.2.1, .slice none 0 0, .slice none 0 0, .slice none 0 0, .slice none 0 0, .slice none 0 0, .slice none 0 0], 39, true⟩ :: ⟨x.2.2.1.1, (t0 :: its).map RIt.v1 ++ [t.v1] ++ x.2.2.1.2.2, 53, true⟩ :: ⟨x.1.1, (t0 :: its).map RIt.v2 ++ [t.v2] ++ x.1.2.2, 53, true⟩ :: (rblks 52 (t0 :: its) ++ (t.blks 52 ++ R))) := fun t => by
    simp [Rm.blks, Rm.cs, Rm.rows, rblks_app, rblks, nilS, List.append_assoc]
   refine Eq.mpr (congrArg (fun L => Hp None w0 L w') (e ⟨x.2.2.2, n, xs, x.2.1.1, x.2.1.2.1, x.2.1.2.2⟩)) ?_
   have h2 := Hp.segsD (A := [[_], [_], [_], [_], [_], rblks 52 (t0 :: its), R]) (idx := [4, 2, 0, 5, 1, 3, 6]) 7 [] (by simpa using h) rfl (by decide) rfl
   simpa [RIt.blks, RIt.v1, RIt.v2] using h2

theorem room_planes_0 (w0 : World) (R : List Blk) (rb cap : Nat) (ad : Option Addr) (ps : List Pn) (w : World) (hp0 : Hp None w0 ((((Rm.no rb)).blks 39 53 52 ++ R)) w) :
  Calls Tryz.prog 35 #[(.pointer (some ⟨rb, 0, none⟩)), (.slice ad 0 cap)] w (Frm (σ := Rm × Nat) None w0 (fun x => x.1.Ok ∧ x.1.rb = rb ∧ RFor x.1.its ps ∧ x.1.its.length = 0) (fun x => .slice (some ⟨x.2, 0, none⟩) 0 (0 + 5)) (fun x => ⟨x.2, pcs (lpl x.1.its ps ++ List.replicate 5 zPn), 75, true⟩ :: (x.1.blks 39 53 52 ++ R))) := by
 refine enterF (w0 := w0) (M := None) (L := ((((Rm.no rb)).blks 39 53 52 ++ R))) (n := 29) (l := [(0, (.pointer (some ⟨rb, 0, none⟩))), (1, (.slice ad 0 cap))]) Tryz.func35 rfl rfl (Args.cons rfl (Args.cons rfl (Args.nil _))) hp0 ?_
 refine GC.seq (GC.region ?_)
 refine GL.sg rfl (by decide) ?_
 refine GL.nil (GE.thenN (GC.seq (GC.region ?_)))
 refine GL.mv rfl (by decide) ?_
 refine GL.val (v := (.int .i64 0)) (Ex.len rfl Tryz.underlying22) (by decide) ?_
 refine GL.mv rfl (by decide) ?_
 refine GL.val (v := (.int .i64 0)) (Ex.len rfl Tryz.underlying22) (by decide) ?_
 refine GL.val (v := (.int .i64 5)) (Ex.add rfl rfl (Z := 5) (by decide)) (by decide) ?_
 refine GL.step (Stp.makeSlice (a1 := 0) (c := 0 + 5) rfl rfl Tryz.underlying22 T.zr75 T.sz75 T.by75 rfl (Nat.le_add_right _ _) (by omega) (by omega) (by decide)) (fun bq1 _ => ?_)
 rw [made_pl']
 refine GL.sg rfl (by decide) ?_
 refine GL.nil (GE.thenN (GC.seq (GC.seq (GC.region ?_))))
 refine GL.sg rfl (by decide) ?_
 refine GL.nil (GE.thenN (GC.block ?_))
 refine GC.unroll 1 ?_
 refine GE.round (GC.seq (GC.seq (GC.region ?_)))
 refine GL.mv rfl (by decide) ?_
 refine GL.mv rfl (by decide) ?_
 refine GL.val (v := (.int .i64 0)) (Ex.len rfl Tryz.underlying22) (by decide) ?_
 refine GL.val (v := (.bool false)) (Ex.cast (Ex.lss rfl rfl) rfl) (by decide) ?_
 refine GL.nil (GE.thenN ?_)
 refine GC.cond rfl (fun hq2 => by cases hq2) (fun _ => ?_)
 refine GC.exit (GE.thenE (GE.thenE (GE.blockE (GE.thenN (GC.seq (GC.region ?_))))))
 refine GL.mv rfl (by decide) ?_
 refine GL.sg rfl (by decide) ?_
 refine GL.nil (GE.thenN (GC.ret ?_))
 refine GC.ret1 rfl (Rv.tmp rfl) (fun wN HN => ?_)
 exact HN.frm (Rm.no rb, bq1) ⟨Rm.no_ok rb, rfl, trivial, rfl⟩ (by rfl) (ulC ulR)

theorem room_planes_b (w0 : World) (R : List Blk) (rb b o n cap : Nat) (ps : List Pn) (w : World) (hps : Pns w0 b o ps) (hn : n = ps.length) (hnb : n ≤ 3600000000000) (hp0 : Hp None w0 ((((Rm.no rb)).blks 39 53 52 ++ R)) w) :
  Calls Tryz.prog 35 #[(.pointer (some ⟨rb, 0, none⟩)), (.slice (some ⟨b, o, none⟩) n cap)] w (Frm (σ := Rm × Nat) None w0 (fun x => x.1.Ok ∧ x.1.rb = rb ∧ RFor x.1.its ps ∧ x.1.its.length = n) (fun x => .slice (some ⟨x.2, 0, none⟩) n (n + 5)) (fun x => ⟨x.2, pcs (lpl x.1.its ps ++ List.replicate 5 zPn), 75, true⟩ :: (x.1.blks 39 53 52 ++ R))) := by
 refine enterF (w0 := w0) (M := None) (L := ((((Rm.no rb)).blks 39 53 52 ++ R))) (n := 29) (l := [(0, (.pointer (some ⟨rb, 0, none⟩))), (1, (.slice (some ⟨b, o, none⟩) n cap))]) Tryz.func35 rfl rfl (Args.cons rfl (Args.cons rfl (Args.nil _))) hp0 ?_
 refine GC.seq (GC.region ?_)
 refine GL.sg rfl (by decide) ?_
 refine GL.nil (GE.thenN (GC.seq (GC.region ?_)))
 refine GL.mv rfl (by decide) ?_
 refine GL.val (v := (.int .i64 ((n : Int)))) (Ex.len rfl Tryz.underlying22) (by decide) ?_
 refine GL.mv rfl (by decide) ?_
 refine GL.val (v := (.int .i64 ((n : Int)))) (Ex.len rfl Tryz.underlying22) (by decide) ?_
 refine GL.val (v := (.int .i64 (((n : Int)) + 5))) (Ex.add rfl rfl (Z := ((n : Int)) + 5) (w64 (by omega))) (by decide) ?_
 refine GL.step (Stp.makeSlice (a1 := n) (c := n + 5) rfl rfl Tryz.underlying22 T.zr75 T.sz75 T.by75 rfl (Nat.le_add_right _ _) (by omega) (by omega) (by decide)) (fun bq1 _ => ?_)
 rw [made_pl']
 refine GL.sg rfl (by decide) ?_
 refine GL.nil (GE.thenN (GC.seq (GC.seq (GC.region ?_))))
 refine GL.sg rfl (by decide) ?_
 refine GL.nil (GE.thenN (GC.block ?_))
 refine GC.loop (σ := Rm) (fun r => r.Ok ∧ r.rb = rb ∧ RFor r.its ps ∧ r.its.length ≤ n) (fun r => [(0, (.pointer (some ⟨rb, 0, none⟩))), (1, (.slice (some ⟨b, o, none⟩) n cap)), (5, (.slice (some ⟨bq1, 0, none⟩) n (n + 5))), (6, (.int .i64 (((r.its.length : Nat) : Int))))]) (fun r => (⟨bq1, pcs (lpl r.its ps ++ List.replicate (n + 5 - r.its.length) zPn), 75, true⟩ :: (r.blks 39 53 52 ++ R))) (fun r => n - r.its.length) ((Rm.no rb)) ⟨Rm.no_ok rb, rfl, trivial, Nat.zero_le _⟩ ((sub_cons rfl ((sub_cons rfl ((sub_cons rfl ((sub_cons rfl ((sub_nil _)))))))))) (ulC ulR) (fun r hp => ?_)
 have hpl := hp.2.2.2
 refine GC.seq (GC.seq (GC.region ?_))
 refine GL.mv rfl (by decide) ?_
 refine GL.mv rfl (by decide) ?_
 refine GL.val (v := (.int .i64 ((n : Int)))) (Ex.len rfl Tryz.underlying22) (by decide) ?_
 refine GL.val (v := (.bool (decide ((((r.its.length : Nat) : Int)) < ((n : Int)))))) (Ex.lss rfl rfl) (by decide) ?_
 refine GL.nil (GE.thenN ?_)
 refine GC.cond rfl (fun hq2 => ?_) (fun hq2 => ?_)
 ·replace hq2 := of_decide_eq_true hq2
  refine GC.skip (GE.thenN (GC.seq (GC.block (GC.region ?_))))
  refine GL.mv rfl (by decide) ?_
  refine GL.mv rfl (by decide) ?_
  refine GL.mv rfl (by decide) ?_
  refine GL.mv rfl (by decide) ?_
  refine GL.mv rfl (by decide) ?_
  refine GL.val (v := (.pointer (some ⟨b, o + r.its.length * 3, none⟩))) (Ex.cast (Ex.indexAddr rfl rfl Tryz.underlying22 T.sz75 (by omega) (by omega)) (by simp)) (by decide) ?_
  refine GL.val (v := (.agg #[(.int .i64 ((pAt ps r.its.length).W)), (.int .i64 ((pAt ps r.its.length).H)), (.slice (pAt ps r.its.length).ad ((pAt ps r.its.length).n) ((pAt ps r.its.length).cap))])) (Ex.loadAO rfl T.ag75 T.sz75 (Pns.ld (i := r.its.length) hps (by omega)) (fun x => x) rfl) (by decide) ?_
  refine GL.step (Stp.call (vs := [(.pointer (some ⟨rb, 0, none⟩)), (.agg #[(.int .i64 ((pAt ps r.its.length).W)), (.int .i64 ((pAt ps r.its.length).H)), (.slice (pAt ps r.its.length).ad ((pAt ps r.its.length).n) ((pAt ps r.its.length).cap))])]) rfl rfl T.own76 (by decide) (fun wc hw => (rm_plane w0 ([⟨bq1, pcs (lpl r.its ps ++ List.replicate (n + 5 - r.its.length) zPn), 75, true⟩] ++ R) rb (pAt ps r.its.length).W (pAt ps r.its.length).H r (pAt ps r.its.length).n (pAt ps r.its.length).cap (pAt ps r.its.length).ad (pAt ps r.its.length).xs wc (hps.ok _ (pAt_mem (by omega))).1 (hps.ok _ (pAt_mem (by omega))).2 hp.1 (by omega) hp.2.1 (by exact Hp.segsT (T := R) (A := [[⟨bq1, pcs (lpl r.its ps ++ List.replicate (n + 5 - r.its.length) zPn), 75, true⟩], r.blks 39 53 52]) (idx := [1, 0]) 2 [] hw rfl (by decide) rfl)).mono fun e w' ⟨x, he, hp, h⟩ => ⟨x, he, hp, (by exact Hp.segsT (T := R) (A := [x.1.blks 39 53 52, [⟨bq1, pcs (lpl r.its ps ++ List.replicate (n + 5 - r.its.length) zPn), 75, true⟩]]) (idx := [1, 0]) 2 [] h rfl (by decide) rfl)⟩)) (fun xq3 hq4 => ?_)
  refine GL.val (v := (.pointer (some ⟨bq1, r.its.length * 3, none⟩))) (Ex.cast (Ex.indexAddr rfl rfl Tryz.underlying22 T.sz75 (by omega) (by omega)) (by simp)) (by decide) ?_
  refine GL.step (Stp.storeL (i := 0) (cs := pcs (lpl r.its ps ++ List.replicate (n + 5 - r.its.length) zPn)) (vs := (lpn (pAt ps r.its.length) xq3.2).cs) (o := r.its.length * 3) (L1 := (⟨bq1, pcs (lpl xq3.1.its ps ++ List.replicate (n + 5 - xq3.1.its.length) zPn), 75, true⟩ :: (xq3.1.blks 39 53 52 ++ R))) rfl rfl rfl T.sz75 rfl (Nat.ble_eq_true_of_le (by rw [pcs_len, List.length_append, lpl_len, List.length_replicate]; show r.its.length * 3 + 3 ≤ _; omega)) rfl (by rw [lpl_store (by omega) hq4.2.2.1]; rfl)) (fun _ _ => ?_)
  refine GL.nil (GE.blockN (GE.thenN (GC.region ?_)))
  refine GL.mv rfl (by decide) ?_
  refine GL.val (v := (.int .i64 (((xq3.1.its.length : Nat) : Int)))) (Ex.add rfl rfl (Z := ((xq3.1.its.length : Nat) : Int)) (by rw [hq4.2.2.1, w64 (by omega)]; simp)) (by decide) ?_
  refine GL.sg rfl (by decide) ?_
  refine GL.nil (GE.thenN ?_)
  exact Head.mk (xq3.1) ⟨hq4.1, hq4.2.1, by rw [hq4.2.2.1]; exact RFor.add hp.2.2.1 (by omega) hq4.2.2.2.1 hq4.2.2.2.2, by rw [hq4.2.2.1]; simp; omega⟩ (by rw [hq4.2.2.1]; simp; omega) ((sub_cons rfl ((sub_cons rfl ((sub_cons rfl ((sub_cons rfl ((sub_nil _)))))))))) (ulC ulR)
 ·replace hq2 := of_decide_eq_false hq2
  refine GC.exit (GE.thenE (GE.thenE (GE.blockE (GE.thenN (GC.seq ?_)))))
  rw [show n + 5 - r.its.length = 5 from by omega]
  refine GC.region ?_
  refine GL.mv rfl (by decide) ?_
  refine GL.sg rfl (by decide) ?_
  refine GL.nil (GE.thenN (GC.ret ?_))
  refine GC.ret1 rfl (Rv.tmp rfl) (fun wN HN => ?_)
  exact HN.frm (r, bq1) ⟨hp.1, hp.2.1, hp.2.2.1, (show r.its.length = n by omega)⟩ (by rfl) (ulC ulR)

theorem room_planes (w0 : World) (R : List Blk) (rb n cap : Nat) (ad : Option Addr) (ps : List Pn) (w : World) (hps : PnsA w0 ad ps) (hn : n = ps.length) (hnb : n ≤ 3600000000000) (hp0 : Hp None w0 (((Rm.no rb)).blks 39 53 52 ++ R) w) :
  Calls Tryz.prog 35 #[(.pointer (some ⟨rb, 0, none⟩)), .slice ad n cap] w (Frm (σ := Rm × Nat) None w0 (fun x => x.1.Ok ∧ x.1.rb = rb ∧ RFor x.1.its ps ∧ x.1.its.length = n) (fun x => .slice (some ⟨x.2, 0, none⟩) n (n + 5)) (fun x => ⟨x.2, pcs (lpl x.1.its ps ++ List.replicate 5 zPn), 75, true⟩ :: (x.1.blks 39 53 52 ++ R))) := by
 by_cases h0 : n = 0
 ·subst h0; exact room_planes_0 w0 R rb cap ad ps w hp0
 ·obtain ⟨b, o, rfl, h⟩ := hps.at (by omega)
  exact room_planes_b w0 R rb b o n cap ps w h hn hnb hp0

theorem lend (w0 : World) (R : List Blk) (sp : Int) (rb n cap : Nat) (ad : Option Addr) (ps : List Pn) (w : World) (hps : PnsA w0 ad ps) (hn : n = ps.length) (hnb : n ≤ 3600000000000) (hp0 : Hp None w0 ((((Rm.no rb)).blks 39 53 52 ++ R)) w) :
  Calls Tryz.prog 7 #[(.pointer (some ⟨rb, 0, none⟩)), (.agg #[(.int .i64 sp), (.slice ad n cap)])] w (Frm (σ := Rm × Nat) None w0 (fun x => x.1.Ok ∧ x.1.rb = rb ∧ RFor x.1.its ps ∧ x.1.its.length = n) (fun x => (.agg #[(.int .i64 sp), (.slice (some ⟨x.2, 0, none⟩) n (n + 5))])) (fun x => (lentB 75 ps x ++ (x.1.blks 39 53 52 ++ R)))) := by
 refine enterF (w0 := w0) (M := None) (L := ((((Rm.no rb)).blks 39 53 52 ++ R))) (n := 12) (l := [(0, (.pointer (some ⟨rb, 0, none⟩))), (1, (.agg #[(.int .i64 sp), (.slice ad n cap)]))]) Tryz.func7 rfl rfl (Args.cons rfl (Args.cons rfl (Args.nil _))) hp0 ?_
 refine GC.seq (GC.region ?_)
 refine GL.step (Stp.box (cs := [(.int .i64 sp), (.slice ad n cap)]) rfl rfl (by decide)) (fun bq1 _ => ?_)
 refine GL.step (Stp.alloc T.zr24 (by decide)) (fun bq2 _ => ?_)
 refine GL.nil (GE.thenN (GC.seq ?_))
 refine GC.drawP [⟨bq2, [(.int .i64 0), (.slice none 0 0)], 24, true⟩, ⟨bq1, [(.int .i64 sp), (.slice ad n cap)], 24, true⟩] T.mixed (by kernel_rfl) (by kernel_rfl) (fuel := 7) rfl rfl ?_
 refine GH.tk 0 (v := (.pointer (some ⟨bq1, 0, none⟩))) rfl (by kernel_rfl) (fun _ _ _ h => h) (Ex.cast (Ex.fieldAddr rfl Tryz.underlying24 rfl T.sz3 (by decide)) rfl) (ulC (ulC ulN)) (by decide) ?_
 refine GH.tk 1 (v := (.int .i64 sp)) rfl (by kernel_rfl) (fun _ _ _ h => h) (Ex.load rfl T.ag3 (i := 1) rfl rfl) (ulC (ulC ulN)) (by decide) ?_
 refine GH.tk 2 (v := (.pointer (some ⟨rb, 0, none⟩))) rfl (by kernel_rfl) (fun _ _ _ h => h) (Ex.move rfl) (ulC (ulC ulN)) (by decide) ?_
 refine GH.tk 3 (v := (.pointer (some ⟨bq1, 1, none⟩))) rfl (by kernel_rfl) (fun _ _ _ h => h) (Ex.cast (Ex.fieldAddr rfl Tryz.underlying24 rfl T.sz22 (by decide)) rfl) (ulC (ulC ulN)) (by decide) ?_
 refine GH.tk 4 (v := (.slice ad n cap)) rfl (by kernel_rfl) (fun _ _ _ h => h) (Ex.load rfl T.ag22 (i := 1) rfl rfl) (ulC (ulC ulN)) (by decide) ?_
 refine GH.one 5 rfl (by kernel_rfl) (Stp.call (vs := [(.pointer (some ⟨rb, 0, none⟩)), (.slice ad n cap)]) rfl rfl T.own35 (by decide) (fun wc hw => (room_planes w0 ([⟨bq2, [(.int .i64 0), (.slice none 0 0)], 24, true⟩, ⟨bq1, [(.int .i64 sp), (.slice ad n cap)], 24, true⟩] ++ R) rb n cap ad ps wc hps hn hnb (by exact Hp.segsT (T := R) (A := [[⟨bq2, [(.int .i64 0), (.slice none 0 0)], 24, true⟩, ⟨bq1, [(.int .i64 sp), (.slice ad n cap)], 24, true⟩], ((Rm.no rb)).blks 39 53 52]) (idx := [1, 0]) 2 [] hw rfl (by decide) rfl)).mono fun e w' ⟨x, he, hp, h⟩ => ⟨x, he, hp, (by exact Hp.segsT (T := R) (A := [lentB 75 ps x, x.1.blks 39 53 52, [⟨bq2, [(.int .i64 0), (.slice none 0 0)], 24, true⟩, ⟨bq1, [(.int .i64 sp), (.slice ad n cap)], 24, true⟩]]) (idx := [2, 0, 1]) 3 [] h rfl (by decide) rfl)⟩)) (fun _ => (ulC (ulC ulN))) (fun xq3 hq4 => ?_)
 refine GH.tk 6 (v := (.agg #[(.int .i64 sp), (.slice (some ⟨xq3.2, 0, none⟩) n (n + 5))])) rfl (by kernel_rfl) (fun _ _ _ h => h) (Ex.build (vs := [(0, (.int .i64 sp)), (1, (.slice (some ⟨xq3.2, 0, none⟩) n (n + 5)))]) rfl (by first | rfl | kernel_rfl)) (ulC (ulC ulN)) (by decide) ?_
 refine GH.done (by kernel_rfl) ?_
 refine GE.thenN ?_
 refine GE.tail rfl (Stp.st0 (cs' := [(.int .i64 sp), (.slice (some ⟨xq3.2, 0, none⟩) n (n + 5))]) rfl rfl rfl T.sz24 rfl rfl rfl) (fun _ _ => ?_)
 refine GE.thenN (GC.ret ?_)
 refine GC.ret1 rfl (Rv.cellA rfl T.ag24 T.sz24 (L := _) (i := 0) rfl (vs := [(.int .i64 sp), (.slice (some ⟨xq3.2, 0, none⟩) n (n + 5))]) rfl rfl) (fun wN HN => ?_)
 exact HN.frm xq3 hq4 (by rfl) (ulS (ulS ulR))

theorem num (e : Int) (w : World) (he : 0 ≤ e ∧ e ≤ 1000) :
  Calls Tryz.prog 20 #[(.int .i64 e)] w (Ret w (fun _ : Unit => True) (fun _ => (.int .i64 e)) (fun _ => [])) := by
 refine enter (M := None) (L := []) (n := 4) (l := [(0, (.int .i64 e))]) Tryz.func20 rfl rfl (Args.cons rfl (Args.nil _)) (Hp.start _ _) ?_
 refine GC.seq (GC.region ?_)
 refine GL.sg rfl (by decide) ?_
 refine GL.nil (GE.thenN (GC.seq (GC.region ?_)))
 refine GL.mv rfl (by decide) ?_
 refine GL.sg rfl (by decide) ?_
 refine GL.nil (GE.thenN (GC.ret ?_))
 refine GC.ret1 rfl (Rv.tmp rfl) (fun wN HN => ?_)
 exact HN.ret () trivial rfl (List.nil_sublist _) rfl

theorem rm_hold_0 (rb : Nat) (w : World) (hh : Has w [⟨rb, [(.slice none 0 0), (.slice none 0 0), (.slice none 0 0), (.slice none 0 0), (.slice none 0 0), (.slice none 0 0), (.slice none 0 0), (.slice none 0 0)], 39, false⟩]) :
  Calls Tryz.prog 16 #[(.pointer (some ⟨rb, 0, none⟩))] w (Ret w (fun _ : Unit => True) (fun _ => .bool true) (fun _ => [])) := by
 refine enter (M := None) (L := [⟨rb, [(.slice none 0 0), (.slice none 0 0), (.slice none 0 0), (.slice none 0 0), (.slice none 0 0), (.slice none 0 0), (.slice none 0 0), (.slice none 0 0)], 39, false⟩]) (n := 179) (l := [(0, (.pointer (some ⟨rb, 0, none⟩)))]) Tryz.func16 rfl rfl (Args.cons rfl (Args.nil _)) (Hp.reads hh rfl) ?_
 refine GC.seq (GC.region ?_)
 refine GL.sg rfl (by decide) ?_
 refine GL.nil (GE.thenN (GC.seq (GC.seq (GC.region ?_))))
 refine GL.sg rfl (by decide) ?_
 refine GL.nil (GE.thenN (GC.block ?_))
 refine GC.unroll 1 ?_
 refine GE.round (GC.seq (GC.seq (GC.region ?_)))
 refine GL.mv rfl (by decide) ?_
 refine GL.mv rfl (by decide) ?_
 refine GL.val (v := (.pointer (some ⟨rb, 0, none⟩))) (Ex.nilCheck rfl) (by decide) ?_
 refine GL.val (v := (.pointer (some ⟨rb, 0, none⟩))) (Ex.cast (Ex.fieldAddr rfl Tryz.underlying39 rfl T.sz29 (by decide)) rfl) (by decide) ?_
 refine GL.val (Ex.load rfl T.ag29 (i := 0) rfl rfl) (by decide) ?_
 refine GL.val (v := (.int .i64 0)) (Ex.len rfl Tryz.underlying29) (by decide) ?_
 refine GL.val (v := (.bool false)) (Ex.cast (Ex.lss rfl rfl) rfl) (by decide) ?_
 refine GL.nil (GE.thenN ?_)
 refine GC.cond rfl (fun hq1 => by cases hq1) (fun _ => ?_)
 refine GC.exit (GE.thenE (GE.thenE (GE.blockE (GE.thenN (GC.seq (GC.seq (GC.region ?_)))))))
 refine GL.sg rfl (by decide) ?_
 refine GL.nil (GE.thenN (GC.block ?_))
 refine GC.unroll 1 ?_
 refine GE.round (GC.seq (GC.seq (GC.region ?_)))
 refine GL.mv rfl (by decide) ?_
 refine GL.mv rfl (by decide) ?_
 refine GL.val (v := (.pointer (some ⟨rb, 0, none⟩))) (Ex.nilCheck rfl) (by decide) ?_
 refine GL.val (v := (.pointer (some ⟨rb, 2, none⟩))) (Ex.cast (Ex.fieldAddr rfl Tryz.underlying39 rfl T.sz30 (by decide)) rfl) (by decide) ?_
 refine GL.val (Ex.load rfl T.ag30 (i := 0) rfl rfl) (by decide) ?_
 refine GL.val (v := (.int .i64 0)) (Ex.len rfl Tryz.underlying30) (by decide) ?_
 refine GL.val (v := (.bool false)) (Ex.cast (Ex.lss rfl rfl) rfl) (by decide) ?_
 refine GL.nil (GE.thenN ?_)
 refine GC.cond rfl (fun hq2 => by cases hq2) (fun _ => ?_)
 refine GC.exit (GE.thenE (GE.thenE (GE.blockE (GE.thenN (GC.seq (GC.seq (GC.region ?_)))))))
 refine GL.sg rfl (by decide) ?_
 refine GL.nil (GE.thenN (GC.block ?_))
 refine GC.unroll 1 ?_
 refine GE.round (GC.seq (GC.seq (GC.region ?_)))
 refine GL.mv rfl (by decide) ?_
 refine GL.mv rfl (by decide) ?_
 refine GL.val (v := (.pointer (some ⟨rb, 0, none⟩))) (Ex.nilCheck rfl) (by decide) ?_
 refine GL.val (v := (.pointer (some ⟨rb, 4, none⟩))) (Ex.cast (Ex.fieldAddr rfl Tryz.underlying39 rfl T.sz31 (by decide)) rfl) (by decide) ?_
 refine GL.val (Ex.load rfl T.ag31 (i := 0) rfl rfl) (by decide) ?_
 refine GL.val (v := (.int .i64 0)) (Ex.len rfl Tryz.underlying31) (by decide) ?_
 refine GL.val (v := (.bool false)) (Ex.cast (Ex.lss rfl rfl) rfl) (by decide) ?_
 refine GL.nil (GE.thenN ?_)
 refine GC.cond rfl (fun hq3 => by cases hq3) (fun _ => ?_)
 refine GC.exit (GE.thenE (GE.thenE (GE.blockE (GE.thenN (GC.seq (GC.seq (GC.region ?_)))))))
 refine GL.sg rfl (by decide) ?_
 refine GL.nil (GE.thenN (GC.block ?_))
 refine GC.unroll 1 ?_
 refine GE.round (GC.seq (GC.seq (GC.region ?_)))
 refine GL.mv rfl (by decide) ?_
 refine GL.mv rfl (by decide) ?_
 refine GL.val (v := (.pointer (some ⟨rb, 0, none⟩))) (Ex.nilCheck rfl) (by decide) ?_
 refine GL.val (v := (.pointer (some ⟨rb, 6, none⟩))) (Ex.cast (Ex.fieldAddr rfl Tryz.underlying39 rfl T.sz32 (by decide)) rfl) (by decide) ?_
 refine GL.val (Ex.load rfl T.ag32 (i := 0) rfl rfl) (by decide) ?_
 refine GL.val (v := (.int .i64 0)) (Ex.len rfl Tryz.underlying32) (by decide) ?_
 refine GL.val (v := (.bool false)) (Ex.cast (Ex.lss rfl rfl) rfl) (by decide) ?_
 refine GL.nil (GE.thenN ?_)
 refine GC.cond rfl (fun hq4 => by cases hq4) (fun _ => ?_)
 refine GC.exit (GE.thenE (GE.thenE (GE.blockE (GE.thenN (GC.seq (GC.region ?_))))))
 refine GL.sg rfl (by decide) ?_
 refine GL.nil (GE.thenN (GC.ret ?_))
 refine GC.ret1 rfl (Rv.tmp rfl) (fun wN HN => ?_)
 exact HN.ret () trivial rfl (List.nil_sublist _) rfl

theorem rm_hold_b (rb n1 b1 c1 b2 c2 : Nat) (its : List RIt) (sp1 sp2 : List Value) (w : World) (hn1 : its.length = n1) (hn2 : n1 ≤ 4000000000000) (hit : ∀ t ∈ its, RIt.Rd w t) (hh : Has w [⟨rb, [(.slice (some ⟨b1, 0, none⟩) n1 c1), (.slice (some ⟨b2, 0, none⟩) n1 c2), (.slice none 0 0), (.slice none 0 0), (.slice none 0 0), (.slice none 0 0), (.slice none 0 0), (.slice none 0 0)], 39, false⟩, ⟨b1, its.map RIt.v1 ++ sp1, 53, false⟩, ⟨b2, its.map RIt.v2 ++ sp2, 53, false⟩]) :
  Calls Tryz.prog 16 #[(.pointer (some ⟨rb, 0, none⟩))] w (Ret w (fun _ : Unit => True) (fun _ => .bool true) (fun _ => [])) := by
 refine enter (M := None) (L := [⟨rb, [(.slice (some ⟨b1, 0, none⟩) n1 c1), (.slice (some ⟨b2, 0, none⟩) n1 c2), (.slice none 0 0), (.slice none 0 0), (.slice none 0 0), (.slice none 0 0), (.slice none 0 0), (.slice none 0 0)], 39, false⟩, ⟨b1, its.map RIt.v1 ++ sp1, 53, false⟩, ⟨b2, its.map RIt.v2 ++ sp2, 53, false⟩]) (n := 179) (l := [(0, (.pointer (some ⟨rb, 0, none⟩)))]) Tryz.func16 rfl rfl (Args.cons rfl (Args.nil _)) (Hp.reads hh rfl) ?_
 refine GC.seq (GC.region ?_)
 refine GL.sg rfl (by decide) ?_
 refine GL.nil (GE.thenN (GC.seq (GC.seq (GC.region ?_))))
 refine GL.sg rfl (by decide) ?_
 refine GL.nil (GE.thenN (GC.block ?_))
 refine GC.loop (σ := Nat) (fun n => n ≤ n1) (fun n => [(0, (.pointer (some ⟨rb, 0, none⟩))), (3, (.int .i64 (((n : Nat) : Int))))]) (fun n => [⟨rb, [(.slice (some ⟨b1, 0, none⟩) n1 c1), (.slice (some ⟨b2, 0, none⟩) n1 c2), (.slice none 0 0), (.slice none 0 0), (.slice none 0 0), (.slice none 0 0), (.slice none 0 0), (.slice none 0 0)], 39, false⟩, ⟨b1, its.map RIt.v1 ++ sp1, 53, false⟩, ⟨b2, its.map RIt.v2 ++ sp2, 53, false⟩]) (fun n => n1 - n) (0) (Nat.zero_le _) ((sub_cons rfl ((sub_cons rfl ((sub_nil _)))))) (ulC (ulC (ulC ulN))) (fun n hp => ?_)
 refine GC.seq (GC.seq (GC.region ?_))
 refine GL.mv rfl (by decide) ?_
 refine GL.mv rfl (by decide) ?_
 refine GL.val (v := (.pointer (some ⟨rb, 0, none⟩))) (Ex.nilCheck rfl) (by decide) ?_
 refine GL.val (v := (.pointer (some ⟨rb, 0, none⟩))) (Ex.cast (Ex.fieldAddr rfl Tryz.underlying39 rfl T.sz29 (by decide)) rfl) (by decide) ?_
 refine GL.val (Ex.load rfl T.ag29 (i := 0) rfl rfl) (by decide) ?_
 refine GL.val (v := (.int .i64 ((n1 : Int)))) (Ex.len rfl Tryz.underlying29) (by decide) ?_
 refine GL.val (v := (.bool (decide ((((n : Nat) : Int)) < ((n1 : Int)))))) (Ex.lss rfl rfl) (by decide) ?_
 refine GL.nil (GE.thenN ?_)
 refine GC.cond rfl (fun hq1 => ?_) (fun hq1 => ?_)
 ·replace hq1 := of_decide_eq_true hq1
  refine GC.skip (GE.thenN (GC.seq (GC.block (GC.seq ?_))))
  have hnl : n < its.length := by omega
  have hio := hit _ (ritAt_mem hnl)
  have hin := hio.1.2
  refine GC.region ?_
  refine GL.sg rfl (by decide) ?_
  refine GL.nil (GE.thenN (GC.block ?_))
  refine GC.loop (σ := Nat) (fun k => k ≤ (ritAt its n).n + 5) (fun k => [(0, (.pointer (some ⟨rb, 0, none⟩))), (3, (.int .i64 (((n : Nat) : Int)))), (4, (.int .i64 (((k : Nat) : Int))))]) (fun k => [⟨rb, [(.slice (some ⟨b1, 0, none⟩) n1 c1), (.slice (some ⟨b2, 0, none⟩) n1 c2), (.slice none 0 0), (.slice none 0 0), (.slice none 0 0), (.slice none 0 0), (.slice none 0 0), (.slice none 0 0)], 39, false⟩, ⟨b1, its.map RIt.v1 ++ sp1, 53, false⟩, ⟨b2, its.map RIt.v2 ++ sp2, 53, false⟩]) (fun k => (ritAt its n).n + 5 - k) (0) (Nat.zero_le _) ((sub_cons rfl ((sub_cons rfl ((sub_cons rfl ((sub_nil _)))))))) (ulC (ulC (ulC ulN))) (fun k hp => ?_)
  refine GC.seq (GC.seq (GC.region ?_))
  refine GL.mv rfl (by decide) ?_
  refine GL.mv rfl (by decide) ?_
  refine GL.val (v := (.pointer (some ⟨rb, 0, none⟩))) (Ex.nilCheck rfl) (by decide) ?_
  refine GL.val (v := (.pointer (some ⟨rb, 0, none⟩))) (Ex.cast (Ex.fieldAddr rfl Tryz.underlying39 rfl T.sz29 (by decide)) rfl) (by decide) ?_
  refine GL.val (Ex.load rfl T.ag29 (i := 0) rfl rfl) (by decide) ?_
  refine GL.mv rfl (by decide) ?_
  refine GL.val (v := (.pointer (some ⟨b1, n, none⟩))) (Ex.cast (Ex.indexAddr rfl rfl Tryz.underlying29 T.sz53 (by omega) (by omega)) (by simp)) (by decide) ?_
  refine GL.val (Ex.load rfl T.ag53 (i := 1) rfl (rit_v1 hnl sp1)) (by decide) ?_
  refine GL.val (v := (.int .i64 ((((ritAt its n).n + 5) : Int)))) (Ex.len rfl Tryz.underlying53) (by decide) ?_
  refine GL.val (v := (.bool (decide ((((k : Nat) : Int)) < ((((ritAt its n).n + 5) : Int)))))) (Ex.lss rfl rfl) (by decide) ?_
  refine GL.nil (GE.thenN ?_)
  refine GC.cond rfl (fun hq2 => ?_) (fun hq2 => ?_)
  ·replace hq2 := of_decide_eq_true hq2
   refine GC.skip (GE.thenN (GC.seq (GC.block (GC.seq ?_))))
   refine GC.draw [⟨rb, [(.slice (some ⟨b1, 0, none⟩) n1 c1), (.slice (some ⟨b2, 0, none⟩) n1 c2), (.slice none 0 0), (.slice none 0 0), (.slice none 0 0), (.slice none 0 0), (.slice none 0 0), (.slice none 0 0)], 39, false⟩, ⟨b1, its.map RIt.v1 ++ sp1, 53, false⟩, ⟨b2, its.map RIt.v2 ++ sp2, 53, false⟩] T.mixed (fuel := 21) rfl rfl ?_
   refine GH.tk 0 (v := (.pointer (some ⟨rb, 0, none⟩))) rfl (by kernel_rfl) (fun _ _ _ h => h) (Ex.move rfl) (ulC (ulC (ulC ulN))) (by decide) ?_
   refine GH.tk 4 (v := (.int .i64 (((n : Nat) : Int)))) rfl (by kernel_rfl) (fun _ _ _ h => h) (Ex.move rfl) (ulC (ulC (ulC ulN))) (by decide) ?_
   refine GH.tk 7 (v := (.int .i64 (((k : Nat) : Int)))) rfl (by kernel_rfl) (fun _ _ _ h => h) (Ex.move rfl) (ulC (ulC (ulC ulN))) (by decide) ?_
   refine GH.tk 10 (v := (.pointer (some ⟨rb, 0, none⟩))) rfl (by kernel_rfl) (fun _ _ _ h => h) (Ex.move rfl) (ulC (ulC (ulC ulN))) (by decide) ?_
   refine GH.tk 14 (v := (.int .i64 (((n : Nat) : Int)))) rfl (by kernel_rfl) (fun _ _ _ h => h) (Ex.move rfl) (ulC (ulC (ulC ulN))) (by decide) ?_
   refine GH.tk 17 (v := (.int .i64 (((k : Nat) : Int)))) rfl (by kernel_rfl) (fun _ _ _ h => h) (Ex.move rfl) (ulC (ulC (ulC ulN))) (by decide) ?_
   refine GH.many (rs := [1, 11]) (by kernel_rfl) (by simp) ?_
   refine GHs.cons rfl (Ex.wp (v := (.pointer (some ⟨rb, 0, none⟩))) (Ex.nilCheck rfl) (by decide)) (fun _ => (ulC (ulC (ulC ulN)))) (fun _ _ => ?_) ?_
   ·refine GH.tk 2 (v := (.pointer (some ⟨rb, 0, none⟩))) rfl (by kernel_rfl) (fun _ _ _ h => h) (Ex.cast (Ex.fieldAddr rfl Tryz.underlying39 rfl T.sz29 (by decide)) rfl) (ulC (ulC (ulC ulN))) (by decide) ?_
    refine GH.tk 3 (v := (.slice (some ⟨b1, 0, none⟩) n1 c1)) rfl (by kernel_rfl) (fun _ _ _ h => h) (Ex.load rfl T.ag29 (i := 0) rfl rfl) (ulC (ulC (ulC ulN))) (by decide) ?_
    refine GH.tk 5 (v := (.pointer (some ⟨b1, n, none⟩))) rfl (by kernel_rfl) (fun _ _ _ h => h) (Ex.cast (Ex.indexAddr rfl rfl Tryz.underlying29 T.sz53 (by omega) (by omega)) (by simp)) (ulC (ulC (ulC ulN))) (by decide) ?_
    refine GH.tk 6 (v := (.slice (some ⟨(ritAt its n).a, 0, none⟩) ((ritAt its n).n + 5) ((ritAt its n).n + 5))) rfl (by kernel_rfl) (fun _ _ _ h => h) (Ex.load rfl T.ag53 (i := 1) rfl (rit_v1 hnl sp1)) (ulC (ulC (ulC ulN))) (by decide) ?_
    refine GH.tk 8 (v := (.pointer (some ⟨(ritAt its n).a, k, none⟩))) rfl (by kernel_rfl) (fun _ _ _ h => h) (Ex.cast (Ex.indexAddr rfl rfl Tryz.underlying53 T.sz52 (by omega) (by omega)) (by simp)) (ulC (ulC (ulC ulN))) (by decide) ?_
    refine GH.tk 9 (v := (.int .u32 ((roomL (ritAt its n).xs).getD k 0))) rfl (by kernel_rfl) (fun _ _ _ h => h) (Ex.loadO rfl T.ag52 (by have h := Rd.at (k := k) hio.2.1 (by rw [roomL_len, hio.1.1]; omega); rwa [Nat.zero_add] at h) (fun x => x)) (ulC (ulC (ulC ulN))) (by decide) ?_
    refine GH.one 11 rfl (by kernel_rfl) (Ex.wp (v := (.pointer (some ⟨rb, 0, none⟩))) (Ex.nilCheck rfl) (by decide)) (fun _ => (ulC (ulC (ulC ulN)))) (fun _ _ => ?_)
    refine GH.tk 12 (v := (.pointer (some ⟨rb, 1, none⟩))) rfl (by kernel_rfl) (fun _ _ _ h => h) (Ex.cast (Ex.fieldAddr rfl Tryz.underlying39 rfl T.sz29 (by decide)) rfl) (ulC (ulC (ulC ulN))) (by decide) ?_
    refine GH.tk 13 (v := (.slice (some ⟨b2, 0, none⟩) n1 c2)) rfl (by kernel_rfl) (fun _ _ _ h => h) (Ex.load rfl T.ag29 (i := 0) rfl rfl) (ulC (ulC (ulC ulN))) (by decide) ?_
    refine GH.tk 15 (v := (.pointer (some ⟨b2, n, none⟩))) rfl (by kernel_rfl) (fun _ _ _ h => h) (Ex.cast (Ex.indexAddr rfl rfl Tryz.underlying29 T.sz53 (by omega) (by omega)) (by simp)) (ulC (ulC (ulC ulN))) (by decide) ?_
    refine GH.tk 16 (v := (.slice (some ⟨(ritAt its n).c, 0, none⟩) ((ritAt its n).n + 5) ((ritAt its n).d))) rfl (by kernel_rfl) (fun _ _ _ h => h) (Ex.load rfl T.ag53 (i := 2) rfl (rit_v2 hnl sp2)) (ulC (ulC (ulC ulN))) (by decide) ?_
    refine GH.tk 18 (v := (.pointer (some ⟨(ritAt its n).c, k, none⟩))) rfl (by kernel_rfl) (fun _ _ _ h => h) (Ex.cast (Ex.indexAddr rfl rfl Tryz.underlying53 T.sz52 (by omega) (by omega)) (by simp)) (ulC (ulC (ulC ulN))) (by decide) ?_
    refine GH.tk 19 (v := (.int .u32 ((roomL (ritAt its n).xs).getD k 0))) rfl (by kernel_rfl) (fun _ _ _ h => h) (Ex.loadO rfl T.ag52 (by have h := Rd.at (k := k) hio.2.2 (by rw [roomL_len, hio.1.1]; omega); rwa [Nat.zero_add] at h) (fun x => x)) (ulC (ulC (ulC ulN))) (by decide) ?_
    refine GH.tk 20 (v := (.bool false)) rfl (by kernel_rfl) (fun _ _ _ h => h) (Ex.cast (Ex.neq rfl rfl) (congrArg Value.bool (decide_eq_false (by exact fun h => h rfl)))) (ulC (ulC (ulC ulN))) (by decide) ?_
    refine GH.done (by kernel_rfl) ?_
    refine GE.thenN ?_
    refine GC.cond rfl (fun hq3 => by cases hq3) (fun _ => ?_)
    refine GC.skip (GE.blockN (GE.thenN (GC.region ?_)))
    refine GL.mv rfl (by decide) ?_
    refine GL.val (v := (.int .i64 (((k + 1 : Nat) : Int)))) (Ex.add rfl rfl (Z := ((k + 1 : Nat) : Int)) (by rw [w64 (by omega)]; rfl)) (by decide) ?_
    refine GL.sg rfl (by decide) ?_
    refine GL.nil (GE.thenN ?_)
    exact Head.mk (k + 1) (by omega) (by omega) ((sub_cons rfl ((sub_cons rfl ((sub_cons rfl ((sub_nil _)))))))) (ulC (ulC (ulC ulN)))
   refine GHs.cons rfl (Ex.wp (v := (.pointer (some ⟨rb, 0, none⟩))) (Ex.nilCheck rfl) (by decide)) (fun _ => (ulC (ulC (ulC ulN)))) (fun _ _ => ?_) ?_
   ·refine GH.tk 12 (v := (.pointer (some ⟨rb, 1, none⟩))) rfl (by kernel_rfl) (fun _ _ _ h => h) (Ex.cast (Ex.fieldAddr rfl Tryz.underlying39 rfl T.sz29 (by decide)) rfl) (ulC (ulC (ulC ulN))) (by decide) ?_
    refine GH.tk 13 (v := (.slice (some ⟨b2, 0, none⟩) n1 c2)) rfl (by kernel_rfl) (fun _ _ _ h => h) (Ex.load rfl T.ag29 (i := 0) rfl rfl) (ulC (ulC (ulC ulN))) (by decide) ?_
    refine GH.tk 15 (v := (.pointer (some ⟨b2, n, none⟩))) rfl (by kernel_rfl) (fun _ _ _ h => h) (Ex.cast (Ex.indexAddr rfl rfl Tryz.underlying29 T.sz53 (by omega) (by omega)) (by simp)) (ulC (ulC (ulC ulN))) (by decide) ?_
    refine GH.tk 16 (v := (.slice (some ⟨(ritAt its n).c, 0, none⟩) ((ritAt its n).n + 5) ((ritAt its n).d))) rfl (by kernel_rfl) (fun _ _ _ h => h) (Ex.load rfl T.ag53 (i := 2) rfl (rit_v2 hnl sp2)) (ulC (ulC (ulC ulN))) (by decide) ?_
    refine GH.tk 18 (v := (.pointer (some ⟨(ritAt its n).c, k, none⟩))) rfl (by kernel_rfl) (fun _ _ _ h => h) (Ex.cast (Ex.indexAddr rfl rfl Tryz.underlying53 T.sz52 (by omega) (by omega)) (by simp)) (ulC (ulC (ulC ulN))) (by decide) ?_
    refine GH.tk 19 (v := (.int .u32 ((roomL (ritAt its n).xs).getD k 0))) rfl (by kernel_rfl) (fun _ _ _ h => h) (Ex.loadO rfl T.ag52 (by have h := Rd.at (k := k) hio.2.2 (by rw [roomL_len, hio.1.1]; omega); rwa [Nat.zero_add] at h) (fun x => x)) (ulC (ulC (ulC ulN))) (by decide) ?_
    refine GH.one 1 rfl (by kernel_rfl) (Ex.wp (v := (.pointer (some ⟨rb, 0, none⟩))) (Ex.nilCheck rfl) (by decide)) (fun _ => (ulC (ulC (ulC ulN)))) (fun _ _ => ?_)
    refine GH.tk 2 (v := (.pointer (some ⟨rb, 0, none⟩))) rfl (by kernel_rfl) (fun _ _ _ h => h) (Ex.cast (Ex.fieldAddr rfl Tryz.underlying39 rfl T.sz29 (by decide)) rfl) (ulC (ulC (ulC ulN))) (by decide) ?_
    refine GH.tk 3 (v := (.slice (some ⟨b1, 0, none⟩) n1 c1)) rfl (by kernel_rfl) (fun _ _ _ h => h) (Ex.load rfl T.ag29 (i := 0) rfl rfl) (ulC (ulC (ulC ulN))) (by decide) ?_
    refine GH.tk 5 (v := (.pointer (some ⟨b1, n, none⟩))) rfl (by kernel_rfl) (fun _ _ _ h => h) (Ex.cast (Ex.indexAddr rfl rfl Tryz.underlying29 T.sz53 (by omega) (by omega)) (by simp)) (ulC (ulC (ulC ulN))) (by decide) ?_
    refine GH.tk 6 (v := (.slice (some ⟨(ritAt its n).a, 0, none⟩) ((ritAt its n).n + 5) ((ritAt its n).n + 5))) rfl (by kernel_rfl) (fun _ _ _ h => h) (Ex.load rfl T.ag53 (i := 1) rfl (rit_v1 hnl sp1)) (ulC (ulC (ulC ulN))) (by decide) ?_
    refine GH.tk 8 (v := (.pointer (some ⟨(ritAt its n).a, k, none⟩))) rfl (by kernel_rfl) (fun _ _ _ h => h) (Ex.cast (Ex.indexAddr rfl rfl Tryz.underlying53 T.sz52 (by omega) (by omega)) (by simp)) (ulC (ulC (ulC ulN))) (by decide) ?_
    refine GH.tk 9 (v := (.int .u32 ((roomL (ritAt its n).xs).getD k 0))) rfl (by kernel_rfl) (fun _ _ _ h => h) (Ex.loadO rfl T.ag52 (by have h := Rd.at (k := k) hio.2.1 (by rw [roomL_len, hio.1.1]; omega); rwa [Nat.zero_add] at h) (fun x => x)) (ulC (ulC (ulC ulN))) (by decide) ?_
    refine GH.tk 20 (v := (.bool false)) rfl (by kernel_rfl) (fun _ _ _ h => h) (Ex.cast (Ex.neq rfl rfl) (congrArg Value.bool (decide_eq_false (by exact fun h => h rfl)))) (ulC (ulC (ulC ulN))) (by decide) ?_
    refine GH.done (by kernel_rfl) ?_
    refine GE.thenN ?_
    refine GC.cond rfl (fun hq4 => by cases hq4) (fun _ => ?_)
    refine GC.skip (GE.blockN (GE.thenN (GC.region ?_)))
    refine GL.mv rfl (by decide) ?_
    refine GL.val (v := (.int .i64 (((k + 1 : Nat) : Int)))) (Ex.add rfl rfl (Z := ((k + 1 : Nat) : Int)) (by rw [w64 (by omega)]; rfl)) (by decide) ?_
    refine GL.sg rfl (by decide) ?_
    refine GL.nil (GE.thenN ?_)
    exact Head.mk (k + 1) (by omega) (by omega) ((sub_cons rfl ((sub_cons rfl ((sub_cons rfl ((sub_nil _)))))))) (ulC (ulC (ulC ulN)))
   exact GHs.nil
  ·replace hq2 := of_decide_eq_false hq2
   refine GC.exit (GE.thenE (GE.thenE (GE.blockE (GE.blockN (GE.thenN (GC.region ?_))))))
   refine GL.mv rfl (by decide) ?_
   refine GL.val (v := (.int .i64 (((n + 1 : Nat) : Int)))) (Ex.add rfl rfl (Z := ((n + 1 : Nat) : Int)) (by rw [w64 (by omega)]; rfl)) (by decide) ?_
   refine GL.sg rfl (by decide) ?_
   refine GL.nil (GE.thenN ?_)
   exact Head.mk (n + 1) (by omega) (by omega) ((sub_cons rfl ((sub_cons rfl ((sub_nil _)))))) (ulC (ulC (ulC ulN)))
 ·replace hq1 := of_decide_eq_false hq1
  refine GC.exit (GE.thenE (GE.thenE (GE.blockE (GE.thenN (GC.seq (GC.seq (GC.region ?_)))))))
  refine GL.sg rfl (by decide) ?_
  refine GL.nil (GE.thenN (GC.block ?_))
  refine GC.unroll 1 ?_
  refine GE.round (GC.seq (GC.seq (GC.region ?_)))
  refine GL.mv rfl (by decide) ?_
  refine GL.mv rfl (by decide) ?_
  refine GL.val (v := (.pointer (some ⟨rb, 0, none⟩))) (Ex.nilCheck rfl) (by decide) ?_
  refine GL.val (v := (.pointer (some ⟨rb, 2, none⟩))) (Ex.cast (Ex.fieldAddr rfl Tryz.underlying39 rfl T.sz30 (by decide)) rfl) (by decide) ?_
  refine GL.val (Ex.load rfl T.ag30 (i := 0) rfl rfl) (by decide) ?_
  refine GL.val (v := (.int .i64 0)) (Ex.len rfl Tryz.underlying30) (by decide) ?_
  refine GL.val (v := (.bool false)) (Ex.cast (Ex.lss rfl rfl) rfl) (by decide) ?_
  refine GL.nil (GE.thenN ?_)
  refine GC.cond rfl (fun hq5 => by cases hq5) (fun _ => ?_)
  refine GC.exit (GE.thenE (GE.thenE (GE.blockE (GE.thenN (GC.seq (GC.seq (GC.region ?_)))))))
  refine GL.sg rfl (by decide) ?_
  refine GL.nil (GE.thenN (GC.block ?_))
  refine GC.unroll 1 ?_
  refine GE.round (GC.seq (GC.seq (GC.region ?_)))
  refine GL.mv rfl (by decide) ?_
  refine GL.mv rfl (by decide) ?_
  refine GL.val (v := (.pointer (some ⟨rb, 0, none⟩))) (Ex.nilCheck rfl) (by decide) ?_
  refine GL.val (v := (.pointer (some ⟨rb, 4, none⟩))) (Ex.cast (Ex.fieldAddr rfl Tryz.underlying39 rfl T.sz31 (by decide)) rfl) (by decide) ?_
  refine GL.val (Ex.load rfl T.ag31 (i := 0) rfl rfl) (by decide) ?_
  refine GL.val (v := (.int .i64 0)) (Ex.len rfl Tryz.underlying31) (by decide) ?_
  refine GL.val (v := (.bool false)) (Ex.cast (Ex.lss rfl rfl) rfl) (by decide) ?_
  refine GL.nil (GE.thenN ?_)
  refine GC.cond rfl (fun hq6 => by cases hq6) (fun _ => ?_)
  refine GC.exit (GE.thenE (GE.thenE (GE.blockE (GE.thenN (GC.seq (GC.seq (GC.region ?_)))))))
  refine GL.sg rfl (by decide) ?_
  refine GL.nil (GE.thenN (GC.block ?_))
  refine GC.unroll 1 ?_
  refine GE.round (GC.seq (GC.seq (GC.region ?_)))
  refine GL.mv rfl (by decide) ?_
  refine GL.mv rfl (by decide) ?_
  refine GL.val (v := (.pointer (some ⟨rb, 0, none⟩))) (Ex.nilCheck rfl) (by decide) ?_
  refine GL.val (v := (.pointer (some ⟨rb, 6, none⟩))) (Ex.cast (Ex.fieldAddr rfl Tryz.underlying39 rfl T.sz32 (by decide)) rfl) (by decide) ?_
  refine GL.val (Ex.load rfl T.ag32 (i := 0) rfl rfl) (by decide) ?_
  refine GL.val (v := (.int .i64 0)) (Ex.len rfl Tryz.underlying32) (by decide) ?_
  refine GL.val (v := (.bool false)) (Ex.cast (Ex.lss rfl rfl) rfl) (by decide) ?_
  refine GL.nil (GE.thenN ?_)
  refine GC.cond rfl (fun hq7 => by cases hq7) (fun _ => ?_)
  refine GC.exit (GE.thenE (GE.thenE (GE.blockE (GE.thenN (GC.seq (GC.region ?_))))))
  refine GL.sg rfl (by decide) ?_
  refine GL.nil (GE.thenN (GC.ret ?_))
  refine GC.ret1 rfl (Rv.tmp rfl) (fun wN HN => ?_)
  exact HN.ret () trivial rfl (List.nil_sublist _) rfl

theorem rm_hold (r : Rm) (w : World) (rb0 : Nat) (h0 : r.rb = rb0) (hr : r.Ok) (hn : r.its.length ≤ 4000000000000) (hh : ∀ k ∈ r.blks 39 53 52, w.heap[k.b]? = some (.cells k.cs.toArray k.T (0, 0))) : Calls Tryz.prog 16 #[(.pointer (some ⟨rb0, 0, none⟩))] w (Ret w (fun _ : Unit => True) (fun _ => .bool true) (fun _ => [])) := by
 subst h0
 obtain ⟨rb, its, b1, c1, s1, b2, c2, s2⟩ := r
 cases its with
 | nil => exact rm_hold_0 rb w (Has.cons (hh _ (List.mem_cons_self ..)) (Has.nil _))
 | cons t0 its =>
  refine rm_hold_b rb (t0 :: its).length b1 c1 b2 c2 (t0 :: its) s1 s2 w rfl hn (fun t ht => ⟨hr.2 t ht, ?_, ?_⟩) (Has.cons (hh _ (List.mem_cons_self ..)) (Has.cons (hh ⟨b1, _, 53, true⟩ (List.mem_cons_of_mem _ (List.mem_append_left _ (List.mem_cons_self ..)))) (Has.cons (hh ⟨b2, _, 53, true⟩ (List.mem_cons_of_mem _ (List.mem_append_left _ (List.mem_cons_of_mem _ (List.mem_cons_self ..))))) (Has.nil _))))
  ·have h := Rd.of_heap (hh ⟨t.a, (roomL t.xs).map u32, 52, true⟩ (List.mem_cons_of_mem _ (List.mem_append_right _ (rblks_mem ht (List.mem_cons_of_mem _ (List.mem_cons_self ..))))))
   exact h
  ·have h := Rd.of_heap (hh ⟨t.c, (roomL t.xs).map u32 ++ t.sp, 52, true⟩ (List.mem_cons_of_mem _ (List.mem_append_right _ (rblks_mem ht (List.mem_cons_self ..)))))
   exact fun j v hv => h j v (by show ((roomL t.xs).map u32 ++ t.sp)[j]? = _; have hv' : ((roomL t.xs).map u32)[j]? = some v := hv; rw [List.getElem?_append_left (List.getElem?_eq_some_iff.1 hv').1]; exact hv')
theorem bk_hold (r : Bk) (w : World) (kb0 : Nat) (h0 : r.kb = kb0) (hr : r.Ok) (hn : r.its.length ≤ 4000000000000) (hne : 0 < r.its.length) (hh : ∀ k ∈ r.blks 36 53 3 52, w.heap[k.b]? = some (.cells k.cs.toArray k.T (0, 0))) : Calls Tryz.prog 15 #[(.pointer (some ⟨kb0, 0, none⟩))] w (Ret w (fun _ : Unit => True) (fun _ => .bool true) (fun _ => [])) := by
 subst h0
 obtain ⟨kb, its, b1, c1, s1, b2, c2, s2⟩ := r
 cases its with
 | nil => exact absurd hne (Nat.lt_irrefl _)
 | cons t0 its =>
  refine book_hold kb (t0 :: its).length b1 c1 b2 c2 (t0 :: its) s1 s2 w rfl hn (fun t ht => ?_) (Has.cons (hh _ (List.mem_cons_self ..)) (Has.cons (hh ⟨b1, _, 53, true⟩ (List.mem_cons_of_mem _ (List.mem_append_left _ (List.mem_cons_self ..)))) (Has.cons (hh ⟨b2, _, 3, true⟩ (List.mem_cons_of_mem _ (List.mem_append_left _ (List.mem_cons_of_mem _ (List.mem_cons_self ..))))) (Has.nil _))))
  obtain ⟨o1, o2⟩ := hr.2 t ht
  refine ⟨o1, o2.imp id ?_⟩
  rintro ⟨b, e⟩
  refine ⟨b, e, Rd.of_heap (T := 52) (hh ⟨b, (mks t.m t.cap).map u32, 52, true⟩ (List.mem_cons_of_mem _ (List.mem_append_right _ (iblks_mem ht ?_))))⟩
  unfold It.blk; rw [e]; exact List.mem_cons_self ..

theorem chplane (W H : Int) (b o n cap : Nat) (xs : List Int) (fid : FuncId) (fst caps : Array Value) (f : Int → Int) (w : World) (hx : xs.length = n) (h0 : 0 < n) (hb : n ≤ 35184372087808) (hr : Rd w b o (xs.map u32)) (hf : FnS Tryz.prog w fid fst caps xs f) :
  Calls Tryz.prog 57 #[(.agg #[(.func (.func fid) fst caps)]), (.agg #[(.int .i64 W), (.int .i64 H), (.slice (some ⟨b, o, none⟩) n cap)])] w (RetP w (W, H, xs.map f) 52) := by
 refine enter (M := None) (L := []) (n := 35) (l := [(0, (.agg #[(.func (.func fid) fst caps)])), (1, (.agg #[(.int .i64 W), (.int .i64 H), (.slice (some ⟨b, o, none⟩) n cap)]))]) Tryz.func57 rfl rfl (Args.cons rfl (Args.cons rfl (Args.nil _))) (Hp.start _ _) ?_
 refine GC.seq (GC.region ?_)
 refine GL.step (Stp.box (cs := [(.func (.func fid) fst caps)]) rfl rfl (by decide)) (fun bq1 _ => ?_)
 refine GL.step (Stp.box (cs := [(.int .i64 W), (.int .i64 H), (.slice (some ⟨b, o, none⟩) n cap)]) rfl rfl (by decide)) (fun bq2 _ => ?_)
 refine GL.step (Stp.alloc T.zr75 (by decide)) (fun bq3 _ => ?_)
 refine GL.nil (GE.thenN (GC.seq ?_))
 refine GC.join (σ := Nat × Nat) (fun j => True) (fun j => [(0, (.agg #[(.func (.func fid) fst caps)])), (1, (.agg #[(.int .i64 W), (.int .i64 H), (.slice (some ⟨b, o, none⟩) n cap)])), (2, (.pointer (some ⟨bq1, 0, none⟩))), (3, (.pointer (some ⟨bq2, 0, none⟩))), (4, (.pointer (some ⟨bq3, 0, none⟩))), (5, (.pointer (some ⟨j.1, 0, none⟩)))]) (fun j => [⟨j.1, [(.int .i64 W), (.int .i64 H), (.slice (some ⟨j.2, 0, none⟩) 0 n)], 75, true⟩, ⟨j.2, mpC f xs 0, 52, true⟩, ⟨bq3, [(.int .i64 0), (.int .i64 0), (.slice none 0 0)], 75, true⟩, ⟨bq2, [(.int .i64 W), (.int .i64 H), (.slice (some ⟨b, o, none⟩) n cap)], 75, true⟩, ⟨bq1, [(.func (.func fid) fst caps)], 101, true⟩]) ?_ (fun j8 hj => ?_)
 ·refine GC.drawP [⟨bq3, [(.int .i64 0), (.int .i64 0), (.slice none 0 0)], 75, true⟩, ⟨bq2, [(.int .i64 W), (.int .i64 H), (.slice (some ⟨b, o, none⟩) n cap)], 75, true⟩, ⟨bq1, [(.func (.func fid) fst caps)], 101, true⟩] T.mixed (by kernel_rfl) (by kernel_rfl) (fuel := 10) rfl rfl ?_
  refine GH.tk 0 (v := (.pointer (some ⟨bq2, 0, none⟩))) rfl (by kernel_rfl) (fun _ _ _ h => h) (Ex.cast (Ex.fieldAddr rfl Tryz.underlying75 rfl T.sz3 (by decide)) rfl) (ulC (ulC (ulC ulN))) (by decide) ?_
  refine GH.tk 1 (v := (.int .i64 W)) rfl (by kernel_rfl) (fun _ _ _ h => h) (Ex.load rfl T.ag3 (i := 1) rfl rfl) (ulC (ulC (ulC ulN))) (by decide) ?_
  refine GH.tk 2 (v := (.pointer (some ⟨bq2, 1, none⟩))) rfl (by kernel_rfl) (fun _ _ _ h => h) (Ex.cast (Ex.fieldAddr rfl Tryz.underlying75 rfl T.sz3 (by decide)) rfl) (ulC (ulC (ulC ulN))) (by decide) ?_
  refine GH.tk 3 (v := (.int .i64 H)) rfl (by kernel_rfl) (fun _ _ _ h => h) (Ex.load rfl T.ag3 (i := 1) rfl rfl) (ulC (ulC (ulC ulN))) (by decide) ?_
  refine GH.tk 4 (v := (.pointer (some ⟨bq2, 2, none⟩))) rfl (by kernel_rfl) (fun _ _ _ h => h) (Ex.cast (Ex.fieldAddr rfl Tryz.underlying75 rfl T.sz53 (by decide)) rfl) (ulC (ulC (ulC ulN))) (by decide) ?_
  refine GH.tk 5 (v := (.slice (some ⟨b, o, none⟩) n cap)) rfl (by kernel_rfl) (fun _ _ _ h => h) (Ex.load rfl T.ag53 (i := 1) rfl rfl) (ulC (ulC (ulC ulN))) (by decide) ?_
  refine GH.tk 6 (v := (.int .i64 ((n : Int)))) rfl (by kernel_rfl) (fun _ _ _ h => h) (Ex.len rfl Tryz.underlying53) (ulC (ulC (ulC ulN))) (by decide) ?_
  refine GH.many (rs := [7, 9]) (by kernel_rfl) (by simp) ?_
  refine GHs.cons rfl (Stp.makeSlice (a1 := 0) (c := n) rfl rfl Tryz.underlying53 T.zr52 T.sz52 T.by52 rfl (Nat.zero_le _) (by omega) (by omega) (by decide)) (fun _ => (ulS (ulC (ulC (ulC ulN))))) (fun bq9 _ => ?_) ?_
  ·rw [madeCells_one, ← hx, ← mpC_zero f xs, hx]
   refine GH.tk 8 (v := (.agg #[(.int .i64 W), (.int .i64 H), (.slice (some ⟨bq9, 0, none⟩) 0 n)])) rfl (by kernel_rfl) (fun _ _ _ h => h) (Ex.build (vs := [(0, (.int .i64 W)), (1, (.int .i64 H)), (2, (.slice (some ⟨bq9, 0, none⟩) 0 n))]) rfl (by first | rfl | kernel_rfl)) (ulS (ulC (ulC (ulC ulN)))) (by decide) ?_
   refine GH.one 9 rfl (by kernel_rfl) (Stp.alloc T.zr75 (by decide)) (fun _ => (ulS (ulS (ulC (ulC (ulC ulN)))))) (fun bq10 _ => ?_)
   refine GH.done (by kernel_rfl) ?_
   refine GE.thenN ?_
   refine GE.tail rfl (Stp.st0 (cs' := [(.int .i64 W), (.int .i64 H), (.slice (some ⟨bq9, 0, none⟩) 0 n)]) rfl rfl rfl T.sz75 rfl rfl rfl) (fun _ _ => ?_)
   refine GE.thenN ?_
   exact St.mk ((bq10, bq9)) trivial (idx := [0, 1, 2, 3, 4]) ((sub_cons rfl ((sub_cons rfl ((sub_cons rfl ((sub_cons rfl ((sub_cons rfl ((sub_cons rfl ((sub_nil _)))))))))))))) (by decide) rfl
  refine GHs.cons rfl (Stp.alloc T.zr75 (by decide)) (fun _ => (ulS (ulC (ulC (ulC ulN))))) (fun bq11 _ => ?_) ?_
  ·refine GH.one 7 rfl (by kernel_rfl) (Stp.makeSlice (a1 := 0) (c := n) rfl rfl Tryz.underlying53 T.zr52 T.sz52 T.by52 rfl (Nat.zero_le _) (by omega) (by omega) (by decide)) (fun _ => (ulS (ulS (ulC (ulC (ulC ulN)))))) (fun bq12 _ => ?_)
   rw [madeCells_one, ← hx, ← mpC_zero f xs, hx]
   refine GH.tk 8 (v := (.agg #[(.int .i64 W), (.int .i64 H), (.slice (some ⟨bq12, 0, none⟩) 0 n)])) rfl (by kernel_rfl) (fun _ _ _ h => h) (Ex.build (vs := [(0, (.int .i64 W)), (1, (.int .i64 H)), (2, (.slice (some ⟨bq12, 0, none⟩) 0 n))]) rfl (by first | rfl | kernel_rfl)) (ulS (ulS (ulC (ulC (ulC ulN))))) (by decide) ?_
   refine GH.done (by kernel_rfl) ?_
   refine GE.thenN ?_
   refine GE.tail rfl (Stp.st1 (cs' := [(.int .i64 W), (.int .i64 H), (.slice (some ⟨bq12, 0, none⟩) 0 n)]) rfl rfl rfl T.sz75 rfl rfl rfl) (fun _ _ => ?_)
   refine GE.thenN ?_
   exact St.mk ((bq11, bq12)) trivial (idx := [1, 0, 2, 3, 4]) ((sub_cons rfl ((sub_cons rfl ((sub_cons rfl ((sub_cons rfl ((sub_cons rfl ((sub_cons rfl ((sub_nil _)))))))))))))) (by decide) rfl
  exact GHs.nil
 refine GE.thenN (GC.seq (GC.seq (GC.region ?_)))
 refine GL.val (v := (.pointer (some ⟨bq2, 2, none⟩))) (Ex.cast (Ex.fieldAddr rfl Tryz.underlying75 rfl T.sz53 (by decide)) rfl) (by decide) ?_
 refine GL.val (Ex.load rfl T.ag53 (i := 3) rfl rfl) (by decide) ?_
 refine GL.val (v := (.int .i64 ((n : Int)))) (Ex.len rfl Tryz.underlying53) (by decide) ?_
 refine GL.mv rfl (by decide) ?_
 refine GL.nil (GE.thenN (GC.block ?_))
 refine GC.loop (σ := Nat) (fun i => i ≤ n) (fun i => [(2, (.pointer (some ⟨bq1, 0, none⟩))), (3, (.pointer (some ⟨bq2, 0, none⟩))), (4, (.pointer (some ⟨bq3, 0, none⟩))), (5, (.pointer (some ⟨j8.1, 0, none⟩))), (18, (.slice (some ⟨b, o, none⟩) n cap)), (19, (.int .i64 ((n : Int)))), (20, (.int .i64 (((i : Nat) : Int))))]) (fun i => [⟨j8.1, [(.int .i64 W), (.int .i64 H), (.slice (some ⟨j8.2, 0, none⟩) i n)], 75, true⟩, ⟨j8.2, mpC f xs i, 52, true⟩, ⟨bq3, [(.int .i64 0), (.int .i64 0), (.slice none 0 0)], 75, true⟩, ⟨bq2, [(.int .i64 W), (.int .i64 H), (.slice (some ⟨b, o, none⟩) n cap)], 75, true⟩, ⟨bq1, [(.func (.func fid) fst caps)], 101, true⟩]) (fun i => n - i) (0) (Nat.zero_le _) ((sub_cons rfl ((sub_cons rfl ((sub_cons rfl ((sub_cons rfl ((sub_cons rfl ((sub_cons rfl ((sub_cons rfl ((sub_nil _)))))))))))))))) (ulC (ulC (ulC (ulC (ulC ulN))))) (fun i hp => ?_)
 refine GC.seq (GC.region ?_)
 refine GL.val (v := (.bool (decide ((((i : Nat) : Int)) < ((n : Int)))))) (Ex.lss rfl rfl) (by decide) ?_
 refine GL.nil (GE.thenN (GC.seq ?_))
 refine GC.cond rfl (fun hq13 => ?_) (fun hq13 => ?_)
 ·replace hq13 := of_decide_eq_true hq13
  refine GC.skip (GE.thenN (GC.seq (GC.block (GC.seq (GC.region ?_)))))
  refine GL.val (v := (.pointer (some ⟨b, o + i, none⟩))) (Ex.cast (Ex.indexAddr rfl rfl Tryz.underlying53 T.sz52 (by omega) (by omega)) (by simp)) (by decide) ?_
  refine GL.val (v := (.int .u32 ((xs.getD i 0)))) (Ex.loadO rfl T.ag52 (Rd.at hr (by omega)) (fun x => x)) (by decide) ?_
  refine GL.sg rfl (by decide) ?_
  refine GL.nil (GE.thenN ?_)
  refine GC.join (σ := Unit) (fun j => True) (fun j => [(2, (.pointer (some ⟨bq1, 0, none⟩))), (3, (.pointer (some ⟨bq2, 0, none⟩))), (4, (.pointer (some ⟨bq3, 0, none⟩))), (5, (.pointer (some ⟨j8.1, 0, none⟩))), (7, (.int .u32 ((xs.getD i 0)))), (18, (.slice (some ⟨b, o, none⟩) n cap)), (19, (.int .i64 ((n : Int)))), (20, (.int .i64 (((i : Nat) : Int)))), (21, (.bool (decide ((((i : Nat) : Int)) < ((n : Int)))))), (22, (.pointer (some ⟨b, o + i, none⟩))), (23, (.int .u32 ((xs.getD i 0))))]) (fun j => [⟨j8.1, [(.int .i64 W), (.int .i64 H), (.slice (some ⟨j8.2, 0, none⟩) (i + 1) n)], 75, true⟩, ⟨j8.2, mpC f xs (i + 1), 52, true⟩, ⟨bq3, [(.int .i64 0), (.int .i64 0), (.slice none 0 0)], 75, true⟩, ⟨bq2, [(.int .i64 W), (.int .i64 H), (.slice (some ⟨b, o, none⟩) n cap)], 75, true⟩, ⟨bq1, [(.func (.func fid) fst caps)], 101, true⟩]) ?_ (fun j21 hj => ?_)
  ·refine GC.drawP [⟨bq3, [(.int .i64 0), (.int .i64 0), (.slice none 0 0)], 75, true⟩, ⟨bq2, [(.int .i64 W), (.int .i64 H), (.slice (some ⟨b, o, none⟩) n cap)], 75, true⟩, ⟨bq1, [(.func (.func fid) fst caps)], 101, true⟩] T.mixed (by kernel_rfl) (by kernel_rfl) (fuel := 9) rfl rfl ?_
   refine GH.tk 0 (v := (.pointer (some ⟨j8.1, 2, none⟩))) rfl (by kernel_rfl) (fun _ _ _ h => h) (Ex.cast (Ex.fieldAddr rfl Tryz.underlying75 rfl T.sz53 (by decide)) rfl) (ulS (ulS (ulC (ulC (ulC ulN))))) (by decide) ?_
   refine GH.tk 2 (v := (.pointer (some ⟨bq1, 0, none⟩))) rfl (by kernel_rfl) (fun _ _ _ h => h) (Ex.cast (Ex.fieldAddr rfl Tryz.underlying101 rfl T.sz55 (by decide)) rfl) (ulS (ulS (ulC (ulC (ulC ulN))))) (by decide) ?_
   refine GH.tk 3 (v := (.func (.func fid) fst caps)) rfl (by kernel_rfl) (fun _ _ _ h => h) (Ex.load rfl T.ag55 (i := 2) rfl rfl) (ulS (ulS (ulC (ulC (ulC ulN))))) (by decide) ?_
   refine GH.tk 4 (v := (.int .u32 ((xs.getD i 0)))) rfl (by kernel_rfl) (fun _ _ _ h => h) (Ex.move rfl) (ulS (ulS (ulC (ulC (ulC ulN))))) (by decide) ?_
   refine GH.many (rs := [1, 5]) (by kernel_rfl) (by simp) ?_
   refine GHs.cons rfl (Ex.wp (v := (.slice (some ⟨j8.2, 0, none⟩) i n)) (Ex.load rfl T.ag53 (i := 0) rfl rfl) (by decide)) (fun _ => (ulS (ulS (ulC (ulC (ulC ulN)))))) (fun _ _ => ?_) ?_
   ·refine GH.one 5 rfl (by kernel_rfl) (Stp.callRB (vs := [(.int .u32 ((xs.getD i 0)))]) rfl rfl hf.1 (by decide) (fun wc hw => hf.2 _ (getD_mem (by omega)) wc hw.1)) (fun _ => (ulS (ulS (ulC (ulC (ulC ulN)))))) (fun xq22 hq23 => ?_)
    refine GH.one 6 rfl (by kernel_rfl) (Stp.buildSlice (cs := [(.int .u32 ((f (xs.getD i 0))))]) (vs := [(0, (.int .u32 ((f (xs.getD i 0)))))]) Tryz.underlying53 T.zr52 T.sz52 rfl (by decide) (by decide) (by first | rfl | kernel_rfl) (by decide)) (fun _ => (ulS (ulS (ulS (ulC (ulC (ulC ulN))))))) (fun bq24 _ => ?_)
    refine GH.one 7 rfl (by kernel_rfl) (Stp.appendFits (i := 2) (vs := [.int .u32 (f (xs.getD i 0))]) (L1 := [⟨bq24, [(.int .u32 ((f (xs.getD i 0))))], 52, true⟩, ⟨j8.1, [(.int .i64 W), (.int .i64 H), (.slice (some ⟨j8.2, 0, none⟩) i n)], 75, true⟩, ⟨j8.2, mpC f xs (i + 1), 52, true⟩, ⟨bq3, [(.int .i64 0), (.int .i64 0), (.slice none 0 0)], 75, true⟩, ⟨bq2, [(.int .i64 W), (.int .i64 H), (.slice (some ⟨b, o, none⟩) n cap)], 75, true⟩, ⟨bq1, [(.func (.func fid) fst caps)], 101, true⟩]) rfl rfl Tryz.underlying53 T.sz52 rfl (fun w hw => hw.rdOf (i := 0) rfl 0) rfl rfl (len' := i + 1) rfl (by omega) (by rw [mpC_len _ _ _ (by omega)]; simp; omega) (by rw [Nat.mul_one, mpC_step _ _ _ (by omega)]; rfl) (by decide)) (fun _ => (ulS (ulS (ulS (ulC (ulC (ulC ulN))))))) (fun _ _ => ?_)
    refine GH.tk 8 (v := (.pointer (some ⟨j8.1, 2, none⟩))) rfl (by kernel_rfl) (fun _ _ _ h => h) (Ex.cast (Ex.fieldAddr rfl Tryz.underlying75 rfl T.sz53 (by decide)) rfl) (ulS (ulS (ulS (ulC (ulC (ulC ulN)))))) (by decide) ?_
    refine GH.done (by kernel_rfl) ?_
    refine GE.thenN ?_
    refine GE.tail rfl (Stp.st1 (cs' := [(.int .i64 W), (.int .i64 H), (.slice (some ⟨j8.2, 0, none⟩) (i + 1) n)]) rfl rfl rfl T.sz53 rfl rfl rfl) (fun _ _ => ?_)
    refine GE.thenN ?_
    exact St.mk (()) trivial (idx := [1, 2, 3, 4, 5]) ((sub_cons rfl ((sub_cons rfl ((sub_cons rfl ((sub_cons rfl ((sub_cons rfl ((sub_cons rfl ((sub_cons rfl ((sub_cons rfl ((sub_cons rfl ((sub_cons rfl ((sub_cons rfl ((sub_nil _)))))))))))))))))))))))) (by decide) rfl
   refine GHs.cons rfl (Stp.callRB (vs := [(.int .u32 ((xs.getD i 0)))]) rfl rfl hf.1 (by decide) (fun wc hw => hf.2 _ (getD_mem (by omega)) wc hw.1)) (fun _ => (ulS (ulS (ulC (ulC (ulC ulN)))))) (fun xq25 hq26 => ?_) ?_
   ·refine GH.many (rs := [1, 6]) (by kernel_rfl) (by simp) ?_
    refine GHs.cons rfl (Ex.wp (v := (.slice (some ⟨j8.2, 0, none⟩) i n)) (Ex.load rfl T.ag53 (i := 0) rfl rfl) (by decide)) (fun _ => (ulS (ulS (ulC (ulC (ulC ulN)))))) (fun _ _ => ?_) ?_
    ·refine GH.one 6 rfl (by kernel_rfl) (Stp.buildSlice (cs := [(.int .u32 ((f (xs.getD i 0))))]) (vs := [(0, (.int .u32 ((f (xs.getD i 0)))))]) Tryz.underlying53 T.zr52 T.sz52 rfl (by decide) (by decide) (by first | rfl | kernel_rfl) (by decide)) (fun _ => (ulS (ulS (ulS (ulC (ulC (ulC ulN))))))) (fun bq27 _ => ?_)
     refine GH.one 7 rfl (by kernel_rfl) (Stp.appendFits (i := 2) (vs := [.int .u32 (f (xs.getD i 0))]) (L1 := [⟨bq27, [(.int .u32 ((f (xs.getD i 0))))], 52, true⟩, ⟨j8.1, [(.int .i64 W), (.int .i64 H), (.slice (some ⟨j8.2, 0, none⟩) i n)], 75, true⟩, ⟨j8.2, mpC f xs (i + 1), 52, true⟩, ⟨bq3, [(.int .i64 0), (.int .i64 0), (.slice none 0 0)], 75, true⟩, ⟨bq2, [(.int .i64 W), (.int .i64 H), (.slice (some ⟨b, o, none⟩) n cap)], 75, true⟩, ⟨bq1, [(.func (.func fid) fst caps)], 101, true⟩]) rfl rfl Tryz.underlying53 T.sz52 rfl (fun w hw => hw.rdOf (i := 0) rfl 0) rfl rfl (len' := i + 1) rfl (by omega) (by rw [mpC_len _ _ _ (by omega)]; simp; omega) (by rw [Nat.mul_one, mpC_step _ _ _ (by omega)]; rfl) (by decide)) (fun _ => (ulS (ulS (ulS (ulC (ulC (ulC ulN))))))) (fun _ _ => ?_)
     refine GH.tk 8 (v := (.pointer (some ⟨j8.1, 2, none⟩))) rfl (by kernel_rfl) (fun _ _ _ h => h) (Ex.cast (Ex.fieldAddr rfl Tryz.underlying75 rfl T.sz53 (by decide)) rfl) (ulS (ulS (ulS (ulC (ulC (ulC ulN)))))) (by decide) ?_
     refine GH.done (by kernel_rfl) ?_
     refine GE.thenN ?_
     refine GE.tail rfl (Stp.st1 (cs' := [(.int .i64 W), (.int .i64 H), (.slice (some ⟨j8.2, 0, none⟩) (i + 1) n)]) rfl rfl rfl T.sz53 rfl rfl rfl) (fun _ _ => ?_)
     refine GE.thenN ?_
     exact St.mk (()) trivial (idx := [1, 2, 3, 4, 5]) ((sub_cons rfl ((sub_cons rfl ((sub_cons rfl ((sub_cons rfl ((sub_cons rfl ((sub_cons rfl ((sub_cons rfl ((sub_cons rfl ((sub_cons rfl ((sub_cons rfl ((sub_cons rfl ((sub_nil _)))))))))))))))))))))))) (by decide) rfl
    refine GHs.cons rfl (Stp.buildSlice (cs := [(.int .u32 ((f (xs.getD i 0))))]) (vs := [(0, (.int .u32 ((f (xs.getD i 0)))))]) Tryz.underlying53 T.zr52 T.sz52 rfl (by decide) (by decide) (by first | rfl | kernel_rfl) (by decide)) (fun _ => (ulS (ulS (ulS (ulC (ulC (ulC ulN))))))) (fun bq28 _ => ?_) ?_
    ·refine GH.one 1 rfl (by kernel_rfl) (Ex.wp (v := (.slice (some ⟨j8.2, 0, none⟩) i n)) (Ex.load rfl T.ag53 (i := 1) rfl rfl) (by decide)) (fun _ => (ulS (ulS (ulS (ulC (ulC (ulC ulN))))))) (fun _ _ => ?_)
     refine GH.one 7 rfl (by kernel_rfl) (Stp.appendFits (i := 2) (vs := [.int .u32 (f (xs.getD i 0))]) (L1 := [⟨bq28, [(.int .u32 ((f (xs.getD i 0))))], 52, true⟩, ⟨j8.1, [(.int .i64 W), (.int .i64 H), (.slice (some ⟨j8.2, 0, none⟩) i n)], 75, true⟩, ⟨j8.2, mpC f xs (i + 1), 52, true⟩, ⟨bq3, [(.int .i64 0), (.int .i64 0), (.slice none 0 0)], 75, true⟩, ⟨bq2, [(.int .i64 W), (.int .i64 H), (.slice (some ⟨b, o, none⟩) n cap)], 75, true⟩, ⟨bq1, [(.func (.func fid) fst caps)], 101, true⟩]) rfl rfl Tryz.underlying53 T.sz52 rfl (fun w hw => hw.rdOf (i := 0) rfl 0) rfl rfl (len' := i + 1) rfl (by omega) (by rw [mpC_len _ _ _ (by omega)]; simp; omega) (by rw [Nat.mul_one, mpC_step _ _ _ (by omega)]; rfl) (by decide)) (fun _ => (ulS (ulS (ulS (ulC (ulC (ulC ulN))))))) (fun _ _ => ?_)
     refine GH.tk 8 (v := (.pointer (some ⟨j8.1, 2, none⟩))) rfl (by kernel_rfl) (fun _ _ _ h => h) (Ex.cast (Ex.fieldAddr rfl Tryz.underlying75 rfl T.sz53 (by decide)) rfl) (ulS (ulS (ulS (ulC (ulC (ulC ulN)))))) (by decide) ?_
     refine GH.done (by kernel_rfl) ?_
     refine GE.thenN ?_
     refine GE.tail rfl (Stp.st1 (cs' := [(.int .i64 W), (.int .i64 H), (.slice (some ⟨j8.2, 0, none⟩) (i + 1) n)]) rfl rfl rfl T.sz53 rfl rfl rfl) (fun _ _ => ?_)
     refine GE.thenN ?_
     exact St.mk (()) trivial (idx := [1, 2, 3, 4, 5]) ((sub_cons rfl ((sub_cons rfl ((sub_cons rfl ((sub_cons rfl ((sub_cons rfl ((sub_cons rfl ((sub_cons rfl ((sub_cons rfl ((sub_cons rfl ((sub_cons rfl ((sub_cons rfl ((sub_nil _)))))))))))))))))))))))) (by decide) rfl
    exact GHs.nil
   exact GHs.nil
  refine GE.blockN (GE.thenN (GC.region ?_))
  refine GL.val (v := (.int .i64 (((i + 1 : Nat) : Int)))) (Ex.add rfl rfl (Z := ((i + 1 : Nat) : Int)) (by rw [w64 (by omega)]; rfl)) (by decide) ?_
  refine GL.mv rfl (by decide) ?_
  refine GL.nil (GE.thenN ?_)
  exact Head.mk (i + 1) (by omega) (by omega) ((sub_cons rfl ((sub_cons rfl ((sub_cons rfl ((sub_cons rfl ((sub_cons rfl ((sub_cons rfl ((sub_cons rfl ((sub_nil _)))))))))))))))) (ulC (ulC (ulC (ulC (ulC ulN)))))
 ·replace hq13 := of_decide_eq_false hq13
  refine GC.exit (GE.thenE (GE.thenE (GE.blockE (GE.thenN (GC.seq ?_)))))
  rw [show i = n from by omega, ← hx, mpC_full, hx]
  refine GC.region ?_
  refine GL.val (v := (.agg #[(.int .i64 W), (.int .i64 H), (.slice (some ⟨j8.2, 0, none⟩) n n)])) (Ex.loadA rfl T.ag75 T.sz75 (i := 0) rfl (vs := [(.int .i64 W), (.int .i64 H), (.slice (some ⟨j8.2, 0, none⟩) n n)]) rfl rfl) (by decide) ?_
  refine GL.step (Stp.st2 (cs' := [(.int .i64 W), (.int .i64 H), (.slice (some ⟨j8.2, 0, none⟩) n n)]) rfl rfl rfl T.sz75 rfl rfl rfl) (fun _ _ => ?_)
  refine GL.nil (GE.thenN (GC.ret ?_))
  refine GC.ret1 rfl (Rv.cellA rfl T.ag75 T.sz75 (L := _) (i := 2) rfl (vs := [(.int .i64 W), (.int .i64 H), (.slice (some ⟨j8.2, 0, none⟩) n n)]) rfl rfl) (fun wN HN => ?_)
  exact HN.ret (j8.2, n, ([] : List Value)) ⟨by simp [hx], (show n ≤ 9223372036854775807 by omega)⟩ (by simp [hx]) (by rw [List.append_nil]; exact (ulS (ulC (ulS (ulS (ulS ulN)))))) (by rfl)

theorem chplane_p (p : Pn) (W H : Nat) (fid : FuncId) (fst caps : Array Value) (f : Int → Int) (w : World) (hok : okP W H) (h : p.W = (W : Int) ∧ p.H = (H : Int) ∧ p.n = W * H) (hp : p.Ok w) (hf : FnS Tryz.prog w fid fst caps p.xs f) : Calls Tryz.prog 57 #[(.agg #[(.func (.func fid) fst caps)]), .agg #[.int .i64 p.W, .int .i64 p.H, .slice p.ad p.n p.cap]] w (RetP w (p.W, p.H, p.xs.map f) 52) := by
 obtain ⟨pw, ph, ad, n, cap, xs⟩ := p
 obtain ⟨h1, h2, h3⟩ := h
 obtain ⟨hl, hb⟩ := hp
 dsimp only at h1 h2 h3 hl hb
 subst h1 h2 h3
 have hq := Nat.mul_pos (show 0 < W from hok.1) (show 0 < H from hok.2.1)
 rcases hl.2.2.2 with q | ⟨b, o, rfl, hr⟩
 ·omega
 ·exact chplane W H b o (W * H) cap xs fid fst caps f w hl.1 hq hb hr hf

theorem map1_all (i W H bn bd : Nat) (k : Int) (p : Pn) (fid : FuncId) (fst caps : Array Value) (f : Int → Int) (w : World) (hh : Has w [⟨bn, [(.int .i64 k)], 3, false⟩, ⟨bd, [(.func (.func 57) #[(.agg #[(.func (.func fid) fst caps)])] #[])], 91, false⟩]) (hok : okP W H) (h : p.W = (W : Int) ∧ p.H = (H : Int) ∧ p.n = W * H) (hp : p.Ok w) (hf : FnS Tryz.prog w fid fst caps p.xs f) (hk : k = -1) :
  Calls Tryz.prog 58 #[(.int .i64 (((i : Nat) : Int))), (.agg #[(.int .i64 p.W), (.int .i64 p.H), (.slice p.ad p.n p.cap)]), (.pointer (some ⟨bn, 0, none⟩)), (.pointer (some ⟨bd, 0, none⟩))] w (RetE w (p.W, p.H, p.xs.map f) 52) := by
 refine enter (M := None) (L := [⟨bn, [(.int .i64 k)], 3, false⟩, ⟨bd, [(.func (.func 57) #[(.agg #[(.func (.func fid) fst caps)])] #[])], 91, false⟩]) (n := 20) (l := [(0, (.int .i64 (((i : Nat) : Int)))), (1, (.agg #[(.int .i64 p.W), (.int .i64 p.H), (.slice p.ad p.n p.cap)])), (2, (.pointer (some ⟨bn, 0, none⟩))), (3, (.pointer (some ⟨bd, 0, none⟩)))]) Tryz.func58 rfl rfl (Args.cons rfl (Args.cons rfl (Args.cons rfl (Args.cons rfl (Args.nil _))))) (Hp.reads hh rfl) ?_
 refine GC.seq (GC.region ?_)
 refine GL.step (Stp.box (cs := [(.int .i64 p.W), (.int .i64 p.H), (.slice p.ad p.n p.cap)]) rfl rfl (by decide)) (fun bq1 _ => ?_)
 refine GL.step (Stp.alloc T.zr75 (by decide)) (fun bq2 _ => ?_)
 refine GL.sg rfl (by decide) ?_
 refine GL.nil (GE.thenN (GC.seq (GC.seq (GC.region ?_))))
 refine GL.val (Ex.load rfl T.ag3 (i := 2) rfl rfl) (by decide) ?_
 refine GL.val (v := (.bool false)) (Ex.cast (Ex.neq rfl rfl) (congrArg Value.bool (decide_eq_false (by exact fun h => h hk)))) (by decide) ?_
 refine GL.mv rfl (by decide) ?_
 refine GL.skipG (tj := 10) rfl rfl rfl (by decide) ?_
 refine GL.skipG (tj := 10) rfl rfl rfl (by decide) ?_
 refine GL.skipG (tj := 10) rfl rfl rfl (by decide) ?_
 refine GL.val (v := (.bool false)) (Ex.pickF rfl rfl) (by decide) ?_
 refine GL.nil (GE.thenN ?_)
 refine GC.cond rfl (fun hq3 => by cases hq3) (fun _ => ?_)
 refine GC.skip (GE.thenN (GC.seq (GC.region ?_)))
 refine GL.val (Ex.load rfl T.ag91 (i := 3) rfl rfl) (by decide) ?_
 refine GL.val (v := (.agg #[(.int .i64 p.W), (.int .i64 p.H), (.slice p.ad p.n p.cap)])) (Ex.loadA rfl T.ag75 T.sz75 (i := 1) rfl (vs := [(.int .i64 p.W), (.int .i64 p.H), (.slice p.ad p.n p.cap)]) rfl rfl) (by decide) ?_
 refine GL.step (Stp.callRB (σ := Nat × Nat × List Value) (p := fun rz => ((p.W, p.H, p.xs.map f).2.2.map u32 ++ rz.2.2).length = rz.2.1 * 1 ∧ rz.2.1 ≤ 9223372036854775807) (v := fun rz => (.agg #[(.int .i64 ((p.W, p.H, p.xs.map f).1)), (.int .i64 ((p.W, p.H, p.xs.map f).2.1)), (.slice (some ⟨rz.1, 0, none⟩) ((p.W, p.H, p.xs.map f).2.2.length) rz.2.1)])) (N := fun rz => [⟨rz.1, (p.W, p.H, p.xs.map f).2.2.map u32 ++ rz.2.2, 52, true⟩]) (vs := [(.agg #[(.int .i64 p.W), (.int .i64 p.H), (.slice p.ad p.n p.cap)])]) rfl rfl T.own57 (by decide) (fun wc hw => (by exact chplane_p p W H fid fst caps f wc hok h (hp.later hw.1) (hf.later hw.1)))) (fun xq4 hq5 => ?_)
 refine GL.step (Stp.st1 (cs' := [(.int .i64 ((p.W, p.H, p.xs.map f).1)), (.int .i64 ((p.W, p.H, p.xs.map f).2.1)), (.slice (some ⟨xq4.1, 0, none⟩) ((p.W, p.H, p.xs.map f).2.2.length) xq4.2.1)]) rfl rfl rfl T.sz75 rfl rfl rfl) (fun _ _ => ?_)
 refine GL.sg rfl (by decide) ?_
 refine GL.nil (GE.thenN (GC.ret ?_))
 refine GC.ret2 rfl (Rv.cellA rfl T.ag75 T.sz75 (L := _) (i := 1) rfl (vs := [(.int .i64 ((p.W, p.H, p.xs.map f).1)), (.int .i64 ((p.W, p.H, p.xs.map f).2.1)), (.slice (some ⟨xq4.1, 0, none⟩) ((p.W, p.H, p.xs.map f).2.2.length) xq4.2.1)]) rfl rfl) (Rv.tmp rfl) (fun wN HN => ?_)
 exact HN.ret xq4 hq5 rfl (ulC (ulS (ulS (ulS (ulS ulN))))) rfl

theorem map_all (sp : Int) (b o n cap : Nat) (ps : List Pn) (W H : Nat) (fid : FuncId) (fst caps : Array Value) (f : Int → Int) (w : World) (hps : Pns w b o ps) (hn : n = ps.length) (hok : OkPic sp ps W H) (hf : ∀ p ∈ ps, FnS Tryz.prog w fid fst caps p.xs f) :
  Calls Tryz.prog 17 #[(.agg #[(.int .i64 sp), (.slice (some ⟨b, o, none⟩) n cap)]), (.int .i64 (-1)), (.func (.func fid) fst caps)] w (Ret w (fun r : Ac => r.qs ≠ [] ∧ r.ds = ((List.range n).map (mpG f ((-1)) ps)) ∧ r.Ok ∧ ∀ q ∈ r.qs, q.Ok) (fun r => .tuple #[(.agg #[(.int .i64 sp), (.slice r.ad r.n r.cp)]), .int .i64 0]) (fun r => r.blks 75 52)) := by
 refine enter (M := None) (L := []) (n := 33) (l := [(0, (.agg #[(.int .i64 sp), (.slice (some ⟨b, o, none⟩) n cap)])), (1, (.int .i64 (-1))), (2, (.func (.func fid) fst caps))]) Tryz.func17 rfl rfl (Args.cons rfl (Args.cons rfl (Args.cons rfl (Args.nil _)))) (Hp.start _ _) ?_
 refine GC.seq (GC.region ?_)
 refine GL.step (Stp.box (cs := [(.int .i64 sp), (.slice (some ⟨b, o, none⟩) n cap)]) rfl rfl (by decide)) (fun bq1 _ => ?_)
 refine GL.step (Stp.box (cs := [(.int .i64 (-1))]) rfl rfl (by decide)) (fun bq2 _ => ?_)
 refine GL.step (Stp.alloc T.zr24 (by decide)) (fun bq3 _ => ?_)
 refine GL.sg rfl (by decide) ?_
 refine GL.nil (GE.thenN (GC.seq (GC.seq (GC.region ?_))))
 refine GL.val (v := (.agg #[(.int .i64 sp), (.slice (some ⟨b, o, none⟩) n cap)])) (Ex.loadA rfl T.ag24 T.sz24 (i := 2) rfl (vs := [(.int .i64 sp), (.slice (some ⟨b, o, none⟩) n cap)]) rfl rfl) (by decide) ?_
 refine GL.step (Stp.callR (σ := Unit) (p := fun rz => True) (v := fun rz => (.int .i64 0)) (N := fun rz => []) (vs := [(.agg #[(.int .i64 sp), (.slice (some ⟨b, o, none⟩) n cap)])]) rfl rfl T.own48 (by decide) (fun wc hw => (by have h := chk_p sp b o n cap ps wc (hps.later hw.1) hn (by have := hok.n4; omega); rw [hok.chk] at h; exact h))) (fun xq4 hq5 => ?_)
 refine GL.sg rfl (by decide) ?_
 refine GL.nil (GE.thenN (GC.seq (GC.region ?_)))
 refine GL.mv rfl (by decide) ?_
 refine GL.val (v := (.bool false)) (Ex.cast (Ex.neq rfl rfl) rfl) (by decide) ?_
 refine GL.nil (GE.thenN ?_)
 refine GC.cond rfl (fun hq6 => by cases hq6) (fun _ => ?_)
 refine GC.skip (GE.thenN (GC.seq (GC.seq (GC.region ?_))))
 refine GL.val (Ex.load rfl T.ag3 (i := 1) rfl rfl) (by decide) ?_
 refine GL.val (v := (.bool false)) (Ex.cast (Ex.neq rfl rfl) rfl) (by decide) ?_
 refine GL.mv rfl (by decide) ?_
 refine GL.skipG (tj := 18) rfl rfl rfl (by decide) ?_
 refine GL.skipG (tj := 18) rfl rfl rfl (by decide) ?_
 refine GL.skipG (tj := 18) rfl rfl rfl (by decide) ?_
 refine GL.skipG (tj := 18) rfl rfl rfl (by decide) ?_
 refine GL.val (v := (.bool false)) (Ex.pickF rfl rfl) (by decide) ?_
 refine GL.nil (GE.thenN ?_)
 refine GC.cond rfl (fun hq7 => by cases hq7) (fun _ => ?_)
 refine GC.skip (GE.thenN (GC.seq (GC.region ?_)))
 refine GL.mv rfl (by decide) ?_
 refine GL.val (v := (.agg #[(.func (.func fid) fst caps)])) (Ex.build (vs := [(0, (.func (.func fid) fst caps))]) rfl (by first | rfl | kernel_rfl)) (by decide) ?_
 refine GL.val (v := (.func (.func 57) #[(.agg #[(.func (.func fid) fst caps)])] #[])) (Ex.funcB (bs := [(.agg #[(.func (.func fid) fst caps)])]) (cs := []) (fun _ hF => hF.evals _ _ rfl) (fun _ hF => hF.evals _ _ rfl)) (by decide) ?_
 refine GL.step (Stp.alloc T.zr91 (by decide)) (fun bq8 _ => ?_)
 refine GL.step (Stp.st0 (cs' := [(.func (.func 57) #[(.agg #[(.func (.func fid) fst caps)])] #[])]) rfl rfl rfl T.sz91 rfl rfl rfl) (fun _ _ => ?_)
 refine GL.nil (GE.thenN (GC.seq (GC.region ?_)))
 refine GL.val (v := (.agg #[(.int .i64 sp), (.slice (some ⟨b, o, none⟩) n cap)])) (Ex.loadA rfl T.ag24 T.sz24 (i := 3) rfl (vs := [(.int .i64 sp), (.slice (some ⟨b, o, none⟩) n cap)]) rfl rfl) (by decide) ?_
 refine GL.val (v := (.func (.func 58) #[] #[(.pointer (some ⟨bq2, 0, none⟩)), (.pointer (some ⟨bq8, 0, none⟩))])) (Ex.func (cs := [(.pointer (some ⟨bq2, 0, none⟩)), (.pointer (some ⟨bq8, 0, none⟩))]) rfl (fun _ hF => hF.evals _ _ rfl)) (by decide) ?_
 refine GL.step (Stp.call (vs := [(.agg #[(.int .i64 sp), (.slice (some ⟨b, o, none⟩) n cap)]), (.func (.func 58) #[] #[(.pointer (some ⟨bq2, 0, none⟩)), (.pointer (some ⟨bq8, 0, none⟩))])]) rfl rfl T.own36 (by decide) (fun wc hw => (Ret.frm (L' := fun x => (⟨bq8, [(.func (.func 57) #[(.agg #[(.func (.func fid) fst caps)])] #[])], 91, true⟩ :: ⟨bq3, [(.int .i64 0), (.slice none 0 0)], 24, true⟩ :: ⟨bq2, [(.int .i64 (-1))], 3, true⟩ :: ⟨bq1, [(.int .i64 sp), (.slice (some ⟨b, o, none⟩) n cap)], 24, true⟩ :: (x.blks 75 52 ++ []))) hw (every_ok sp b o n cap ps W H 58 #[.pointer (some ⟨bq2, 0, none⟩), .pointer (some ⟨bq8, 0, none⟩)] (mpG f ((-1)) ps) wc (hps.later hw.1) hn hok ⟨T.own58, fun i hi w' hk' => by
  have hh := ((Has.cons (hw.hasOf (i := 2) rfl) (Has.cons (hw.hasOf (i := 0) rfl) (Has.nil _)) : Has wc [⟨bq2, [.int .i64 (-1)], 3, false⟩, ⟨bq8, [(.func (.func 57) #[(.agg #[(.func (.func fid) fst caps)])] #[])], 91, false⟩]).later hk')
  rw [show mpG f (-1) ps i = _ from if_pos (Or.inl rfl)]; exact map1_all i W H bq2 bq8 (-1) (pAt ps i) fid fst caps f w' hh hok.ok (hok.at hi) ((hps.ok _ (pAt_mem hi)).later (hw.1.trans hk' (fun _ _ h => h))) ((hf _ (pAt_mem hi)).later (hw.1.trans hk' (fun _ _ h => h))) rfl⟩) (fun x w' _ h => by exact Hp.segsD (A := [x.blks 75 52, [⟨bq8, [(.func (.func 57) #[(.agg #[(.func (.func fid) fst caps)])] #[])], 91, true⟩, ⟨bq3, [(.int .i64 0), (.slice none 0 0)], 24, true⟩, ⟨bq2, [(.int .i64 (-1))], 3, true⟩, ⟨bq1, [(.int .i64 sp), (.slice (some ⟨b, o, none⟩) n cap)], 24, true⟩]]) (idx := [1, 0]) 2 [] h rfl (by decide) rfl)))) (fun xq9 hq10 => ?_)
 refine GL.val (Ex.extract rfl rfl) (by decide) ?_
 refine GL.val (Ex.extract rfl rfl) (by decide) ?_
 refine GL.step (Stp.st1 (cs' := [(.int .i64 sp), (.slice xq9.ad xq9.n xq9.cp)]) rfl rfl rfl T.sz24 rfl rfl rfl) (fun _ _ => ?_)
 refine GL.sg rfl (by decide) ?_
 refine GL.nil (GE.thenN (GC.ret ?_))
 refine GC.ret2 rfl (Rv.cellA rfl T.ag24 T.sz24 (L := _) (i := 1) rfl (vs := [(.int .i64 sp), (.slice xq9.ad xq9.n xq9.cp)]) rfl rfl) (Rv.tmp rfl) (fun wN HN => ?_)
 exact HN.ret xq9 hq10 rfl (by rw [List.append_nil]; exact ((ulS (ulS (ulS (ulS ulR)))))) (Ac.blks_own _ _ _)

theorem affine_at (a b_ s r : Int) (w : World) (hf : ∀ w', Keep None w w' → Calls Tryz.prog 101 #[.int .u32 s, .int .u32 a, .int .u32 b_] w' (Ret w' (fun _ : Unit => True) (fun _ => .int .u32 r) (fun _ => []))) :
  Calls Tryz.prog 61 #[(.agg #[(.int .u32 a), (.int .u32 b_)]), (.int .u32 s)] w (Ret w (fun _ : Unit => True) (fun _ => .int .u32 r) (fun _ => [])) := by
 refine enter (M := None) (L := []) (n := 11) (l := [(0, (.agg #[(.int .u32 a), (.int .u32 b_)])), (1, (.int .u32 s))]) Tryz.func61 rfl rfl (Args.cons rfl (Args.cons rfl (Args.nil _))) (Hp.start _ _) ?_
 refine GC.seq (GC.region ?_)
 refine GL.step (Stp.box (cs := [(.int .u32 a), (.int .u32 b_)]) rfl rfl (by decide)) (fun bq1 _ => ?_)
 refine GL.sg rfl (by decide) ?_
 refine GL.nil (GE.thenN (GC.seq (GC.region ?_)))
 refine GL.mv rfl (by decide) ?_
 refine GL.val (v := (.pointer (some ⟨bq1, 0, none⟩))) (Ex.cast (Ex.fieldAddr rfl Tryz.underlying105 rfl T.sz52 (by decide)) rfl) (by decide) ?_
 refine GL.val (Ex.load rfl T.ag52 (i := 0) rfl rfl) (by decide) ?_
 refine GL.val (v := (.pointer (some ⟨bq1, 1, none⟩))) (Ex.cast (Ex.fieldAddr rfl Tryz.underlying105 rfl T.sz52 (by decide)) rfl) (by decide) ?_
 refine GL.val (Ex.load rfl T.ag52 (i := 0) rfl rfl) (by decide) ?_
 refine GL.step (Stp.callR (vs := [(.int .u32 s), (.int .u32 a), (.int .u32 b_)]) rfl rfl T.own101 (by decide) (fun wc hw => hf wc hw.1)) (fun xq2 hq3 => ?_)
 refine GL.sg rfl (by decide) ?_
 refine GL.nil (GE.thenN (GC.ret ?_))
 refine GC.ret1 rfl (Rv.tmp rfl) (fun wN HN => ?_)
 exact HN.ret () trivial rfl (List.nil_sublist _) rfl

theorem affine_all (sp : Int) (b o n cap : Nat) (ps : List Pn) (W H : Nat) (a b_ : Int) (f : Int → Int) (w : World) (hps : Pns w b o ps) (hn : n = ps.length) (hok : OkPic sp ps W H) (hf : ∀ p ∈ ps, ∀ x ∈ p.xs, ∀ w', Keep None w w' → Calls Tryz.prog 101 #[.int .u32 x, .int .u32 a, .int .u32 b_] w' (Ret w' (fun _ : Unit => True) (fun _ => .int .u32 (f x)) (fun _ => []))) :
  Calls Tryz.prog 23 #[(.agg #[(.int .i64 sp), (.slice (some ⟨b, o, none⟩) n cap)]), (.int .i64 (-1)), (.int .u32 a), (.int .u32 b_)] w (Ret w (fun r : Ac => r.qs ≠ [] ∧ r.ds = ((List.range n).map (mpG f ((-1)) ps)) ∧ r.Ok ∧ ∀ q ∈ r.qs, q.Ok) (fun r => .tuple #[(.agg #[(.int .i64 sp), (.slice r.ad r.n r.cp)]), .int .i64 0]) (fun r => r.blks 75 52)) := by
 refine enter (M := None) (L := []) (n := 19) (l := [(0, (.agg #[(.int .i64 sp), (.slice (some ⟨b, o, none⟩) n cap)])), (1, (.int .i64 (-1))), (2, (.int .u32 a)), (3, (.int .u32 b_))]) Tryz.func23 rfl rfl (Args.cons rfl (Args.cons rfl (Args.cons rfl (Args.cons rfl (Args.nil _))))) (Hp.start _ _) ?_
 refine GC.seq (GC.region ?_)
 refine GL.step (Stp.box (cs := [(.int .i64 sp), (.slice (some ⟨b, o, none⟩) n cap)]) rfl rfl (by decide)) (fun bq1 _ => ?_)
 refine GL.step (Stp.alloc T.zr24 (by decide)) (fun bq2 _ => ?_)
 refine GL.sg rfl (by decide) ?_
 refine GL.nil (GE.thenN (GC.seq (GC.region ?_)))
 refine GL.val (v := (.agg #[(.int .i64 sp), (.slice (some ⟨b, o, none⟩) n cap)])) (Ex.loadA rfl T.ag24 T.sz24 (i := 1) rfl (vs := [(.int .i64 sp), (.slice (some ⟨b, o, none⟩) n cap)]) rfl rfl) (by decide) ?_
 refine GL.mv rfl (by decide) ?_
 refine GL.mv rfl (by decide) ?_
 refine GL.mv rfl (by decide) ?_
 refine GL.val (v := (.agg #[(.int .u32 a), (.int .u32 b_)])) (Ex.build (vs := [(0, (.int .u32 a)), (1, (.int .u32 b_))]) rfl (by first | rfl | kernel_rfl)) (by decide) ?_
 refine GL.val (v := (.func (.func 61) #[(.agg #[(.int .u32 a), (.int .u32 b_)])] #[])) (Ex.funcB (bs := [(.agg #[(.int .u32 a), (.int .u32 b_)])]) (cs := []) (fun _ hF => hF.evals _ _ rfl) (fun _ hF => hF.evals _ _ rfl)) (by decide) ?_
 refine GL.step (Stp.call (vs := [(.agg #[(.int .i64 sp), (.slice (some ⟨b, o, none⟩) n cap)]), (.int .i64 (-1)), (.func (.func 61) #[(.agg #[(.int .u32 a), (.int .u32 b_)])] #[])]) rfl rfl T.own17 (by decide) (fun wc hw => (Ret.frm (L' := fun x => (⟨bq2, [(.int .i64 0), (.slice none 0 0)], 24, true⟩ :: ⟨bq1, [(.int .i64 sp), (.slice (some ⟨b, o, none⟩) n cap)], 24, true⟩ :: (x.blks 75 52 ++ []))) hw (map_all sp b o n cap ps W H 61 #[(.agg #[(.int .u32 a), (.int .u32 b_)])] #[] f wc (hps.later hw.1) hn hok (fun p hp => ⟨T.own61, fun x hx w2 h2 => affine_at a b_ x (f x) w2 (fun w3 h3 => hf p hp x hx w3 (hw.1.trans (h2.trans h3 (fun _ _ h => h)) (fun _ _ h => h)))⟩)) (fun x w' _ h => by exact Hp.segsD (A := [x.blks 75 52, [⟨bq2, [(.int .i64 0), (.slice none 0 0)], 24, true⟩, ⟨bq1, [(.int .i64 sp), (.slice (some ⟨b, o, none⟩) n cap)], 24, true⟩]]) (idx := [1, 0]) 2 [] h rfl (by decide) rfl)))) (fun xq3 hq4 => ?_)
 refine GL.val (Ex.extract rfl rfl) (by decide) ?_
 refine GL.val (Ex.extract rfl rfl) (by decide) ?_
 refine GL.step (Stp.st0 (cs' := [(.int .i64 sp), (.slice xq3.ad xq3.n xq3.cp)]) rfl rfl rfl T.sz24 rfl rfl rfl) (fun _ _ => ?_)
 refine GL.sg rfl (by decide) ?_
 refine GL.nil (GE.thenN (GC.ret ?_))
 refine GC.ret2 rfl (Rv.cellA rfl T.ag24 T.sz24 (L := _) (i := 0) rfl (vs := [(.int .i64 sp), (.slice xq3.ad xq3.n xq3.cp)]) rfl rfl) (Rv.tmp rfl) (fun wN HN => ?_)
 exact HN.ret xq3 hq4 rfl (by rw [List.append_nil]; exact ((ulS (ulS ulR)))) (Ac.blks_own _ _ _)

theorem between_at (a b_ s r : Int) (w : World) (hf : ∀ w', Keep None w w' → Calls Tryz.prog 102 #[.int .u32 s, .int .u32 a, .int .u32 b_] w' (Ret w' (fun _ : Unit => True) (fun _ => .int .u32 r) (fun _ => []))) :
  Calls Tryz.prog 62 #[(.agg #[(.int .u32 a), (.int .u32 b_)]), (.int .u32 s)] w (Ret w (fun _ : Unit => True) (fun _ => .int .u32 r) (fun _ => [])) := by
 refine enter (M := None) (L := []) (n := 11) (l := [(0, (.agg #[(.int .u32 a), (.int .u32 b_)])), (1, (.int .u32 s))]) Tryz.func62 rfl rfl (Args.cons rfl (Args.cons rfl (Args.nil _))) (Hp.start _ _) ?_
 refine GC.seq (GC.region ?_)
 refine GL.step (Stp.box (cs := [(.int .u32 a), (.int .u32 b_)]) rfl rfl (by decide)) (fun bq1 _ => ?_)
 refine GL.sg rfl (by decide) ?_
 refine GL.nil (GE.thenN (GC.seq (GC.region ?_)))
 refine GL.mv rfl (by decide) ?_
 refine GL.val (v := (.pointer (some ⟨bq1, 0, none⟩))) (Ex.cast (Ex.fieldAddr rfl Tryz.underlying107 rfl T.sz52 (by decide)) rfl) (by decide) ?_
 refine GL.val (Ex.load rfl T.ag52 (i := 0) rfl rfl) (by decide) ?_
 refine GL.val (v := (.pointer (some ⟨bq1, 1, none⟩))) (Ex.cast (Ex.fieldAddr rfl Tryz.underlying107 rfl T.sz52 (by decide)) rfl) (by decide) ?_
 refine GL.val (Ex.load rfl T.ag52 (i := 0) rfl rfl) (by decide) ?_
 refine GL.step (Stp.callR (vs := [(.int .u32 s), (.int .u32 a), (.int .u32 b_)]) rfl rfl T.own102 (by decide) (fun wc hw => hf wc hw.1)) (fun xq2 hq3 => ?_)
 refine GL.sg rfl (by decide) ?_
 refine GL.nil (GE.thenN (GC.ret ?_))
 refine GC.ret1 rfl (Rv.tmp rfl) (fun wN HN => ?_)
 exact HN.ret () trivial rfl (List.nil_sublist _) rfl

theorem between_all (sp : Int) (b o n cap : Nat) (ps : List Pn) (W H : Nat) (a b_ : Int) (f : Int → Int) (w : World) (hps : Pns w b o ps) (hn : n = ps.length) (hok : OkPic sp ps W H) (hf : ∀ p ∈ ps, ∀ x ∈ p.xs, ∀ w', Keep None w w' → Calls Tryz.prog 102 #[.int .u32 x, .int .u32 a, .int .u32 b_] w' (Ret w' (fun _ : Unit => True) (fun _ => .int .u32 (f x)) (fun _ => []))) :
  Calls Tryz.prog 25 #[(.agg #[(.int .i64 sp), (.slice (some ⟨b, o, none⟩) n cap)]), (.int .i64 (-1)), (.int .u32 a), (.int .u32 b_)] w (Ret w (fun r : Ac => r.qs ≠ [] ∧ r.ds = ((List.range n).map (mpG f ((-1)) ps)) ∧ r.Ok ∧ ∀ q ∈ r.qs, q.Ok) (fun r => .tuple #[(.agg #[(.int .i64 sp), (.slice r.ad r.n r.cp)]), .int .i64 0]) (fun r => r.blks 75 52)) := by
 refine enter (M := None) (L := []) (n := 19) (l := [(0, (.agg #[(.int .i64 sp), (.slice (some ⟨b, o, none⟩) n cap)])), (1, (.int .i64 (-1))), (2, (.int .u32 a)), (3, (.int .u32 b_))]) Tryz.func25 rfl rfl (Args.cons rfl (Args.cons rfl (Args.cons rfl (Args.cons rfl (Args.nil _))))) (Hp.start _ _) ?_
 refine GC.seq (GC.region ?_)
 refine GL.step (Stp.box (cs := [(.int .i64 sp), (.slice (some ⟨b, o, none⟩) n cap)]) rfl rfl (by decide)) (fun bq1 _ => ?_)
 refine GL.step (Stp.alloc T.zr24 (by decide)) (fun bq2 _ => ?_)
 refine GL.sg rfl (by decide) ?_
 refine GL.nil (GE.thenN (GC.seq (GC.region ?_)))
 refine GL.val (v := (.agg #[(.int .i64 sp), (.slice (some ⟨b, o, none⟩) n cap)])) (Ex.loadA rfl T.ag24 T.sz24 (i := 1) rfl (vs := [(.int .i64 sp), (.slice (some ⟨b, o, none⟩) n cap)]) rfl rfl) (by decide) ?_
 refine GL.mv rfl (by decide) ?_
 refine GL.mv rfl (by decide) ?_
 refine GL.mv rfl (by decide) ?_
 refine GL.val (v := (.agg #[(.int .u32 a), (.int .u32 b_)])) (Ex.build (vs := [(0, (.int .u32 a)), (1, (.int .u32 b_))]) rfl (by first | rfl | kernel_rfl)) (by decide) ?_
 refine GL.val (v := (.func (.func 62) #[(.agg #[(.int .u32 a), (.int .u32 b_)])] #[])) (Ex.funcB (bs := [(.agg #[(.int .u32 a), (.int .u32 b_)])]) (cs := []) (fun _ hF => hF.evals _ _ rfl) (fun _ hF => hF.evals _ _ rfl)) (by decide) ?_
 refine GL.step (Stp.call (vs := [(.agg #[(.int .i64 sp), (.slice (some ⟨b, o, none⟩) n cap)]), (.int .i64 (-1)), (.func (.func 62) #[(.agg #[(.int .u32 a), (.int .u32 b_)])] #[])]) rfl rfl T.own17 (by decide) (fun wc hw => (Ret.frm (L' := fun x => (⟨bq2, [(.int .i64 0), (.slice none 0 0)], 24, true⟩ :: ⟨bq1, [(.int .i64 sp), (.slice (some ⟨b, o, none⟩) n cap)], 24, true⟩ :: (x.blks 75 52 ++ []))) hw (map_all sp b o n cap ps W H 62 #[(.agg #[(.int .u32 a), (.int .u32 b_)])] #[] f wc (hps.later hw.1) hn hok (fun p hp => ⟨T.own62, fun x hx w2 h2 => between_at a b_ x (f x) w2 (fun w3 h3 => hf p hp x hx w3 (hw.1.trans (h2.trans h3 (fun _ _ h => h)) (fun _ _ h => h)))⟩)) (fun x w' _ h => by exact Hp.segsD (A := [x.blks 75 52, [⟨bq2, [(.int .i64 0), (.slice none 0 0)], 24, true⟩, ⟨bq1, [(.int .i64 sp), (.slice (some ⟨b, o, none⟩) n cap)], 24, true⟩]]) (idx := [1, 0]) 2 [] h rfl (by decide) rfl)))) (fun xq3 hq4 => ?_)
 refine GL.val (Ex.extract rfl rfl) (by decide) ?_
 refine GL.val (Ex.extract rfl rfl) (by decide) ?_
 refine GL.step (Stp.st0 (cs' := [(.int .i64 sp), (.slice xq3.ad xq3.n xq3.cp)]) rfl rfl rfl T.sz24 rfl rfl rfl) (fun _ _ => ?_)
 refine GL.sg rfl (by decide) ?_
 refine GL.nil (GE.thenN (GC.ret ?_))
 refine GC.ret2 rfl (Rv.cellA rfl T.ag24 T.sz24 (L := _) (i := 0) rfl (vs := [(.int .i64 sp), (.slice xq3.ad xq3.n xq3.cp)]) rfl rfl) (Rv.tmp rfl) (fun wN HN => ?_)
 exact HN.ret xq3 hq4 rfl (by rw [List.append_nil]; exact ((ulS (ulS ulR)))) (Ac.blks_own _ _ _)

theorem two1 (i bp bf : Nat) (sp : Int) (b2 o2 nq c2 : Nat) (qs : List Pn) (W H : Int) (b o n cap b4 o4 : Nat) (xs ys : List Int) (fid : FuncId) (f : Int → Int → Int) (w : World) (hh : Has w [⟨bp, [(.int .i64 sp), (.slice (some ⟨b2, o2, none⟩) nq c2)], 24, false⟩, ⟨bf, [(.func (.func fid) #[] #[])], 115, false⟩]) (hx : xs.length = n) (h0 : 0 < n) (hb : n ≤ 35184372087808) (hr : Rd w b o (xs.map u32)) (hqs : Pns w b2 o2 qs) (hi : i < qs.length) (hil : i < nq) (hnq : nq ≤ 4) (had : (pAt qs i).ad = some ⟨b4, o4, none⟩) (hqn : (pAt qs i).n = n) (hy : ys.length = n) (hr4 : Rd w b4 o4 (ys.map u32)) (hf : FnS2 Tryz.prog w fid xs ys f) :
  Calls Tryz.prog 69 #[(.int .i64 (((i : Nat) : Int))), (.agg #[(.int .i64 W), (.int .i64 H), (.slice (some ⟨b, o, none⟩) n cap)]), (.pointer (some ⟨bp, 0, none⟩)), (.pointer (some ⟨bf, 0, none⟩))] w (RetE w (W, H, zpX f xs ys) 52) := by
 refine enter (M := None) (L := [⟨bp, [(.int .i64 sp), (.slice (some ⟨b2, o2, none⟩) nq c2)], 24, false⟩, ⟨bf, [(.func (.func fid) #[] #[])], 115, false⟩]) (n := 39) (l := [(0, (.int .i64 (((i : Nat) : Int)))), (1, (.agg #[(.int .i64 W), (.int .i64 H), (.slice (some ⟨b, o, none⟩) n cap)])), (2, (.pointer (some ⟨bp, 0, none⟩))), (3, (.pointer (some ⟨bf, 0, none⟩)))]) Tryz.func69 rfl rfl (Args.cons rfl (Args.cons rfl (Args.cons rfl (Args.cons rfl (Args.nil _))))) (Hp.reads hh rfl) ?_
 refine GC.seq (GC.region ?_)
 refine GL.step (Stp.box (cs := [(.int .i64 W), (.int .i64 H), (.slice (some ⟨b, o, none⟩) n cap)]) rfl rfl (by decide)) (fun bq1 _ => ?_)
 refine GL.step (Stp.alloc T.zr75 (by decide)) (fun bq2 _ => ?_)
 refine GL.sg rfl (by decide) ?_
 refine GL.nil (GE.thenN (GC.seq (GC.region ?_)))
 refine GL.val (v := (.agg #[(.int .i64 W), (.int .i64 H), (.slice (some ⟨b, o, none⟩) n cap)])) (Ex.loadA rfl T.ag75 T.sz75 (i := 1) rfl (vs := [(.int .i64 W), (.int .i64 H), (.slice (some ⟨b, o, none⟩) n cap)]) rfl rfl) (by decide) ?_
 refine GL.step (Stp.callR (vs := [(.agg #[(.int .i64 W), (.int .i64 H), (.slice (some ⟨b, o, none⟩) n cap)])]) rfl rfl T.own51 (by decide) (fun wc hw => copied W H b o n cap xs wc hx h0 hb (hw.rd hr (fun x => x)))) (fun xq3 hq4 => ?_)
 refine GL.step (Stp.alloc T.zr75 (by decide)) (fun bq5 _ => ?_)
 refine GL.step (Stp.st0 (cs' := [(.int .i64 W), (.int .i64 H), (.slice (some ⟨xq3.1, 0, none⟩) n xq3.2.1)]) rfl rfl rfl T.sz75 rfl rfl rfl) (fun _ _ => ?_)
 refine GL.nil (GE.thenN (GC.seq (GC.seq ?_)))
 refine GC.hp (L2 := [⟨bq5, [(.int .i64 W), (.int .i64 H), (.slice (some ⟨xq3.1, 0, none⟩) n xq3.2.1)], 75, true⟩, ⟨xq3.1, (zpL f xs ys 0).map u32 ++ xq3.2.2, 52, true⟩, ⟨bq2, [(.int .i64 0), (.int .i64 0), (.slice none 0 0)], 75, true⟩, ⟨bq1, [(.int .i64 W), (.int .i64 H), (.slice (some ⟨b, o, none⟩) n cap)], 75, true⟩, ⟨bp, [(.int .i64 sp), (.slice (some ⟨b2, o2, none⟩) nq c2)], 24, false⟩, ⟨bf, [(.func (.func fid) #[] #[])], 115, false⟩]) (fun w h => by rw [zpL_zero]; exact h) ?_
 refine GC.region ?_
 refine GL.val (v := (.pointer (some ⟨bp, 1, none⟩))) (Ex.cast (Ex.fieldAddr rfl Tryz.underlying24 rfl T.sz22 (by decide)) rfl) (by decide) ?_
 refine GL.val (Ex.load rfl T.ag22 (i := 4) rfl rfl) (by decide) ?_
 refine GL.mv rfl (by decide) ?_
 refine GL.val (v := (.pointer (some ⟨b2, o2 + i * 3, none⟩))) (Ex.cast (Ex.indexAddr rfl rfl Tryz.underlying22 T.sz75 (by omega) (by omega)) (by simp)) (by decide) ?_
 refine GL.val (v := (.pointer (some ⟨b2, o2 + i * 3 + 2, none⟩))) (Ex.cast (Ex.fieldAddr rfl Tryz.underlying75 rfl T.sz53 (by decide)) rfl) (by decide) ?_
 refine GL.val (v := (.slice (some ⟨b4, o4, none⟩) n ((pAt qs i).cap))) (Ex.loadO rfl T.ag53 (by have h := Pns.cell (i := i) (j := 2) (v := .slice (pAt qs i).ad (pAt qs i).n (pAt qs i).cap) hqs hi (by decide) rfl; rw [had, hqn] at h; exact h) (fun x => x)) (by decide) ?_
 refine GL.val (v := (.int .i64 ((n : Int)))) (Ex.len rfl Tryz.underlying53) (by decide) ?_
 refine GL.mv rfl (by decide) ?_
 refine GL.nil (GE.thenN (GC.block ?_))
 refine GC.loop (σ := Nat) (fun k => k ≤ n) (fun k => [(2, (.pointer (some ⟨bp, 0, none⟩))), (3, (.pointer (some ⟨bf, 0, none⟩))), (5, (.pointer (some ⟨bq1, 0, none⟩))), (6, (.pointer (some ⟨bq2, 0, none⟩))), (7, (.int .i64 0)), (8, (.pointer (some ⟨bq5, 0, none⟩))), (18, (.slice (some ⟨b4, o4, none⟩) n ((pAt qs i).cap))), (19, (.int .i64 ((n : Int)))), (20, (.int .i64 (((k : Nat) : Int))))]) (fun k => [⟨bq5, [(.int .i64 W), (.int .i64 H), (.slice (some ⟨xq3.1, 0, none⟩) n xq3.2.1)], 75, true⟩, ⟨xq3.1, (zpL f xs ys k).map u32 ++ xq3.2.2, 52, true⟩, ⟨bq2, [(.int .i64 0), (.int .i64 0), (.slice none 0 0)], 75, true⟩, ⟨bq1, [(.int .i64 W), (.int .i64 H), (.slice (some ⟨b, o, none⟩) n cap)], 75, true⟩, ⟨bp, [(.int .i64 sp), (.slice (some ⟨b2, o2, none⟩) nq c2)], 24, false⟩, ⟨bf, [(.func (.func fid) #[] #[])], 115, false⟩]) (fun k => n - k) (0) (Nat.zero_le _) ((sub_cons rfl ((sub_cons rfl ((sub_cons rfl ((sub_cons rfl ((sub_cons rfl ((sub_cons rfl ((sub_cons rfl ((sub_cons rfl ((sub_cons rfl ((sub_nil _)))))))))))))))))))) (ulC (ulC (ulC (ulC (ulC (ulC ulN)))))) (fun k hp => ?_)
 refine GC.seq (GC.region ?_)
 refine GL.val (v := (.bool (decide ((((k : Nat) : Int)) < ((n : Int)))))) (Ex.lss rfl rfl) (by decide) ?_
 refine GL.nil (GE.thenN (GC.seq ?_))
 refine GC.cond rfl (fun hq6 => ?_) (fun hq6 => ?_)
 ·replace hq6 := of_decide_eq_true hq6
  refine GC.skip (GE.thenN (GC.seq (GC.block (GC.seq (GC.region ?_)))))
  refine GL.mv rfl (by decide) ?_
  refine GL.val (v := (.pointer (some ⟨b4, o4 + k, none⟩))) (Ex.cast (Ex.indexAddr rfl rfl Tryz.underlying53 T.sz52 (by omega) (by omega)) (by simp)) (by decide) ?_
  refine GL.val (v := (.int .u32 ((ys.getD k 0)))) (Ex.loadO rfl T.ag52 (Rd.at hr4 (by omega)) (fun x => x)) (by decide) ?_
  refine GL.sg rfl (by decide) ?_
  refine GL.sg rfl (by decide) ?_
  refine GL.nil (GE.thenN ?_)
  refine GC.drawP [⟨bq5, [(.int .i64 W), (.int .i64 H), (.slice (some ⟨xq3.1, 0, none⟩) n xq3.2.1)], 75, true⟩, ⟨bq2, [(.int .i64 0), (.int .i64 0), (.slice none 0 0)], 75, true⟩, ⟨bq1, [(.int .i64 W), (.int .i64 H), (.slice (some ⟨b, o, none⟩) n cap)], 75, true⟩, ⟨bp, [(.int .i64 sp), (.slice (some ⟨b2, o2, none⟩) nq c2)], 24, false⟩, ⟨bf, [(.func (.func fid) #[] #[])], 115, false⟩] T.mixed (by kernel_rfl) (by kernel_rfl) (fuel := 12) rfl rfl ?_
  refine GH.tk 0 (v := (.pointer (some ⟨bq5, 2, none⟩))) rfl (by kernel_rfl) (fun _ _ _ h => h) (Ex.cast (Ex.fieldAddr rfl Tryz.underlying75 rfl T.sz53 (by decide)) rfl) (ulC (ulS (ulC (ulC (ulC (ulC ulN)))))) (by decide) ?_
  refine GH.tk 1 (v := (.slice (some ⟨xq3.1, 0, none⟩) n xq3.2.1)) rfl (by kernel_rfl) (fun _ _ _ h => h) (Ex.load rfl T.ag53 (i := 0) rfl rfl) (ulC (ulS (ulC (ulC (ulC (ulC ulN)))))) (by decide) ?_
  refine GH.tk 2 (v := (.int .i64 (((k : Nat) : Int)))) rfl (by kernel_rfl) (fun _ _ _ h => h) (Ex.move rfl) (ulC (ulS (ulC (ulC (ulC (ulC ulN)))))) (by decide) ?_
  refine GH.tk 3 (v := (.func (.func fid) #[] #[])) rfl (by kernel_rfl) (fun _ _ _ h => h) (Ex.load rfl T.ag115 (i := 4) rfl rfl) (ulC (ulS (ulC (ulC (ulC (ulC ulN)))))) (by decide) ?_
  refine GH.tk 4 (v := (.pointer (some ⟨bq1, 2, none⟩))) rfl (by kernel_rfl) (fun _ _ _ h => h) (Ex.cast (Ex.fieldAddr rfl Tryz.underlying75 rfl T.sz53 (by decide)) rfl) (ulC (ulS (ulC (ulC (ulC (ulC ulN)))))) (by decide) ?_
  refine GH.tk 5 (v := (.slice (some ⟨b, o, none⟩) n cap)) rfl (by kernel_rfl) (fun _ _ _ h => h) (Ex.load rfl T.ag53 (i := 2) rfl rfl) (ulC (ulS (ulC (ulC (ulC (ulC ulN)))))) (by decide) ?_
  refine GH.tk 6 (v := (.int .i64 (((k : Nat) : Int)))) rfl (by kernel_rfl) (fun _ _ _ h => h) (Ex.move rfl) (ulC (ulS (ulC (ulC (ulC (ulC ulN)))))) (by decide) ?_
  refine GH.tk 7 (v := (.pointer (some ⟨b, o + k, none⟩))) rfl (by kernel_rfl) (fun _ _ _ h => h) (Ex.cast (Ex.indexAddr rfl rfl Tryz.underlying53 T.sz52 (by omega) (by omega)) (by simp)) (ulC (ulS (ulC (ulC (ulC (ulC ulN)))))) (by decide) ?_
  refine GH.tk 8 (v := (.int .u32 ((xs.getD k 0)))) rfl (by kernel_rfl) (fun _ _ _ h => h) (Ex.loadO rfl T.ag52 (Rd.at hr (by omega)) (fun x => x)) (ulC (ulS (ulC (ulC (ulC (ulC ulN)))))) (by decide) ?_
  refine GH.tk 9 (v := (.int .u32 ((ys.getD k 0)))) rfl (by kernel_rfl) (fun _ _ _ h => h) (Ex.move rfl) (ulC (ulS (ulC (ulC (ulC (ulC ulN)))))) (by decide) ?_
  refine GH.one 10 rfl (by kernel_rfl) (Stp.callR (vs := [(.int .u32 ((xs.getD k 0))), (.int .u32 ((ys.getD k 0)))]) rfl rfl hf.1 (by decide) (fun wc hw => hf.2 _ (getD_mem (by omega)) _ (getD_mem (by omega)) wc hw.1)) (fun _ => (ulC (ulS (ulC (ulC (ulC (ulC ulN))))))) (fun xq7 hq8 => ?_)
  refine GH.tk 11 (v := (.pointer (some ⟨xq3.1, k, none⟩))) rfl (by kernel_rfl) (fun _ _ _ h => h) (Ex.cast (Ex.indexAddr rfl rfl Tryz.underlying53 T.sz52 (by omega) (by omega)) (by simp)) (ulC (ulS (ulC (ulC (ulC (ulC ulN)))))) (by decide) ?_
  refine GH.done (by kernel_rfl) ?_
  refine GE.thenN ?_
  refine GE.tail rfl (Stp.storeL (i := 1) (cs := (zpL f xs ys k).map u32 ++ xq3.2.2) (vs := [(.int .u32 ((f (xs.getD k 0) (ys.getD k 0))))]) (o := k) (L1 := [⟨bq5, [(.int .i64 W), (.int .i64 H), (.slice (some ⟨xq3.1, 0, none⟩) n xq3.2.1)], 75, true⟩, ⟨xq3.1, (zpL f xs ys (k + 1)).map u32 ++ xq3.2.2, 52, true⟩, ⟨bq2, [(.int .i64 0), (.int .i64 0), (.slice none 0 0)], 75, true⟩, ⟨bq1, [(.int .i64 W), (.int .i64 H), (.slice (some ⟨b, o, none⟩) n cap)], 75, true⟩, ⟨bp, [(.int .i64 sp), (.slice (some ⟨b2, o2, none⟩) nq c2)], 24, false⟩, ⟨bf, [(.func (.func fid) #[] #[])], 115, false⟩]) rfl rfl rfl T.sz52 rfl (Nat.ble_eq_true_of_le (by rw [List.length_append, List.length_map, zpL_len]; simp; omega)) rfl (by rw [set_st _ (by rw [zpL_len]; omega), zpL_step _ _ _ _ (by omega)]; rfl)) (fun _ _ => ?_)
  refine GE.blockN (GE.thenN (GC.region ?_))
  refine GL.val (v := (.int .i64 (((k + 1 : Nat) : Int)))) (Ex.add rfl rfl (Z := ((k + 1 : Nat) : Int)) (by rw [w64 (by omega)]; rfl)) (by decide) ?_
  refine GL.mv rfl (by decide) ?_
  refine GL.nil (GE.thenN ?_)
  exact Head.mk (k + 1) (by omega) (by omega) ((sub_cons rfl ((sub_cons rfl ((sub_cons rfl ((sub_cons rfl ((sub_cons rfl ((sub_cons rfl ((sub_cons rfl ((sub_cons rfl ((sub_cons rfl ((sub_nil _)))))))))))))))))))) (ulC (ulC (ulC (ulC (ulC (ulC ulN))))))
 ·replace hq6 := of_decide_eq_false hq6
  refine GC.exit (GE.thenE (GE.thenE (GE.blockE (GE.thenN (GC.seq ?_)))))
  rw [show k = n from by omega, ← hx, zpL_full, hx]
  refine GC.region ?_
  refine GL.val (v := (.agg #[(.int .i64 W), (.int .i64 H), (.slice (some ⟨xq3.1, 0, none⟩) n xq3.2.1)])) (Ex.loadA rfl T.ag75 T.sz75 (i := 0) rfl (vs := [(.int .i64 W), (.int .i64 H), (.slice (some ⟨xq3.1, 0, none⟩) n xq3.2.1)]) rfl rfl) (by decide) ?_
  refine GL.step (Stp.st2 (cs' := [(.int .i64 W), (.int .i64 H), (.slice (some ⟨xq3.1, 0, none⟩) n xq3.2.1)]) rfl rfl rfl T.sz75 rfl rfl rfl) (fun _ _ => ?_)
  refine GL.sg rfl (by decide) ?_
  refine GL.nil (GE.thenN (GC.ret ?_))
  refine GC.ret2 rfl (Rv.cellA rfl T.ag75 T.sz75 (L := _) (i := 2) rfl (vs := [(.int .i64 W), (.int .i64 H), (.slice (some ⟨xq3.1, 0, none⟩) n xq3.2.1)]) rfl rfl) (Rv.tmp rfl) (fun wN HN => ?_)
  have hzl : (zpX f xs ys).length = n := by simp [zpX, hx]
  exact HN.ret xq3 ⟨by have h1 := hq4.1; simp only [List.length_append, List.length_map] at h1 ⊢; omega, hq4.2⟩ (by rw [hzl]) (ulS (ulC (ulS (ulS (ulS (ulS ulN)))))) rfl

theorem two_f2 (w : World) :
  Calls Tryz.prog 68 #[(.int .i64 2)] w (Ret w (fun _ : Unit => True) (fun _ => (.func (.func 108) #[] #[])) (fun _ => [])) := by
 refine enter (M := None) (L := []) (n := 14) (l := [(0, (.int .i64 2))]) Tryz.func68 rfl rfl (Args.cons rfl (Args.nil _)) (Hp.start _ _) ?_
 refine GC.seq (GC.region ?_)
 refine GL.sg rfl (by decide) ?_
 refine GL.nil (GE.thenN (GC.seq (GC.seq (GC.region ?_))))
 refine GL.mv rfl (by decide) ?_
 refine GL.nil (GE.thenN (GC.block (GC.seq (GC.region ?_))))
 refine GL.val (v := (.bool false)) (Ex.cast (Ex.eql rfl rfl) rfl) (by decide) ?_
 refine GL.sg rfl (by decide) ?_
 refine GL.nil (GE.thenN ?_)
 refine GC.cond rfl (fun hq1 => by cases hq1) (fun _ => ?_)
 refine GC.seq (GC.region ?_)
 refine GL.val (v := (.bool true)) (Ex.cast (Ex.eql rfl rfl) rfl) (by decide) ?_
 refine GL.sg rfl (by decide) ?_
 refine GL.nil (GE.thenN ?_)
 refine GC.cond rfl (fun _ => ?_) (fun hq2 => by cases hq2)
 refine GC.seq (GC.region ?_)
 refine GL.sg rfl (by decide) ?_
 refine GL.nil (GE.thenN (GC.ret (GE.blockR (GE.thenR ?_))))
 refine GC.ret1 rfl (Rv.tmp rfl) (fun wN HN => ?_)
 exact HN.ret () trivial rfl (List.nil_sublist _) rfl

theorem both_ok (sp : Int) (b o n cap b2 o2 c2 : Nat) (ps qs : List Pn) (W H : Nat) (w : World) (hps : Pns w b o ps) (hn : n = ps.length) (hok : OkPic sp ps W H) (hqs : Pns w b2 o2 qs) (hq2 : n = qs.length) (hok2 : OkPic sp qs W H) :
  Calls Tryz.prog 43 #[(.agg #[(.int .i64 sp), (.slice (some ⟨b, o, none⟩) n cap)]), (.agg #[(.int .i64 sp), (.slice (some ⟨b2, o2, none⟩) n c2)])] w (Ret w (fun _ : Unit => True) (fun _ => (.int .i64 0)) (fun _ => [])) := by
 refine enter (M := None) (L := []) (n := 13) (l := [(0, (.agg #[(.int .i64 sp), (.slice (some ⟨b, o, none⟩) n cap)])), (1, (.agg #[(.int .i64 sp), (.slice (some ⟨b2, o2, none⟩) n c2)]))]) Tryz.func43 rfl rfl (Args.cons rfl (Args.cons rfl (Args.nil _))) (Hp.start _ _) ?_
 refine GC.seq (GC.region ?_)
 refine GL.step (Stp.box (cs := [(.int .i64 sp), (.slice (some ⟨b, o, none⟩) n cap)]) rfl rfl (by decide)) (fun bq1 _ => ?_)
 refine GL.step (Stp.box (cs := [(.int .i64 sp), (.slice (some ⟨b2, o2, none⟩) n c2)]) rfl rfl (by decide)) (fun bq2 _ => ?_)
 refine GL.sg rfl (by decide) ?_
 refine GL.nil (GE.thenN (GC.seq (GC.seq (GC.region ?_))))
 refine GL.val (v := (.agg #[(.int .i64 sp), (.slice (some ⟨b, o, none⟩) n cap)])) (Ex.loadA rfl T.ag24 T.sz24 (i := 1) rfl (vs := [(.int .i64 sp), (.slice (some ⟨b, o, none⟩) n cap)]) rfl rfl) (by decide) ?_
 refine GL.step (Stp.callR (σ := Unit) (p := fun rz => True) (v := fun rz => (.int .i64 0)) (N := fun rz => []) (vs := [(.agg #[(.int .i64 sp), (.slice (some ⟨b, o, none⟩) n cap)])]) rfl rfl T.own48 (by decide) (fun wc hw => (by have h := chk_p sp b o n cap ps wc (hps.later hw.1) hn (by have := hok.n4; omega); rw [hok.chk] at h; exact h))) (fun xq3 hq4 => ?_)
 refine GL.sg rfl (by decide) ?_
 refine GL.nil (GE.thenN (GC.seq (GC.region ?_)))
 refine GL.mv rfl (by decide) ?_
 refine GL.val (v := (.bool false)) (Ex.cast (Ex.neq rfl rfl) rfl) (by decide) ?_
 refine GL.nil (GE.thenN ?_)
 refine GC.cond rfl (fun hq5 => by cases hq5) (fun _ => ?_)
 refine GC.skip (GE.thenN (GC.seq (GC.region ?_)))
 refine GL.val (v := (.agg #[(.int .i64 sp), (.slice (some ⟨b2, o2, none⟩) n c2)])) (Ex.loadA rfl T.ag24 T.sz24 (i := 0) rfl (vs := [(.int .i64 sp), (.slice (some ⟨b2, o2, none⟩) n c2)]) rfl rfl) (by decide) ?_
 refine GL.step (Stp.callR (σ := Unit) (p := fun rz => True) (v := fun rz => (.int .i64 0)) (N := fun rz => []) (vs := [(.agg #[(.int .i64 sp), (.slice (some ⟨b2, o2, none⟩) n c2)])]) rfl rfl T.own48 (by decide) (fun wc hw => (by have h := chk_p sp b2 o2 n c2 qs wc (hqs.later hw.1) hq2 (by have := hok.n4; omega); rw [hok2.chk] at h; exact h))) (fun xq6 hq7 => ?_)
 refine GL.sg rfl (by decide) ?_
 refine GL.nil (GE.thenN (GC.ret ?_))
 refine GC.ret1 rfl (Rv.tmp rfl) (fun wN HN => ?_)
 exact HN.ret () trivial rfl (List.nil_sublist _) rfl

theorem two_ok (kind sp : Int) (b o n cap b2 o2 c2 : Nat) (ps qs : List Pn) (W H : Nat) (fid : FuncId) (f : Int → Int → Int) (w : World) (hps : Pns w b o ps) (hn : n = ps.length) (hok : OkPic sp ps W H) (hqs : Pns w b2 o2 qs) (hq2 : n = qs.length) (hok2 : OkPic sp qs W H) (h2 : ∀ w', Calls Tryz.prog 68 #[.int .i64 kind] w' (Ret w' (fun _ : Unit => True) (fun _ => (.func (.func fid) #[] #[])) (fun _ => []))) (hf : ∀ i, i < n → FnS2 Tryz.prog w fid (pAt ps i).xs (pAt qs i).xs f) :
  Calls Tryz.prog 29 #[(.int .i64 kind), (.agg #[(.int .i64 sp), (.slice (some ⟨b, o, none⟩) n cap)]), (.agg #[(.int .i64 sp), (.slice (some ⟨b2, o2, none⟩) n c2)])] w (Ret w (fun r : Ac => r.qs ≠ [] ∧ r.ds = ((List.range n).map (twG f ps qs)) ∧ r.Ok ∧ ∀ q ∈ r.qs, q.Ok) (fun r => .tuple #[(.agg #[(.int .i64 sp), (.slice r.ad r.n r.cp)]), .int .i64 0]) (fun r => r.blks 75 52)) := by
 have hn0 := hok.n0
 have hm0 := hok2.n0
 refine enter (M := None) (L := []) (n := 70) (l := [(0, (.int .i64 kind)), (1, (.agg #[(.int .i64 sp), (.slice (some ⟨b, o, none⟩) n cap)])), (2, (.agg #[(.int .i64 sp), (.slice (some ⟨b2, o2, none⟩) n c2)]))]) Tryz.func29 rfl rfl (Args.cons rfl (Args.cons rfl (Args.cons rfl (Args.nil _)))) (Hp.start _ _) ?_
 refine GC.seq (GC.region ?_)
 refine GL.step (Stp.box (cs := [(.int .i64 sp), (.slice (some ⟨b, o, none⟩) n cap)]) rfl rfl (by decide)) (fun bq1 _ => ?_)
 refine GL.step (Stp.box (cs := [(.int .i64 sp), (.slice (some ⟨b2, o2, none⟩) n c2)]) rfl rfl (by decide)) (fun bq2 _ => ?_)
 refine GL.step (Stp.alloc T.zr24 (by decide)) (fun bq3 _ => ?_)
 refine GL.sg rfl (by decide) ?_
 refine GL.nil (GE.thenN (GC.seq (GC.seq (GC.region ?_))))
 refine GL.val (v := (.agg #[(.int .i64 sp), (.slice (some ⟨b, o, none⟩) n cap)])) (Ex.loadA rfl T.ag24 T.sz24 (i := 2) rfl (vs := [(.int .i64 sp), (.slice (some ⟨b, o, none⟩) n cap)]) rfl rfl) (by decide) ?_
 refine GL.val (v := (.agg #[(.int .i64 sp), (.slice (some ⟨b2, o2, none⟩) n c2)])) (Ex.loadA rfl T.ag24 T.sz24 (i := 1) rfl (vs := [(.int .i64 sp), (.slice (some ⟨b2, o2, none⟩) n c2)]) rfl rfl) (by decide) ?_
 refine GL.step (Stp.callR (vs := [(.agg #[(.int .i64 sp), (.slice (some ⟨b, o, none⟩) n cap)]), (.agg #[(.int .i64 sp), (.slice (some ⟨b2, o2, none⟩) n c2)])]) rfl rfl T.own43 (by decide) (fun wc hw => both_ok sp b o n cap b2 o2 c2 ps qs W H wc (hps.later hw.1) hn hok (hqs.later hw.1) hq2 hok2)) (fun xq4 hq5 => ?_)
 refine GL.sg rfl (by decide) ?_
 refine GL.nil (GE.thenN (GC.seq (GC.region ?_)))
 refine GL.mv rfl (by decide) ?_
 refine GL.val (v := (.bool false)) (Ex.cast (Ex.neq rfl rfl) rfl) (by decide) ?_
 refine GL.nil (GE.thenN ?_)
 refine GC.cond rfl (fun hq6 => by cases hq6) (fun _ => ?_)
 refine GC.skip (GE.thenN (GC.seq (GC.region ?_)))
 refine GL.mv rfl (by decide) ?_
 refine GL.step (Stp.callR (vs := [(.int .i64 kind)]) rfl rfl T.own68 (by decide) (fun wc hw => h2 wc)) (fun xq7 hq8 => ?_)
 refine GL.step (Stp.alloc T.zr115 (by decide)) (fun bq9 _ => ?_)
 refine GL.step (Stp.st0 (cs' := [(.func (.func fid) #[] #[])]) rfl rfl rfl T.sz115 rfl rfl rfl) (fun _ _ => ?_)
 refine GL.nil (GE.thenN (GC.seq (GC.block (GC.seq (GC.region ?_)))))
 refine GL.val (Ex.load rfl T.ag115 (i := 0) rfl rfl) (by decide) ?_
 refine GL.val (v := (.bool false)) (Ex.eqNilF rfl rfl Tryz.underlying115) (by decide) ?_
 refine GL.sg rfl (by decide) ?_
 refine GL.nil (GE.thenN ?_)
 refine GC.cond rfl (fun hq10 => by cases hq10) (fun _ => ?_)
 refine GC.seq ?_
 refine GC.draw [⟨bq9, [(.func (.func fid) #[] #[])], 115, true⟩, ⟨bq3, [(.int .i64 0), (.slice none 0 0)], 24, true⟩, ⟨bq2, [(.int .i64 sp), (.slice (some ⟨b2, o2, none⟩) n c2)], 24, true⟩, ⟨bq1, [(.int .i64 sp), (.slice (some ⟨b, o, none⟩) n cap)], 24, true⟩] T.mixed (fuel := 34) rfl rfl ?_
 refine GH.tk 0 (v := (.pointer (some ⟨bq1, 1, none⟩))) rfl (by kernel_rfl) (fun _ _ _ h => h) (Ex.cast (Ex.fieldAddr rfl Tryz.underlying24 rfl T.sz22 (by decide)) rfl) (ulC (ulC (ulC (ulC ulN)))) (by decide) ?_
 refine GH.tk 1 (v := (.slice (some ⟨b, o, none⟩) n cap)) rfl (by kernel_rfl) (fun _ _ _ h => h) (Ex.load rfl T.ag22 (i := 3) rfl rfl) (ulC (ulC (ulC (ulC ulN)))) (by decide) ?_
 refine GH.tk 2 (v := (.int .i64 ((n : Int)))) rfl (by kernel_rfl) (fun _ _ _ h => h) (Ex.len rfl Tryz.underlying22) (ulC (ulC (ulC (ulC ulN)))) (by decide) ?_
 refine GH.tk 3 (v := (.pointer (some ⟨bq2, 1, none⟩))) rfl (by kernel_rfl) (fun _ _ _ h => h) (Ex.cast (Ex.fieldAddr rfl Tryz.underlying24 rfl T.sz22 (by decide)) rfl) (ulC (ulC (ulC (ulC ulN)))) (by decide) ?_
 refine GH.tk 4 (v := (.slice (some ⟨b2, o2, none⟩) n c2)) rfl (by kernel_rfl) (fun _ _ _ h => h) (Ex.load rfl T.ag22 (i := 2) rfl rfl) (ulC (ulC (ulC (ulC ulN)))) (by decide) ?_
 refine GH.tk 5 (v := (.int .i64 ((n : Int)))) rfl (by kernel_rfl) (fun _ _ _ h => h) (Ex.len rfl Tryz.underlying22) (ulC (ulC (ulC (ulC ulN)))) (by decide) ?_
 refine GH.tk 6 (v := (.bool false)) rfl (by kernel_rfl) (fun _ _ _ h => h) (Ex.cast (Ex.neq rfl rfl) (congrArg Value.bool (decide_eq_false (by exact fun h => h rfl)))) (ulC (ulC (ulC (ulC ulN)))) (by decide) ?_
 refine GH.tk 7 (v := (.bool false)) rfl (by kernel_rfl) (fun _ _ _ h => h) (Ex.move rfl) (ulC (ulC (ulC (ulC ulN)))) (by decide) ?_
 refine GH.takeG 8 (tj := 31) (v := (.pointer (some ⟨bq1, 1, none⟩))) rfl rfl rfl (by kernel_rfl) (by kernel_rfl) (by kernel_rfl) (fun _ _ _ h => h) (Ex.cast (Ex.fieldAddr rfl Tryz.underlying24 rfl T.sz22 (by decide)) rfl) (ulC (ulC (ulC (ulC ulN)))) (by decide) ?_
 refine GH.takeG 9 (tj := 31) (v := (.slice (some ⟨b, o, none⟩) n cap)) rfl rfl rfl (by kernel_rfl) (by kernel_rfl) (by kernel_rfl) (fun _ _ _ h => h) (Ex.load rfl T.ag22 (i := 3) rfl rfl) (ulC (ulC (ulC (ulC ulN)))) (by decide) ?_
 refine GH.takeG 10 (tj := 31) (v := (.pointer (some ⟨b, o, none⟩))) rfl rfl rfl (by kernel_rfl) (by kernel_rfl) (by kernel_rfl) (fun _ _ _ h => h) (Ex.cast (Ex.indexAddr rfl rfl Tryz.underlying22 T.sz75 (by omega) (by omega)) rfl) (ulC (ulC (ulC (ulC ulN)))) (by decide) ?_
 refine GH.takeG 11 (tj := 31) (v := (.pointer (some ⟨b, o, none⟩))) rfl rfl rfl (by kernel_rfl) (by kernel_rfl) (by kernel_rfl) (fun _ _ _ h => h) (Ex.cast (Ex.fieldAddr rfl Tryz.underlying75 rfl T.sz3 (by decide)) rfl) (ulC (ulC (ulC (ulC ulN)))) (by decide) ?_
 refine GH.takeG 12 (tj := 31) (v := (.int .i64 ((pAt ps 0).W))) rfl rfl rfl (by kernel_rfl) (by kernel_rfl) (by kernel_rfl) (fun _ _ _ h => h) (Ex.loadO rfl T.ag3 (Pns.cell (i := 0) (j := 0) hps (by omega) (by decide) rfl) (fun x => x)) (ulC (ulC (ulC (ulC ulN)))) (by decide) ?_
 refine GH.takeG 13 (tj := 31) (v := (.pointer (some ⟨bq2, 1, none⟩))) rfl rfl rfl (by kernel_rfl) (by kernel_rfl) (by kernel_rfl) (fun _ _ _ h => h) (Ex.cast (Ex.fieldAddr rfl Tryz.underlying24 rfl T.sz22 (by decide)) rfl) (ulC (ulC (ulC (ulC ulN)))) (by decide) ?_
 refine GH.takeG 14 (tj := 31) (v := (.slice (some ⟨b2, o2, none⟩) n c2)) rfl rfl rfl (by kernel_rfl) (by kernel_rfl) (by kernel_rfl) (fun _ _ _ h => h) (Ex.load rfl T.ag22 (i := 2) rfl rfl) (ulC (ulC (ulC (ulC ulN)))) (by decide) ?_
 refine GH.takeG 15 (tj := 31) (v := (.pointer (some ⟨b2, o2, none⟩))) rfl rfl rfl (by kernel_rfl) (by kernel_rfl) (by kernel_rfl) (fun _ _ _ h => h) (Ex.cast (Ex.indexAddr rfl rfl Tryz.underlying22 T.sz75 (by omega) (by omega)) rfl) (ulC (ulC (ulC (ulC ulN)))) (by decide) ?_
 refine GH.takeG 16 (tj := 31) (v := (.pointer (some ⟨b2, o2, none⟩))) rfl rfl rfl (by kernel_rfl) (by kernel_rfl) (by kernel_rfl) (fun _ _ _ h => h) (Ex.cast (Ex.fieldAddr rfl Tryz.underlying75 rfl T.sz3 (by decide)) rfl) (ulC (ulC (ulC (ulC ulN)))) (by decide) ?_
 refine GH.takeG 17 (tj := 31) (v := (.int .i64 ((pAt qs 0).W))) rfl rfl rfl (by kernel_rfl) (by kernel_rfl) (by kernel_rfl) (fun _ _ _ h => h) (Ex.loadO rfl T.ag3 (Pns.cell (i := 0) (j := 0) hqs (by omega) (by decide) rfl) (fun x => x)) (ulC (ulC (ulC (ulC ulN)))) (by decide) ?_
 refine GH.takeG 18 (tj := 31) (v := (.bool false)) rfl rfl rfl (by kernel_rfl) (by kernel_rfl) (by kernel_rfl) (fun _ _ _ h => h) (Ex.cast (Ex.neq rfl rfl) (congrArg Value.bool (decide_eq_false (by exact fun h => h (by rw [(hok.at hok.n0).1, (hok2.at hok2.n0).1]))))) (ulC (ulC (ulC (ulC ulN)))) (by decide) ?_
 refine GH.tk 19 (v := (.bool false)) rfl (by kernel_rfl) (fun _ _ _ h => h) (Ex.pickF rfl rfl) (ulC (ulC (ulC (ulC ulN)))) (by decide) ?_
 refine GH.tk 20 (v := (.bool false)) rfl (by kernel_rfl) (fun _ _ _ h => h) (Ex.move rfl) (ulC (ulC (ulC (ulC ulN)))) (by decide) ?_
 refine GH.takeG 21 (tj := 44) (v := (.pointer (some ⟨bq1, 1, none⟩))) rfl rfl rfl (by kernel_rfl) (by kernel_rfl) (by kernel_rfl) (fun _ _ _ h => h) (Ex.cast (Ex.fieldAddr rfl Tryz.underlying24 rfl T.sz22 (by decide)) rfl) (ulC (ulC (ulC (ulC ulN)))) (by decide) ?_
 refine GH.takeG 22 (tj := 44) (v := (.slice (some ⟨b, o, none⟩) n cap)) rfl rfl rfl (by kernel_rfl) (by kernel_rfl) (by kernel_rfl) (fun _ _ _ h => h) (Ex.load rfl T.ag22 (i := 3) rfl rfl) (ulC (ulC (ulC (ulC ulN)))) (by decide) ?_
 refine GH.takeG 23 (tj := 44) (v := (.pointer (some ⟨b, o, none⟩))) rfl rfl rfl (by kernel_rfl) (by kernel_rfl) (by kernel_rfl) (fun _ _ _ h => h) (Ex.cast (Ex.indexAddr rfl rfl Tryz.underlying22 T.sz75 (by omega) (by omega)) rfl) (ulC (ulC (ulC (ulC ulN)))) (by decide) ?_
 refine GH.takeG 24 (tj := 44) (v := (.pointer (some ⟨b, o + 1, none⟩))) rfl rfl rfl (by kernel_rfl) (by kernel_rfl) (by kernel_rfl) (fun _ _ _ h => h) (Ex.cast (Ex.fieldAddr rfl Tryz.underlying75 rfl T.sz3 (by decide)) rfl) (ulC (ulC (ulC (ulC ulN)))) (by decide) ?_
 refine GH.takeG 25 (tj := 44) (v := (.int .i64 ((pAt ps 0).H))) rfl rfl rfl (by kernel_rfl) (by kernel_rfl) (by kernel_rfl) (fun _ _ _ h => h) (Ex.loadO rfl T.ag3 (Pns.cell (i := 0) (j := 1) hps (by omega) (by decide) rfl) (fun x => x)) (ulC (ulC (ulC (ulC ulN)))) (by decide) ?_
 refine GH.takeG 26 (tj := 44) (v := (.pointer (some ⟨bq2, 1, none⟩))) rfl rfl rfl (by kernel_rfl) (by kernel_rfl) (by kernel_rfl) (fun _ _ _ h => h) (Ex.cast (Ex.fieldAddr rfl Tryz.underlying24 rfl T.sz22 (by decide)) rfl) (ulC (ulC (ulC (ulC ulN)))) (by decide) ?_
 refine GH.takeG 27 (tj := 44) (v := (.slice (some ⟨b2, o2, none⟩) n c2)) rfl rfl rfl (by kernel_rfl) (by kernel_rfl) (by kernel_rfl) (fun _ _ _ h => h) (Ex.load rfl T.ag22 (i := 2) rfl rfl) (ulC (ulC (ulC (ulC ulN)))) (by decide) ?_
 refine GH.takeG 28 (tj := 44) (v := (.pointer (some ⟨b2, o2, none⟩))) rfl rfl rfl (by kernel_rfl) (by kernel_rfl) (by kernel_rfl) (fun _ _ _ h => h) (Ex.cast (Ex.indexAddr rfl rfl Tryz.underlying22 T.sz75 (by omega) (by omega)) rfl) (ulC (ulC (ulC (ulC ulN)))) (by decide) ?_
 refine GH.takeG 29 (tj := 44) (v := (.pointer (some ⟨b2, o2 + 1, none⟩))) rfl rfl rfl (by kernel_rfl) (by kernel_rfl) (by kernel_rfl) (fun _ _ _ h => h) (Ex.cast (Ex.fieldAddr rfl Tryz.underlying75 rfl T.sz3 (by decide)) rfl) (ulC (ulC (ulC (ulC ulN)))) (by decide) ?_
 refine GH.takeG 30 (tj := 44) (v := (.int .i64 ((pAt qs 0).H))) rfl rfl rfl (by kernel_rfl) (by kernel_rfl) (by kernel_rfl) (fun _ _ _ h => h) (Ex.loadO rfl T.ag3 (Pns.cell (i := 0) (j := 1) hqs (by omega) (by decide) rfl) (fun x => x)) (ulC (ulC (ulC (ulC ulN)))) (by decide) ?_
 refine GH.takeG 31 (tj := 44) (v := (.bool false)) rfl rfl rfl (by kernel_rfl) (by kernel_rfl) (by kernel_rfl) (fun _ _ _ h => h) (Ex.cast (Ex.neq rfl rfl) (congrArg Value.bool (decide_eq_false (by exact fun h => h (by rw [(hok.at hok.n0).2.1, (hok2.at hok2.n0).2.1]))))) (ulC (ulC (ulC (ulC ulN)))) (by decide) ?_
 refine GH.tk 32 (v := (.bool false)) rfl (by kernel_rfl) (fun _ _ _ h => h) (Ex.pickF rfl rfl) (ulC (ulC (ulC (ulC ulN)))) (by decide) ?_
 refine GH.tk 33 (v := (.bool false)) rfl (by kernel_rfl) (fun _ _ _ h => h) (Ex.assign rfl) (ulC (ulC (ulC (ulC ulN)))) (by decide) ?_
 refine GH.done (by kernel_rfl) ?_
 refine GE.thenN ?_
 refine GC.cond rfl (fun hq11 => by cases hq11) (fun _ => ?_)
 refine GC.seq (GC.region ?_)
 refine GL.val (v := (.pointer (some ⟨bq1, 0, none⟩))) (Ex.cast (Ex.fieldAddr rfl Tryz.underlying24 rfl T.sz3 (by decide)) rfl) (by decide) ?_
 refine GL.val (Ex.load rfl T.ag3 (i := 3) rfl rfl) (by decide) ?_
 refine GL.val (v := (.pointer (some ⟨bq2, 0, none⟩))) (Ex.cast (Ex.fieldAddr rfl Tryz.underlying24 rfl T.sz3 (by decide)) rfl) (by decide) ?_
 refine GL.val (Ex.load rfl T.ag3 (i := 2) rfl rfl) (by decide) ?_
 refine GL.val (v := (.bool false)) (Ex.cast (Ex.neq rfl rfl) (congrArg Value.bool (decide_eq_false (by exact fun h => h rfl)))) (by decide) ?_
 refine GL.sg rfl (by decide) ?_
 refine GL.nil (GE.thenN ?_)
 refine GC.cond rfl (fun hq12 => by cases hq12) (fun _ => ?_)
 refine GC.skip (GE.blockN (GE.thenN (GC.seq (GC.region ?_))))
 refine GL.val (v := (.agg #[(.int .i64 sp), (.slice (some ⟨b, o, none⟩) n cap)])) (Ex.loadA rfl T.ag24 T.sz24 (i := 3) rfl (vs := [(.int .i64 sp), (.slice (some ⟨b, o, none⟩) n cap)]) rfl rfl) (by decide) ?_
 refine GL.val (v := (.func (.func 69) #[] #[(.pointer (some ⟨bq2, 0, none⟩)), (.pointer (some ⟨bq9, 0, none⟩))])) (Ex.func (cs := [(.pointer (some ⟨bq2, 0, none⟩)), (.pointer (some ⟨bq9, 0, none⟩))]) rfl (fun _ hF => hF.evals _ _ rfl)) (by decide) ?_
 refine GL.step (Stp.call (vs := [(.agg #[(.int .i64 sp), (.slice (some ⟨b, o, none⟩) n cap)]), (.func (.func 69) #[] #[(.pointer (some ⟨bq2, 0, none⟩)), (.pointer (some ⟨bq9, 0, none⟩))])]) rfl rfl T.own36 (by decide) (fun wc hw => (Ret.frm (L' := fun x => (⟨bq9, [(.func (.func fid) #[] #[])], 115, true⟩ :: ⟨bq3, [(.int .i64 0), (.slice none 0 0)], 24, true⟩ :: ⟨bq2, [(.int .i64 sp), (.slice (some ⟨b2, o2, none⟩) n c2)], 24, true⟩ :: ⟨bq1, [(.int .i64 sp), (.slice (some ⟨b, o, none⟩) n cap)], 24, true⟩ :: (x.blks 75 52 ++ []))) hw (every_ok sp b o n cap ps W H 69 #[.pointer (some ⟨bq2, 0, none⟩), .pointer (some ⟨bq9, 0, none⟩)] (twG f ps qs) wc (hps.later hw.1) hn hok ⟨T.own69, fun i hi w' hk' => by
  have hh := ((Has.cons (hw.hasOf (i := 2) rfl) (Has.cons (hw.hasOf (i := 0) rfl) (Has.nil _)) : Has wc [⟨bq2, [(.int .i64 sp), (.slice (some ⟨b2, o2, none⟩) n c2)], 24, false⟩, ⟨bq9, [(.func (.func fid) #[] #[])], 115, false⟩]).later hk')
  have hi2 : i < qs.length := by omega
  have hq0 := Nat.mul_pos (show 0 < W from hok.ok.1) (show 0 < H from hok.ok.2.1)
  have hA := hok.ok.2.2.2.2
  obtain ⟨b', o', e1, e2, e3⟩ := hok.samp (hps.later (hw.1.trans hk' (fun _ _ h => h))) hi
  obtain ⟨b4, o4, e4, e5, e6⟩ := hok2.samp (hqs.later (hw.1.trans hk' (fun _ _ h => h))) hi2
  rw [e1, (hok.at hi).2.2]
  exact two1 i bq2 bq9 sp b2 o2 n c2 qs (pAt ps i).W (pAt ps i).H b' o' (W * H) (pAt ps i).cap b4 o4 (pAt ps i).xs (pAt qs i).xs fid f w' hh e2 hq0 (by omega) e3 (hqs.later (hw.1.trans hk' (fun _ _ h => h))) hi2 (by omega) (by have := hok.n4; omega) e4 (hok2.at hi2).2.2 e5 e6 ((hf i (by omega)).later (hw.1.trans hk' (fun _ _ h => h)))⟩) (fun x w' _ h => by exact Hp.segsD (A := [x.blks 75 52, [⟨bq9, [(.func (.func fid) #[] #[])], 115, true⟩, ⟨bq3, [(.int .i64 0), (.slice none 0 0)], 24, true⟩, ⟨bq2, [(.int .i64 sp), (.slice (some ⟨b2, o2, none⟩) n c2)], 24, true⟩, ⟨bq1, [(.int .i64 sp), (.slice (some ⟨b, o, none⟩) n cap)], 24, true⟩]]) (idx := [1, 0]) 2 [] h rfl (by decide) rfl)))) (fun xq13 hq14 => ?_)
 refine GL.val (Ex.extract rfl rfl) (by decide) ?_
 refine GL.val (Ex.extract rfl rfl) (by decide) ?_
 refine GL.step (Stp.st1 (cs' := [(.int .i64 sp), (.slice xq13.ad xq13.n xq13.cp)]) rfl rfl rfl T.sz24 rfl rfl rfl) (fun _ _ => ?_)
 refine GL.sg rfl (by decide) ?_
 refine GL.nil (GE.thenN (GC.ret ?_))
 refine GC.ret2 rfl (Rv.cellA rfl T.ag24 T.sz24 (L := _) (i := 1) rfl (vs := [(.int .i64 sp), (.slice xq13.ad xq13.n xq13.cp)]) rfl rfl) (Rv.tmp rfl) (fun wN HN => ?_)
 exact HN.ret xq13 hq14 rfl (by rw [List.append_nil]; exact ((ulS (ulS (ulS (ulS ulR)))))) (Ac.blks_own _ _ _)

theorem triples1 (i W H : Nat) (p : Pn) (w : World) (hok : okP W H) (h : p.W = (W : Int) ∧ p.H = (H : Int) ∧ p.n = W * H) (hp : p.Ok w) :
  Calls Tryz.prog 93 #[(.int .i64 (((i : Nat) : Int))), (.agg #[(.int .i64 p.W), (.int .i64 p.H), (.slice p.ad p.n p.cap)])] w (RetE w p.d 52) := by
 refine enter (M := None) (L := []) (n := 8) (l := [(0, (.int .i64 (((i : Nat) : Int)))), (1, (.agg #[(.int .i64 p.W), (.int .i64 p.H), (.slice p.ad p.n p.cap)]))]) Tryz.func93 rfl rfl (Args.cons rfl (Args.cons rfl (Args.nil _))) (Hp.start _ _) ?_
 refine GC.seq (GC.region ?_)
 refine GL.step (Stp.box (cs := [(.int .i64 p.W), (.int .i64 p.H), (.slice p.ad p.n p.cap)]) rfl rfl (by decide)) (fun bq1 _ => ?_)
 refine GL.step (Stp.alloc T.zr75 (by decide)) (fun bq2 _ => ?_)
 refine GL.sg rfl (by decide) ?_
 refine GL.nil (GE.thenN (GC.seq (GC.region ?_)))
 refine GL.val (v := (.agg #[(.int .i64 p.W), (.int .i64 p.H), (.slice p.ad p.n p.cap)])) (Ex.loadA rfl T.ag75 T.sz75 (i := 1) rfl (vs := [(.int .i64 p.W), (.int .i64 p.H), (.slice p.ad p.n p.cap)]) rfl rfl) (by decide) ?_
 refine GL.step (Stp.callR (σ := Nat × Nat × List Value) (p := fun rz => (p.d.2.2.map u32 ++ rz.2.2).length = rz.2.1 * 1 ∧ rz.2.1 ≤ 9223372036854775807) (v := fun rz => (.agg #[(.int .i64 p.d.1), (.int .i64 p.d.2.1), (.slice (some ⟨rz.1, 0, none⟩) p.d.2.2.length rz.2.1)])) (N := fun rz => [⟨rz.1, p.d.2.2.map u32 ++ rz.2.2, 52, true⟩]) (vs := [(.agg #[(.int .i64 p.W), (.int .i64 p.H), (.slice p.ad p.n p.cap)])]) rfl rfl T.own51 (by decide) (fun wc hw => (by exact copied_p p W H wc hok h (hp.later hw.1)))) (fun xq3 hq4 => ?_)
 refine GL.step (Stp.st1 (cs' := [(.int .i64 p.d.1), (.int .i64 p.d.2.1), (.slice (some ⟨xq3.1, 0, none⟩) p.d.2.2.length xq3.2.1)]) rfl rfl rfl T.sz75 rfl rfl rfl) (fun _ _ => ?_)
 refine GL.sg rfl (by decide) ?_
 refine GL.nil (GE.thenN (GC.ret ?_))
 refine GC.ret2 rfl (Rv.cellA rfl T.ag75 T.sz75 (L := _) (i := 1) rfl (vs := [(.int .i64 p.d.1), (.int .i64 p.d.2.1), (.slice (some ⟨xq3.1, 0, none⟩) p.d.2.2.length xq3.2.1)]) rfl rfl) (Rv.tmp rfl) (fun wN HN => ?_)
 exact HN.ret xq3 hq4 rfl (ulC (ulS (ulS ulN))) rfl

end Go.Proofs.YtiikkhbmhojbaaaGreat.C
