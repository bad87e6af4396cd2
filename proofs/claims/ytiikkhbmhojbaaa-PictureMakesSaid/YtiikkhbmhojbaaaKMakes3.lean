/- PictureMakes: what its code does, walked. -/
import Derived.Test.YtiikkhbmhojbaaaKMakes2
namespace Go.Proofs.Ytiikkhbmhojbaaa.C
open Go Go.RowKit Sx
set_option linter.unusedVariables false
set_option maxRecDepth 100000
set_option maxHeartbeats 1000000
theorem book_s01 (w0 : World) (R : List Blk) (kb : Nat) (m : Int) (b n cap : Nat) (cs : List Value) (w : World) (hcap : cs.length = cap) (hb : cap ≤ 9223372036854775807) (hp0 : Hp None w0 (⟨kb, [(.slice none 0 0), (.slice none 0 0), (.slice none 0 0), (.slice none 0 0), (.slice none 0 0), (.slice none 0 0), (.slice none 0 0), (.slice none 0 0)], 57, true⟩ :: ⟨b, cs, 28, true⟩ :: R) w) :
  Calls Try.prog 66 #[(.pointer (some ⟨kb, 0, none⟩)), (.slice (some ⟨b, 0, none⟩) n cap), (.int .i64 m)] w (Frm (σ := (Nat × Nat × List Value) × (Nat × Nat × List Value)) None w0 (fun x => ([(Value.slice (some ⟨b, 0, none⟩) cap cap)] ++ x.2.2.2 : List Value).length = x.2.2.1 * 1 ∧ ([(Value.int .i64 m)] ++ x.1.2.2 : List Value).length = x.1.2.1 * 1) (fun x => .tuple #[]) (fun x => (⟨x.1.1, [(Value.int .i64 m)] ++ x.1.2.2, 3, true⟩ :: ⟨x.2.1, [(Value.slice (some ⟨b, 0, none⟩) cap cap)] ++ x.2.2.2, 41, true⟩ :: ⟨kb, [(.slice (some ⟨x.2.1, 0, none⟩) 1 x.2.2.1), (.slice none 0 0), (.slice none 0 0), (.slice none 0 0), (.slice (some ⟨x.1.1, 0, none⟩) 1 x.1.2.1), (.slice none 0 0), (.slice none 0 0), (.slice none 0 0)], 57, true⟩ :: ⟨b, (mks m cap).map u32, 28, true⟩ :: R))) := by
 refine enterF (w0 := w0) (M := None) (L := (⟨kb, [nilS, nilS, nilS, nilS, nilS, nilS, nilS, nilS], 57, true⟩ :: ⟨b, cs, 28, true⟩ :: R)) (n := 46) (l := [(0, (.pointer (some ⟨kb, 0, none⟩))), (1, (.slice (some ⟨b, 0, none⟩) n cap)), (2, (.int .i64 m))]) Try.func66 rfl rfl (Args.cons rfl (Args.cons rfl (Args.cons rfl (Args.nil _)))) hp0 ?_
 refine GC.seq (GC.region ?_)
 refine GL.mv rfl (by decide) ?_
 refine GL.mv rfl (by decide) ?_
 refine GL.val (v := (.int .i64 ((cap : Int)))) (Ex.cap rfl Try.underlying41) (by decide) ?_
 refine GL.val (v := (.slice (some ⟨b, 0, none⟩) cap cap)) (Ex.sliceH (m := cap) rfl rfl Try.underlying41 T.sz28 rfl (Nat.le_refl _)) (by decide) ?_
 refine GL.sg rfl (by decide) ?_
 refine GL.nil (GE.thenN (GC.seq (GC.seq ?_)))
 rw [show cs = mkC m cs 0 from (mkC_zero m cs).symm]
 refine GC.region ?_
 refine GL.sg rfl (by decide) ?_
 refine GL.nil (GE.thenN (GC.block ?_))
 refine GC.loop (σ := Nat) (fun k => k ≤ cap) (fun k => [(0, (.pointer (some ⟨kb, 0, none⟩))), (1, (.slice (some ⟨b, 0, none⟩) cap cap)), (2, (.int .i64 m)), (6, (.int .i64 (((k : Nat) : Int))))]) (fun k => (⟨kb, [nilS, nilS, nilS, nilS, nilS, nilS, nilS, nilS], 57, true⟩ :: ⟨b, mkC m cs k, 28, true⟩ :: R)) (fun k => cap - k) (0) (Nat.zero_le _) ((sub_cons rfl ((sub_cons rfl ((sub_cons rfl ((sub_cons rfl ((sub_nil _)))))))))) (ulC (ulC ulR)) (fun k hp => ?_)
 refine GC.seq (GC.seq (GC.region ?_))
 refine GL.mv rfl (by decide) ?_
 refine GL.mv rfl (by decide) ?_
 refine GL.val (v := (.int .i64 ((cap : Int)))) (Ex.len rfl Try.underlying41) (by decide) ?_
 refine GL.val (v := (.bool (decide ((((k : Nat) : Int)) < ((cap : Int)))))) (Ex.lss rfl rfl) (by decide) ?_
 refine GL.nil (GE.thenN ?_)
 refine GC.cond rfl (fun hq1 => ?_) (fun hq1 => ?_)
 ·replace hq1 := of_decide_eq_true hq1
  refine GC.skip (GE.thenN (GC.seq (GC.block (GC.region ?_))))
  refine GL.mv rfl (by decide) ?_
  refine GL.mv rfl (by decide) ?_
  refine GL.mv rfl (by decide) ?_
  refine GL.mv rfl (by decide) ?_
  refine GL.step (Stp.callR (vs := [(.int .i64 m), (.int .i64 (((k : Nat) : Int)))]) rfl rfl T.own69 (by decide) (fun wc hw => bkmark m (((k : Nat) : Int)) wc)) (fun xq2 hq3 => ?_)
  refine GL.val (v := (.int .u32 (mk m k))) (Ex.conv rfl Try.underlying3 Try.underlying28 (Z := mk m k) (by rw [wu32]; rfl)) (by decide) ?_
  refine GL.val (v := (.pointer (some ⟨b, k, none⟩))) (Ex.cast (Ex.indexAddr rfl rfl Try.underlying41 T.sz28 (by omega) (by omega)) (by simp)) (by decide) ?_
  refine GL.step (Stp.storeL (i := 1) (cs := mkC m cs k) (vs := [.int .u32 (mk m k)]) (o := k) (L1 := (⟨kb, [nilS, nilS, nilS, nilS, nilS, nilS, nilS, nilS], 57, true⟩ :: ⟨b, mkC m cs (k + 1), 28, true⟩ :: R)) rfl rfl rfl T.sz28 rfl (Nat.ble_eq_true_of_le (by rw [mkC_len _ _ _ (by omega)]; simp; omega)) rfl (by rw [mkC_store (by omega)]; rfl)) (fun _ _ => ?_)
  refine GL.nil (GE.blockN (GE.thenN (GC.region ?_)))
  refine GL.mv rfl (by decide) ?_
  refine GL.val (v := (.int .i64 (((k + 1 : Nat) : Int)))) (Ex.add rfl rfl (Z := ((k + 1 : Nat) : Int)) (by rw [w64 (by omega)]; rfl)) (by decide) ?_
  refine GL.sg rfl (by decide) ?_
  refine GL.nil (GE.thenN ?_)
  exact Head.mk (k + 1) (by omega) (by omega) ((sub_cons rfl ((sub_cons rfl ((sub_cons rfl ((sub_cons rfl ((sub_nil _)))))))))) (ulC (ulC ulR))
 ·replace hq1 := of_decide_eq_false hq1
  refine GC.exit (GE.thenE (GE.thenE (GE.blockE (GE.thenN (GC.seq ?_)))))
  rw [mkC_full m cs k (by omega), show k = cap from by omega]
  refine GC.region ?_
  refine GL.mv rfl (by decide) ?_
  refine GL.mv rfl (by decide) ?_
  refine GL.val (v := (.pointer (some ⟨kb, 0, none⟩))) (Ex.nilCheck rfl) (by decide) ?_
  refine GL.val (v := (.pointer (some ⟨kb, 0, none⟩))) (Ex.cast (Ex.fieldAddr rfl Try.underlying57 rfl T.sz50 (by decide)) rfl) (by decide) ?_
  refine GL.val (Ex.load rfl T.ag50 (i := 0) rfl rfl) (by decide) ?_
  refine GL.mv rfl (by decide) ?_
  refine GL.step (Stp.buildSlice (cs := [(.slice (some ⟨b, 0, none⟩) cap cap)]) (vs := [(0, (.slice (some ⟨b, 0, none⟩) cap cap))]) Try.underlying50 T.zr41 T.sz41 rfl (by decide) (by decide) (by first | rfl | kernel_rfl) (by decide)) (fun bq4 _ => ?_)
  refine GL.step (Stp.appendNil (vs := [(.slice (some ⟨b, 0, none⟩) cap cap)]) rfl rfl Try.underlying50 T.sz41 T.zr41 rfl T.by41 (fun wz hz => hz.rdOf (i := 0) rfl 0) rfl (by decide) (by decide) (by decide) (by decide)) (fun xq5 hq6 => ?_)
  refine GL.val (v := (.pointer (some ⟨kb, 0, none⟩))) (Ex.nilCheck rfl) (by decide) ?_
  refine GL.val (v := (.pointer (some ⟨kb, 0, none⟩))) (Ex.cast (Ex.fieldAddr rfl Try.underlying57 rfl T.sz50 (by decide)) rfl) (by decide) ?_
  refine GL.step (Stp.st2 (cs' := [(.slice (some ⟨xq5.1, 0, none⟩) 1 xq5.2.1), nilS, nilS, nilS, nilS, nilS, nilS, nilS]) rfl rfl rfl T.sz50 rfl rfl rfl) (fun _ _ => ?_)
  refine GL.nil (GE.thenN ?_)
  refine GC.draw (⟨xq5.1, [(.slice (some ⟨b, 0, none⟩) cap cap)] ++ xq5.2.2, 41, true⟩ :: ⟨bq4, [(.slice (some ⟨b, 0, none⟩) cap cap)], 41, true⟩ :: ⟨b, (mks m cap).map u32, 28, true⟩ :: R) T.mixed (fuel := 13) rfl rfl ?_
  refine GH.tk 0 (v := (.pointer (some ⟨kb, 0, none⟩))) rfl (by kernel_rfl) (fun _ _ _ h => h) (Ex.move rfl) (ulC (ulC (ulS (ulC ulR)))) (by decide) ?_
  refine GH.tk 1 (v := (.pointer (some ⟨kb, 0, none⟩))) rfl (by kernel_rfl) (fun _ _ _ h => h) (Ex.move rfl) (ulC (ulC (ulS (ulC ulR)))) (by decide) ?_
  refine GH.tk 6 (v := (.int .i64 m)) rfl (by kernel_rfl) (fun _ _ _ h => h) (Ex.move rfl) (ulC (ulC (ulS (ulC ulR)))) (by decide) ?_
  refine GH.many (rs := [2, 7, 9]) (by kernel_rfl) (by simp) ?_
  refine GHs.cons rfl (Ex.wp (v := (.pointer (some ⟨kb, 0, none⟩))) (Ex.nilCheck rfl) (by decide)) (fun _ => (ulC (ulC (ulS (ulC ulR))))) (fun _ _ => ?_) ?_
  ·refine GH.tk 3 (v := (.pointer (some ⟨kb, 4, none⟩))) rfl (by kernel_rfl) (fun _ _ _ h => h) (Ex.cast (Ex.fieldAddr rfl Try.underlying57 rfl T.sz55 (by decide)) rfl) (ulC (ulC (ulS (ulC ulR)))) (by decide) ?_
   refine GH.tk 4 (v := (.pointer (some ⟨kb, 4, none⟩))) rfl (by kernel_rfl) (fun _ _ _ h => h) (Ex.cast (Ex.indexArr (m := 4) rfl rfl Try.underlying55 T.sz54 (by decide) (by decide)) rfl) (ulC (ulC (ulS (ulC ulR)))) (by decide) ?_
   refine GH.many (rs := [5, 7, 9]) (by kernel_rfl) (by simp) ?_
   refine GHs.cons rfl (Ex.wp (v := nilS) (Ex.load rfl T.ag54 (i := 2) rfl rfl) (by decide)) (fun _ => (ulC (ulC (ulS (ulC ulR))))) (fun _ _ => ?_) ?_
   ·refine GH.many (rs := [7, 9]) (by kernel_rfl) (by simp) ?_
    refine GHs.cons rfl (Stp.buildSlice (cs := [(.int .i64 m)]) (vs := [(0, (.int .i64 m))]) Try.underlying54 T.zr3 T.sz3 rfl (by decide) (by decide) (by first | rfl | kernel_rfl) (by decide)) (fun _ => (ulS (ulC (ulC (ulS (ulC ulR)))))) (fun bq7 _ => ?_) ?_
    ·refine GH.many (rs := [8, 9]) (by kernel_rfl) (by simp) ?_
     refine GHs.cons rfl (Stp.appendNil (vs := [(.int .i64 m)]) rfl rfl Try.underlying54 T.sz3 T.zr3 rfl T.by3 (fun wz hz => hz.rdOf (i := 0) rfl 0) rfl (by decide) (by decide) (by decide) (by decide)) (fun _ => (ulS (ulS (ulC (ulC (ulS (ulC ulR))))))) (fun xq8 hq9 => ?_) ?_
     ·refine GH.one 9 rfl (by kernel_rfl) (Ex.wp (v := (.pointer (some ⟨kb, 0, none⟩))) (Ex.nilCheck rfl) (by decide)) (fun _ => (ulS (ulS (ulC (ulC (ulS (ulC ulR))))))) (fun _ _ => ?_)
      refine GH.tk 10 (v := (.pointer (some ⟨kb, 4, none⟩))) rfl (by kernel_rfl) (fun _ _ _ h => h) (Ex.cast (Ex.fieldAddr rfl Try.underlying57 rfl T.sz55 (by decide)) rfl) (ulS (ulS (ulC (ulC (ulS (ulC ulR)))))) (by decide) ?_
      refine GH.tk 11 (v := (.pointer (some ⟨kb, 4, none⟩))) rfl (by kernel_rfl) (fun _ _ _ h => h) (Ex.cast (Ex.indexArr (m := 4) rfl rfl Try.underlying55 T.sz54 (by decide) (by decide)) rfl) (ulS (ulS (ulC (ulC (ulS (ulC ulR)))))) (by decide) ?_
      refine GH.one 12 rfl (by kernel_rfl) (Stp.st4 (cs' := [(.slice (some ⟨xq5.1, 0, none⟩) 1 xq5.2.1), nilS, nilS, nilS, (.slice (some ⟨xq8.1, 0, none⟩) 1 xq8.2.1), nilS, nilS, nilS]) rfl rfl rfl T.sz54 rfl rfl rfl) (fun _ => (ulS (ulS (ulC (ulC (ulS (ulC ulR))))))) (fun _ _ => ?_)
      refine GH.done (by kernel_rfl) ?_
      refine GC.end0 rfl (fun wN HN => ?_)
      exact HN.frm (xq8, xq5) ⟨hq6.1, hq9.1⟩ (by rfl) (ulC (ulS (ulC (ulS (ulC (ulC ulR))))))
     refine GHs.cons rfl (Ex.wp (v := (.pointer (some ⟨kb, 0, none⟩))) (Ex.nilCheck rfl) (by decide)) (fun _ => (ulS (ulC (ulC (ulS (ulC ulR)))))) (fun _ _ => ?_) ?_
     ·refine GH.tk 10 (v := (.pointer (some ⟨kb, 4, none⟩))) rfl (by kernel_rfl) (fun _ _ _ h => h) (Ex.cast (Ex.fieldAddr rfl Try.underlying57 rfl T.sz55 (by decide)) rfl) (ulS (ulC (ulC (ulS (ulC ulR))))) (by decide) ?_
      refine GH.one 8 rfl (by kernel_rfl) (Stp.appendNil (vs := [(.int .i64 m)]) rfl rfl Try.underlying54 T.sz3 T.zr3 rfl T.by3 (fun wz hz => hz.rdOf (i := 0) rfl 0) rfl (by decide) (by decide) (by decide) (by decide)) (fun _ => (ulS (ulS (ulC (ulC (ulS (ulC ulR))))))) (fun xq10 hq11 => ?_)
      refine GH.tk 11 (v := (.pointer (some ⟨kb, 4, none⟩))) rfl (by kernel_rfl) (fun _ _ _ h => h) (Ex.cast (Ex.indexArr (m := 4) rfl rfl Try.underlying55 T.sz54 (by decide) (by decide)) rfl) (ulS (ulS (ulC (ulC (ulS (ulC ulR)))))) (by decide) ?_
      refine GH.one 12 rfl (by kernel_rfl) (Stp.st4 (cs' := [(.slice (some ⟨xq5.1, 0, none⟩) 1 xq5.2.1), nilS, nilS, nilS, (.slice (some ⟨xq10.1, 0, none⟩) 1 xq10.2.1), nilS, nilS, nilS]) rfl rfl rfl T.sz54 rfl rfl rfl) (fun _ => (ulS (ulS (ulC (ulC (ulS (ulC ulR))))))) (fun _ _ => ?_)
      refine GH.done (by kernel_rfl) ?_
      refine GC.end0 rfl (fun wN HN => ?_)
      exact HN.frm (xq10, xq5) ⟨hq6.1, hq11.1⟩ (by rfl) (ulC (ulS (ulC (ulS (ulC (ulC ulR))))))
     exact GHs.nil
    refine GHs.cons rfl (Ex.wp (v := (.pointer (some ⟨kb, 0, none⟩))) (Ex.nilCheck rfl) (by decide)) (fun _ => (ulC (ulC (ulS (ulC ulR))))) (fun _ _ => ?_) ?_
    ·refine GH.tk 10 (v := (.pointer (some ⟨kb, 4, none⟩))) rfl (by kernel_rfl) (fun _ _ _ h => h) (Ex.cast (Ex.fieldAddr rfl Try.underlying57 rfl T.sz55 (by decide)) rfl) (ulC (ulC (ulS (ulC ulR)))) (by decide) ?_
     refine GH.one 7 rfl (by kernel_rfl) (Stp.buildSlice (cs := [(.int .i64 m)]) (vs := [(0, (.int .i64 m))]) Try.underlying54 T.zr3 T.sz3 rfl (by decide) (by decide) (by first | rfl | kernel_rfl) (by decide)) (fun _ => (ulS (ulC (ulC (ulS (ulC ulR)))))) (fun bq12 _ => ?_)
     refine GH.one 8 rfl (by kernel_rfl) (Stp.appendNil (vs := [(.int .i64 m)]) rfl rfl Try.underlying54 T.sz3 T.zr3 rfl T.by3 (fun wz hz => hz.rdOf (i := 0) rfl 0) rfl (by decide) (by decide) (by decide) (by decide)) (fun _ => (ulS (ulS (ulC (ulC (ulS (ulC ulR))))))) (fun xq13 hq14 => ?_)
     refine GH.tk 11 (v := (.pointer (some ⟨kb, 4, none⟩))) rfl (by kernel_rfl) (fun _ _ _ h => h) (Ex.cast (Ex.indexArr (m := 4) rfl rfl Try.underlying55 T.sz54 (by decide) (by decide)) rfl) (ulS (ulS (ulC (ulC (ulS (ulC ulR)))))) (by decide) ?_
     refine GH.one 12 rfl (by kernel_rfl) (Stp.st4 (cs' := [(.slice (some ⟨xq5.1, 0, none⟩) 1 xq5.2.1), nilS, nilS, nilS, (.slice (some ⟨xq13.1, 0, none⟩) 1 xq13.2.1), nilS, nilS, nilS]) rfl rfl rfl T.sz54 rfl rfl rfl) (fun _ => (ulS (ulS (ulC (ulC (ulS (ulC ulR))))))) (fun _ _ => ?_)
     refine GH.done (by kernel_rfl) ?_
     refine GC.end0 rfl (fun wN HN => ?_)
     exact HN.frm (xq13, xq5) ⟨hq6.1, hq14.1⟩ (by rfl) (ulC (ulS (ulC (ulS (ulC (ulC ulR))))))
    exact GHs.nil
   refine GHs.cons rfl (Stp.buildSlice (cs := [(.int .i64 m)]) (vs := [(0, (.int .i64 m))]) Try.underlying54 T.zr3 T.sz3 rfl (by decide) (by decide) (by first | rfl | kernel_rfl) (by decide)) (fun _ => (ulS (ulC (ulC (ulS (ulC ulR)))))) (fun bq15 _ => ?_) ?_
   ·refine GH.many (rs := [5, 9]) (by kernel_rfl) (by simp) ?_
    refine GHs.cons rfl (Ex.wp (v := nilS) (Ex.load rfl T.ag54 (i := 3) rfl rfl) (by decide)) (fun _ => (ulS (ulC (ulC (ulS (ulC ulR)))))) (fun _ _ => ?_) ?_
    ·refine GH.many (rs := [8, 9]) (by kernel_rfl) (by simp) ?_
     refine GHs.cons rfl (Stp.appendNil (vs := [(.int .i64 m)]) rfl rfl Try.underlying54 T.sz3 T.zr3 rfl T.by3 (fun wz hz => hz.rdOf (i := 0) rfl 0) rfl (by decide) (by decide) (by decide) (by decide)) (fun _ => (ulS (ulS (ulC (ulC (ulS (ulC ulR))))))) (fun xq16 hq17 => ?_) ?_
     ·refine GH.one 9 rfl (by kernel_rfl) (Ex.wp (v := (.pointer (some ⟨kb, 0, none⟩))) (Ex.nilCheck rfl) (by decide)) (fun _ => (ulS (ulS (ulC (ulC (ulS (ulC ulR))))))) (fun _ _ => ?_)
      refine GH.tk 10 (v := (.pointer (some ⟨kb, 4, none⟩))) rfl (by kernel_rfl) (fun _ _ _ h => h) (Ex.cast (Ex.fieldAddr rfl Try.underlying57 rfl T.sz55 (by decide)) rfl) (ulS (ulS (ulC (ulC (ulS (ulC ulR)))))) (by decide) ?_
      refine GH.tk 11 (v := (.pointer (some ⟨kb, 4, none⟩))) rfl (by kernel_rfl) (fun _ _ _ h => h) (Ex.cast (Ex.indexArr (m := 4) rfl rfl Try.underlying55 T.sz54 (by decide) (by decide)) rfl) (ulS (ulS (ulC (ulC (ulS (ulC ulR)))))) (by decide) ?_
      refine GH.one 12 rfl (by kernel_rfl) (Stp.st4 (cs' := [(.slice (some ⟨xq5.1, 0, none⟩) 1 xq5.2.1), nilS, nilS, nilS, (.slice (some ⟨xq16.1, 0, none⟩) 1 xq16.2.1), nilS, nilS, nilS]) rfl rfl rfl T.sz54 rfl rfl rfl) (fun _ => (ulS (ulS (ulC (ulC (ulS (ulC ulR))))))) (fun _ _ => ?_)
      refine GH.done (by kernel_rfl) ?_
      refine GC.end0 rfl (fun wN HN => ?_)
      exact HN.frm (xq16, xq5) ⟨hq6.1, hq17.1⟩ (by rfl) (ulC (ulS (ulC (ulS (ulC (ulC ulR))))))
     refine GHs.cons rfl (Ex.wp (v := (.pointer (some ⟨kb, 0, none⟩))) (Ex.nilCheck rfl) (by decide)) (fun _ => (ulS (ulC (ulC (ulS (ulC ulR)))))) (fun _ _ => ?_) ?_
     ·refine GH.tk 10 (v := (.pointer (some ⟨kb, 4, none⟩))) rfl (by kernel_rfl) (fun _ _ _ h => h) (Ex.cast (Ex.fieldAddr rfl Try.underlying57 rfl T.sz55 (by decide)) rfl) (ulS (ulC (ulC (ulS (ulC ulR))))) (by decide) ?_
      refine GH.one 8 rfl (by kernel_rfl) (Stp.appendNil (vs := [(.int .i64 m)]) rfl rfl Try.underlying54 T.sz3 T.zr3 rfl T.by3 (fun wz hz => hz.rdOf (i := 0) rfl 0) rfl (by decide) (by decide) (by decide) (by decide)) (fun _ => (ulS (ulS (ulC (ulC (ulS (ulC ulR))))))) (fun xq18 hq19 => ?_)
      refine GH.tk 11 (v := (.pointer (some ⟨kb, 4, none⟩))) rfl (by kernel_rfl) (fun _ _ _ h => h) (Ex.cast (Ex.indexArr (m := 4) rfl rfl Try.underlying55 T.sz54 (by decide) (by decide)) rfl) (ulS (ulS (ulC (ulC (ulS (ulC ulR)))))) (by decide) ?_
      refine GH.one 12 rfl (by kernel_rfl) (Stp.st4 (cs' := [(.slice (some ⟨xq5.1, 0, none⟩) 1 xq5.2.1), nilS, nilS, nilS, (.slice (some ⟨xq18.1, 0, none⟩) 1 xq18.2.1), nilS, nilS, nilS]) rfl rfl rfl T.sz54 rfl rfl rfl) (fun _ => (ulS (ulS (ulC (ulC (ulS (ulC ulR))))))) (fun _ _ => ?_)
      refine GH.done (by kernel_rfl) ?_
      refine GC.end0 rfl (fun wN HN => ?_)
      exact HN.frm (xq18, xq5) ⟨hq6.1, hq19.1⟩ (by rfl) (ulC (ulS (ulC (ulS (ulC (ulC ulR))))))
     exact GHs.nil
    refine GHs.cons rfl (Ex.wp (v := (.pointer (some ⟨kb, 0, none⟩))) (Ex.nilCheck rfl) (by decide)) (fun _ => (ulS (ulC (ulC (ulS (ulC ulR)))))) (fun _ _ => ?_) ?_
    ·refine GH.tk 10 (v := (.pointer (some ⟨kb, 4, none⟩))) rfl (by kernel_rfl) (fun _ _ _ h => h) (Ex.cast (Ex.fieldAddr rfl Try.underlying57 rfl T.sz55 (by decide)) rfl) (ulS (ulC (ulC (ulS (ulC ulR))))) (by decide) ?_
     refine GH.one 5 rfl (by kernel_rfl) (Ex.wp (v := nilS) (Ex.load rfl T.ag54 (i := 3) rfl rfl) (by decide)) (fun _ => (ulS (ulC (ulC (ulS (ulC ulR)))))) (fun _ _ => ?_)
     refine GH.one 8 rfl (by kernel_rfl) (Stp.appendNil (vs := [(.int .i64 m)]) rfl rfl Try.underlying54 T.sz3 T.zr3 rfl T.by3 (fun wz hz => hz.rdOf (i := 0) rfl 0) rfl (by decide) (by decide) (by decide) (by decide)) (fun _ => (ulS (ulS (ulC (ulC (ulS (ulC ulR))))))) (fun xq20 hq21 => ?_)
     refine GH.tk 11 (v := (.pointer (some ⟨kb, 4, none⟩))) rfl (by kernel_rfl) (fun _ _ _ h => h) (Ex.cast (Ex.indexArr (m := 4) rfl rfl Try.underlying55 T.sz54 (by decide) (by decide)) rfl) (ulS (ulS (ulC (ulC (ulS (ulC ulR)))))) (by decide) ?_
     refine GH.one 12 rfl (by kernel_rfl) (Stp.st4 (cs' := [(.slice (some ⟨xq5.1, 0, none⟩) 1 xq5.2.1), nilS, nilS, nilS, (.slice (some ⟨xq20.1, 0, none⟩) 1 xq20.2.1), nilS, nilS, nilS]) rfl rfl rfl T.sz54 rfl rfl rfl) (fun _ => (ulS (ulS (ulC (ulC (ulS (ulC ulR))))))) (fun _ _ => ?_)
     refine GH.done (by kernel_rfl) ?_
     refine GC.end0 rfl (fun wN HN => ?_)
     exact HN.frm (xq20, xq5) ⟨hq6.1, hq21.1⟩ (by rfl) (ulC (ulS (ulC (ulS (ulC (ulC ulR))))))
    exact GHs.nil
   refine GHs.cons rfl (Ex.wp (v := (.pointer (some ⟨kb, 0, none⟩))) (Ex.nilCheck rfl) (by decide)) (fun _ => (ulC (ulC (ulS (ulC ulR))))) (fun _ _ => ?_) ?_
   ·refine GH.tk 10 (v := (.pointer (some ⟨kb, 4, none⟩))) rfl (by kernel_rfl) (fun _ _ _ h => h) (Ex.cast (Ex.fieldAddr rfl Try.underlying57 rfl T.sz55 (by decide)) rfl) (ulC (ulC (ulS (ulC ulR)))) (by decide) ?_
    refine GH.many (rs := [5, 7]) (by kernel_rfl) (by simp) ?_
    refine GHs.cons rfl (Ex.wp (v := nilS) (Ex.load rfl T.ag54 (i := 2) rfl rfl) (by decide)) (fun _ => (ulC (ulC (ulS (ulC ulR))))) (fun _ _ => ?_) ?_
    ·refine GH.one 7 rfl (by kernel_rfl) (Stp.buildSlice (cs := [(.int .i64 m)]) (vs := [(0, (.int .i64 m))]) Try.underlying54 T.zr3 T.sz3 rfl (by decide) (by decide) (by first | rfl | kernel_rfl) (by decide)) (fun _ => (ulS (ulC (ulC (ulS (ulC ulR)))))) (fun bq22 _ => ?_)
     refine GH.one 8 rfl (by kernel_rfl) (Stp.appendNil (vs := [(.int .i64 m)]) rfl rfl Try.underlying54 T.sz3 T.zr3 rfl T.by3 (fun wz hz => hz.rdOf (i := 0) rfl 0) rfl (by decide) (by decide) (by decide) (by decide)) (fun _ => (ulS (ulS (ulC (ulC (ulS (ulC ulR))))))) (fun xq23 hq24 => ?_)
     refine GH.tk 11 (v := (.pointer (some ⟨kb, 4, none⟩))) rfl (by kernel_rfl) (fun _ _ _ h => h) (Ex.cast (Ex.indexArr (m := 4) rfl rfl Try.underlying55 T.sz54 (by decide) (by decide)) rfl) (ulS (ulS (ulC (ulC (ulS (ulC ulR)))))) (by decide) ?_
     refine GH.one 12 rfl (by kernel_rfl) (Stp.st4 (cs' := [(.slice (some ⟨xq5.1, 0, none⟩) 1 xq5.2.1), nilS, nilS, nilS, (.slice (some ⟨xq23.1, 0, none⟩) 1 xq23.2.1), nilS, nilS, nilS]) rfl rfl rfl T.sz54 rfl rfl rfl) (fun _ => (ulS (ulS (ulC (ulC (ulS (ulC ulR))))))) (fun _ _ => ?_)
     refine GH.done (by kernel_rfl) ?_
     refine GC.end0 rfl (fun wN HN => ?_)
     exact HN.frm (xq23, xq5) ⟨hq6.1, hq24.1⟩ (by rfl) (ulC (ulS (ulC (ulS (ulC (ulC ulR))))))
    refine GHs.cons rfl (Stp.buildSlice (cs := [(.int .i64 m)]) (vs := [(0, (.int .i64 m))]) Try.underlying54 T.zr3 T.sz3 rfl (by decide) (by decide) (by first | rfl | kernel_rfl) (by decide)) (fun _ => (ulS (ulC (ulC (ulS (ulC ulR)))))) (fun bq25 _ => ?_) ?_
    ·refine GH.one 5 rfl (by kernel_rfl) (Ex.wp (v := nilS) (Ex.load rfl T.ag54 (i := 3) rfl rfl) (by decide)) (fun _ => (ulS (ulC (ulC (ulS (ulC ulR)))))) (fun _ _ => ?_)
     refine GH.one 8 rfl (by kernel_rfl) (Stp.appendNil (vs := [(.int .i64 m)]) rfl rfl Try.underlying54 T.sz3 T.zr3 rfl T.by3 (fun wz hz => hz.rdOf (i := 0) rfl 0) rfl (by decide) (by decide) (by decide) (by decide)) (fun _ => (ulS (ulS (ulC (ulC (ulS (ulC ulR))))))) (fun xq26 hq27 => ?_)
     refine GH.tk 11 (v := (.pointer (some ⟨kb, 4, none⟩))) rfl (by kernel_rfl) (fun _ _ _ h => h) (Ex.cast (Ex.indexArr (m := 4) rfl rfl Try.underlying55 T.sz54 (by decide) (by decide)) rfl) (ulS (ulS (ulC (ulC (ulS (ulC ulR)))))) (by decide) ?_
     refine GH.one 12 rfl (by kernel_rfl) (Stp.st4 (cs' := [(.slice (some ⟨xq5.1, 0, none⟩) 1 xq5.2.1), nilS, nilS, nilS, (.slice (some ⟨xq26.1, 0, none⟩) 1 xq26.2.1), nilS, nilS, nilS]) rfl rfl rfl T.sz54 rfl rfl rfl) (fun _ => (ulS (ulS (ulC (ulC (ulS (ulC ulR))))))) (fun _ _ => ?_)
     refine GH.done (by kernel_rfl) ?_
     refine GC.end0 rfl (fun wN HN => ?_)
     exact HN.frm (xq26, xq5) ⟨hq6.1, hq27.1⟩ (by rfl) (ulC (ulS (ulC (ulS (ulC (ulC ulR))))))
    exact GHs.nil
   exact GHs.nil
  refine GHs.cons rfl (Stp.buildSlice (cs := [(.int .i64 m)]) (vs := [(0, (.int .i64 m))]) Try.underlying54 T.zr3 T.sz3 rfl (by decide) (by decide) (by first | rfl | kernel_rfl) (by decide)) (fun _ => (ulS (ulC (ulC (ulS (ulC ulR)))))) (fun bq28 _ => ?_) ?_
  ·refine GH.many (rs := [2, 9]) (by kernel_rfl) (by simp) ?_
   refine GHs.cons rfl (Ex.wp (v := (.pointer (some ⟨kb, 0, none⟩))) (Ex.nilCheck rfl) (by decide)) (fun _ => (ulS (ulC (ulC (ulS (ulC ulR)))))) (fun _ _ => ?_) ?_
   ·refine GH.tk 3 (v := (.pointer (some ⟨kb, 4, none⟩))) rfl (by kernel_rfl) (fun _ _ _ h => h) (Ex.cast (Ex.fieldAddr rfl Try.underlying57 rfl T.sz55 (by decide)) rfl) (ulS (ulC (ulC (ulS (ulC ulR))))) (by decide) ?_
    refine GH.tk 4 (v := (.pointer (some ⟨kb, 4, none⟩))) rfl (by kernel_rfl) (fun _ _ _ h => h) (Ex.cast (Ex.indexArr (m := 4) rfl rfl Try.underlying55 T.sz54 (by decide) (by decide)) rfl) (ulS (ulC (ulC (ulS (ulC ulR))))) (by decide) ?_
    refine GH.many (rs := [5, 9]) (by kernel_rfl) (by simp) ?_
    refine GHs.cons rfl (Ex.wp (v := nilS) (Ex.load rfl T.ag54 (i := 3) rfl rfl) (by decide)) (fun _ => (ulS (ulC (ulC (ulS (ulC ulR)))))) (fun _ _ => ?_) ?_
    ·refine GH.many (rs := [8, 9]) (by kernel_rfl) (by simp) ?_
     refine GHs.cons rfl (Stp.appendNil (vs := [(.int .i64 m)]) rfl rfl Try.underlying54 T.sz3 T.zr3 rfl T.by3 (fun wz hz => hz.rdOf (i := 0) rfl 0) rfl (by decide) (by decide) (by decide) (by decide)) (fun _ => (ulS (ulS (ulC (ulC (ulS (ulC ulR))))))) (fun xq29 hq30 => ?_) ?_
     ·refine GH.one 9 rfl (by kernel_rfl) (Ex.wp (v := (.pointer (some ⟨kb, 0, none⟩))) (Ex.nilCheck rfl) (by decide)) (fun _ => (ulS (ulS (ulC (ulC (ulS (ulC ulR))))))) (fun _ _ => ?_)
      refine GH.tk 10 (v := (.pointer (some ⟨kb, 4, none⟩))) rfl (by kernel_rfl) (fun _ _ _ h => h) (Ex.cast (Ex.fieldAddr rfl Try.underlying57 rfl T.sz55 (by decide)) rfl) (ulS (ulS (ulC (ulC (ulS (ulC ulR)))))) (by decide) ?_
      refine GH.tk 11 (v := (.pointer (some ⟨kb, 4, none⟩))) rfl (by kernel_rfl) (fun _ _ _ h => h) (Ex.cast (Ex.indexArr (m := 4) rfl rfl Try.underlying55 T.sz54 (by decide) (by decide)) rfl) (ulS (ulS (ulC (ulC (ulS (ulC ulR)))))) (by decide) ?_
      refine GH.one 12 rfl (by kernel_rfl) (Stp.st4 (cs' := [(.slice (some ⟨xq5.1, 0, none⟩) 1 xq5.2.1), nilS, nilS, nilS, (.slice (some ⟨xq29.1, 0, none⟩) 1 xq29.2.1), nilS, nilS, nilS]) rfl rfl rfl T.sz54 rfl rfl rfl) (fun _ => (ulS (ulS (ulC (ulC (ulS (ulC ulR))))))) (fun _ _ => ?_)
      refine GH.done (by kernel_rfl) ?_
      refine GC.end0 rfl (fun wN HN => ?_)
      exact HN.frm (xq29, xq5) ⟨hq6.1, hq30.1⟩ (by rfl) (ulC (ulS (ulC (ulS (ulC (ulC ulR))))))
     refine GHs.cons rfl (Ex.wp (v := (.pointer (some ⟨kb, 0, none⟩))) (Ex.nilCheck rfl) (by decide)) (fun _ => (ulS (ulC (ulC (ulS (ulC ulR)))))) (fun _ _ => ?_) ?_
     ·refine GH.tk 10 (v := (.pointer (some ⟨kb, 4, none⟩))) rfl (by kernel_rfl) (fun _ _ _ h => h) (Ex.cast (Ex.fieldAddr rfl Try.underlying57 rfl T.sz55 (by decide)) rfl) (ulS (ulC (ulC (ulS (ulC ulR))))) (by decide) ?_
      refine GH.one 8 rfl (by kernel_rfl) (Stp.appendNil (vs := [(.int .i64 m)]) rfl rfl Try.underlying54 T.sz3 T.zr3 rfl T.by3 (fun wz hz => hz.rdOf (i := 0) rfl 0) rfl (by decide) (by decide) (by decide) (by decide)) (fun _ => (ulS (ulS (ulC (ulC (ulS (ulC ulR))))))) (fun xq31 hq32 => ?_)
      refine GH.tk 11 (v := (.pointer (some ⟨kb, 4, none⟩))) rfl (by kernel_rfl) (fun _ _ _ h => h) (Ex.cast (Ex.indexArr (m := 4) rfl rfl Try.underlying55 T.sz54 (by decide) (by decide)) rfl) (ulS (ulS (ulC (ulC (ulS (ulC ulR)))))) (by decide) ?_
      refine GH.one 12 rfl (by kernel_rfl) (Stp.st4 (cs' := [(.slice (some ⟨xq5.1, 0, none⟩) 1 xq5.2.1), nilS, nilS, nilS, (.slice (some ⟨xq31.1, 0, none⟩) 1 xq31.2.1), nilS, nilS, nilS]) rfl rfl rfl T.sz54 rfl rfl rfl) (fun _ => (ulS (ulS (ulC (ulC (ulS (ulC ulR))))))) (fun _ _ => ?_)
      refine GH.done (by kernel_rfl) ?_
      refine GC.end0 rfl (fun wN HN => ?_)
      exact HN.frm (xq31, xq5) ⟨hq6.1, hq32.1⟩ (by rfl) (ulC (ulS (ulC (ulS (ulC (ulC ulR))))))
     exact GHs.nil
    refine GHs.cons rfl (Ex.wp (v := (.pointer (some ⟨kb, 0, none⟩))) (Ex.nilCheck rfl) (by decide)) (fun _ => (ulS (ulC (ulC (ulS (ulC ulR)))))) (fun _ _ => ?_) ?_
    ·refine GH.tk 10 (v := (.pointer (some ⟨kb, 4, none⟩))) rfl (by kernel_rfl) (fun _ _ _ h => h) (Ex.cast (Ex.fieldAddr rfl Try.underlying57 rfl T.sz55 (by decide)) rfl) (ulS (ulC (ulC (ulS (ulC ulR))))) (by decide) ?_
     refine GH.one 5 rfl (by kernel_rfl) (Ex.wp (v := nilS) (Ex.load rfl T.ag54 (i := 3) rfl rfl) (by decide)) (fun _ => (ulS (ulC (ulC (ulS (ulC ulR)))))) (fun _ _ => ?_)
     refine GH.one 8 rfl (by kernel_rfl) (Stp.appendNil (vs := [(.int .i64 m)]) rfl rfl Try.underlying54 T.sz3 T.zr3 rfl T.by3 (fun wz hz => hz.rdOf (i := 0) rfl 0) rfl (by decide) (by decide) (by decide) (by decide)) (fun _ => (ulS (ulS (ulC (ulC (ulS (ulC ulR))))))) (fun xq33 hq34 => ?_)
     refine GH.tk 11 (v := (.pointer (some ⟨kb, 4, none⟩))) rfl (by kernel_rfl) (fun _ _ _ h => h) (Ex.cast (Ex.indexArr (m := 4) rfl rfl Try.underlying55 T.sz54 (by decide) (by decide)) rfl) (ulS (ulS (ulC (ulC (ulS (ulC ulR)))))) (by decide) ?_
     refine GH.one 12 rfl (by kernel_rfl) (Stp.st4 (cs' := [(.slice (some ⟨xq5.1, 0, none⟩) 1 xq5.2.1), nilS, nilS, nilS, (.slice (some ⟨xq33.1, 0, none⟩) 1 xq33.2.1), nilS, nilS, nilS]) rfl rfl rfl T.sz54 rfl rfl rfl) (fun _ => (ulS (ulS (ulC (ulC (ulS (ulC ulR))))))) (fun _ _ => ?_)
     refine GH.done (by kernel_rfl) ?_
     refine GC.end0 rfl (fun wN HN => ?_)
     exact HN.frm (xq33, xq5) ⟨hq6.1, hq34.1⟩ (by rfl) (ulC (ulS (ulC (ulS (ulC (ulC ulR))))))
    exact GHs.nil
   refine GHs.cons rfl (Ex.wp (v := (.pointer (some ⟨kb, 0, none⟩))) (Ex.nilCheck rfl) (by decide)) (fun _ => (ulS (ulC (ulC (ulS (ulC ulR)))))) (fun _ _ => ?_) ?_
   ·refine GH.tk 10 (v := (.pointer (some ⟨kb, 4, none⟩))) rfl (by kernel_rfl) (fun _ _ _ h => h) (Ex.cast (Ex.fieldAddr rfl Try.underlying57 rfl T.sz55 (by decide)) rfl) (ulS (ulC (ulC (ulS (ulC ulR))))) (by decide) ?_
    refine GH.one 2 rfl (by kernel_rfl) (Ex.wp (v := (.pointer (some ⟨kb, 0, none⟩))) (Ex.nilCheck rfl) (by decide)) (fun _ => (ulS (ulC (ulC (ulS (ulC ulR)))))) (fun _ _ => ?_)
    refine GH.tk 3 (v := (.pointer (some ⟨kb, 4, none⟩))) rfl (by kernel_rfl) (fun _ _ _ h => h) (Ex.cast (Ex.fieldAddr rfl Try.underlying57 rfl T.sz55 (by decide)) rfl) (ulS (ulC (ulC (ulS (ulC ulR))))) (by decide) ?_
    refine GH.tk 4 (v := (.pointer (some ⟨kb, 4, none⟩))) rfl (by kernel_rfl) (fun _ _ _ h => h) (Ex.cast (Ex.indexArr (m := 4) rfl rfl Try.underlying55 T.sz54 (by decide) (by decide)) rfl) (ulS (ulC (ulC (ulS (ulC ulR))))) (by decide) ?_
    refine GH.one 5 rfl (by kernel_rfl) (Ex.wp (v := nilS) (Ex.load rfl T.ag54 (i := 3) rfl rfl) (by decide)) (fun _ => (ulS (ulC (ulC (ulS (ulC ulR)))))) (fun _ _ => ?_)
    refine GH.one 8 rfl (by kernel_rfl) (Stp.appendNil (vs := [(.int .i64 m)]) rfl rfl Try.underlying54 T.sz3 T.zr3 rfl T.by3 (fun wz hz => hz.rdOf (i := 0) rfl 0) rfl (by decide) (by decide) (by decide) (by decide)) (fun _ => (ulS (ulS (ulC (ulC (ulS (ulC ulR))))))) (fun xq35 hq36 => ?_)
    refine GH.tk 11 (v := (.pointer (some ⟨kb, 4, none⟩))) rfl (by kernel_rfl) (fun _ _ _ h => h) (Ex.cast (Ex.indexArr (m := 4) rfl rfl Try.underlying55 T.sz54 (by decide) (by decide)) rfl) (ulS (ulS (ulC (ulC (ulS (ulC ulR)))))) (by decide) ?_
    refine GH.one 12 rfl (by kernel_rfl) (Stp.st4 (cs' := [(.slice (some ⟨xq5.1, 0, none⟩) 1 xq5.2.1), nilS, nilS, nilS, (.slice (some ⟨xq35.1, 0, none⟩) 1 xq35.2.1), nilS, nilS, nilS]) rfl rfl rfl T.sz54 rfl rfl rfl) (fun _ => (ulS (ulS (ulC (ulC (ulS (ulC ulR))))))) (fun _ _ => ?_)
    refine GH.done (by kernel_rfl) ?_
    refine GC.end0 rfl (fun wN HN => ?_)
    exact HN.frm (xq35, xq5) ⟨hq6.1, hq36.1⟩ (by rfl) (ulC (ulS (ulC (ulS (ulC (ulC ulR))))))
   exact GHs.nil
  refine GHs.cons rfl (Ex.wp (v := (.pointer (some ⟨kb, 0, none⟩))) (Ex.nilCheck rfl) (by decide)) (fun _ => (ulC (ulC (ulS (ulC ulR))))) (fun _ _ => ?_) ?_
  ·refine GH.tk 10 (v := (.pointer (some ⟨kb, 4, none⟩))) rfl (by kernel_rfl) (fun _ _ _ h => h) (Ex.cast (Ex.fieldAddr rfl Try.underlying57 rfl T.sz55 (by decide)) rfl) (ulC (ulC (ulS (ulC ulR)))) (by decide) ?_
   refine GH.many (rs := [2, 7]) (by kernel_rfl) (by simp) ?_
   refine GHs.cons rfl (Ex.wp (v := (.pointer (some ⟨kb, 0, none⟩))) (Ex.nilCheck rfl) (by decide)) (fun _ => (ulC (ulC (ulS (ulC ulR))))) (fun _ _ => ?_) ?_
   ·refine GH.tk 3 (v := (.pointer (some ⟨kb, 4, none⟩))) rfl (by kernel_rfl) (fun _ _ _ h => h) (Ex.cast (Ex.fieldAddr rfl Try.underlying57 rfl T.sz55 (by decide)) rfl) (ulC (ulC (ulS (ulC ulR)))) (by decide) ?_
    refine GH.tk 4 (v := (.pointer (some ⟨kb, 4, none⟩))) rfl (by kernel_rfl) (fun _ _ _ h => h) (Ex.cast (Ex.indexArr (m := 4) rfl rfl Try.underlying55 T.sz54 (by decide) (by decide)) rfl) (ulC (ulC (ulS (ulC ulR)))) (by decide) ?_
    refine GH.many (rs := [5, 7]) (by kernel_rfl) (by simp) ?_
    refine GHs.cons rfl (Ex.wp (v := nilS) (Ex.load rfl T.ag54 (i := 2) rfl rfl) (by decide)) (fun _ => (ulC (ulC (ulS (ulC ulR))))) (fun _ _ => ?_) ?_
    ·refine GH.one 7 rfl (by kernel_rfl) (Stp.buildSlice (cs := [(.int .i64 m)]) (vs := [(0, (.int .i64 m))]) Try.underlying54 T.zr3 T.sz3 rfl (by decide) (by decide) (by first | rfl | kernel_rfl) (by decide)) (fun _ => (ulS (ulC (ulC (ulS (ulC ulR)))))) (fun bq37 _ => ?_)
     refine GH.one 8 rfl (by kernel_rfl) (Stp.appendNil (vs := [(.int .i64 m)]) rfl rfl Try.underlying54 T.sz3 T.zr3 rfl T.by3 (fun wz hz => hz.rdOf (i := 0) rfl 0) rfl (by decide) (by decide) (by decide) (by decide)) (fun _ => (ulS (ulS (ulC (ulC (ulS (ulC ulR))))))) (fun xq38 hq39 => ?_)
     refine GH.tk 11 (v := (.pointer (some ⟨kb, 4, none⟩))) rfl (by kernel_rfl) (fun _ _ _ h => h) (Ex.cast (Ex.indexArr (m := 4) rfl rfl Try.underlying55 T.sz54 (by decide) (by decide)) rfl) (ulS (ulS (ulC (ulC (ulS (ulC ulR)))))) (by decide) ?_
     refine GH.one 12 rfl (by kernel_rfl) (Stp.st4 (cs' := [(.slice (some ⟨xq5.1, 0, none⟩) 1 xq5.2.1), nilS, nilS, nilS, (.slice (some ⟨xq38.1, 0, none⟩) 1 xq38.2.1), nilS, nilS, nilS]) rfl rfl rfl T.sz54 rfl rfl rfl) (fun _ => (ulS (ulS (ulC (ulC (ulS (ulC ulR))))))) (fun _ _ => ?_)
     refine GH.done (by kernel_rfl) ?_
     refine GC.end0 rfl (fun wN HN => ?_)
     exact HN.frm (xq38, xq5) ⟨hq6.1, hq39.1⟩ (by rfl) (ulC (ulS (ulC (ulS (ulC (ulC ulR))))))
    refine GHs.cons rfl (Stp.buildSlice (cs := [(.int .i64 m)]) (vs := [(0, (.int .i64 m))]) Try.underlying54 T.zr3 T.sz3 rfl (by decide) (by decide) (by first | rfl | kernel_rfl) (by decide)) (fun _ => (ulS (ulC (ulC (ulS (ulC ulR)))))) (fun bq40 _ => ?_) ?_
    ·refine GH.one 5 rfl (by kernel_rfl) (Ex.wp (v := nilS) (Ex.load rfl T.ag54 (i := 3) rfl rfl) (by decide)) (fun _ => (ulS (ulC (ulC (ulS (ulC ulR)))))) (fun _ _ => ?_)
     refine GH.one 8 rfl (by kernel_rfl) (Stp.appendNil (vs := [(.int .i64 m)]) rfl rfl Try.underlying54 T.sz3 T.zr3 rfl T.by3 (fun wz hz => hz.rdOf (i := 0) rfl 0) rfl (by decide) (by decide) (by decide) (by decide)) (fun _ => (ulS (ulS (ulC (ulC (ulS (ulC ulR))))))) (fun xq41 hq42 => ?_)
     refine GH.tk 11 (v := (.pointer (some ⟨kb, 4, none⟩))) rfl (by kernel_rfl) (fun _ _ _ h => h) (Ex.cast (Ex.indexArr (m := 4) rfl rfl Try.underlying55 T.sz54 (by decide) (by decide)) rfl) (ulS (ulS (ulC (ulC (ulS (ulC ulR)))))) (by decide) ?_
     refine GH.one 12 rfl (by kernel_rfl) (Stp.st4 (cs' := [(.slice (some ⟨xq5.1, 0, none⟩) 1 xq5.2.1), nilS, nilS, nilS, (.slice (some ⟨xq41.1, 0, none⟩) 1 xq41.2.1), nilS, nilS, nilS]) rfl rfl rfl T.sz54 rfl rfl rfl) (fun _ => (ulS (ulS (ulC (ulC (ulS (ulC ulR))))))) (fun _ _ => ?_)
     refine GH.done (by kernel_rfl) ?_
     refine GC.end0 rfl (fun wN HN => ?_)
     exact HN.frm (xq41, xq5) ⟨hq6.1, hq42.1⟩ (by rfl) (ulC (ulS (ulC (ulS (ulC (ulC ulR))))))
    exact GHs.nil
   refine GHs.cons rfl (Stp.buildSlice (cs := [(.int .i64 m)]) (vs := [(0, (.int .i64 m))]) Try.underlying54 T.zr3 T.sz3 rfl (by decide) (by decide) (by first | rfl | kernel_rfl) (by decide)) (fun _ => (ulS (ulC (ulC (ulS (ulC ulR)))))) (fun bq43 _ => ?_) ?_
   ·refine GH.one 2 rfl (by kernel_rfl) (Ex.wp (v := (.pointer (some ⟨kb, 0, none⟩))) (Ex.nilCheck rfl) (by decide)) (fun _ => (ulS (ulC (ulC (ulS (ulC ulR)))))) (fun _ _ => ?_)
    refine GH.tk 3 (v := (.pointer (some ⟨kb, 4, none⟩))) rfl (by kernel_rfl) (fun _ _ _ h => h) (Ex.cast (Ex.fieldAddr rfl Try.underlying57 rfl T.sz55 (by decide)) rfl) (ulS (ulC (ulC (ulS (ulC ulR))))) (by decide) ?_
    refine GH.tk 4 (v := (.pointer (some ⟨kb, 4, none⟩))) rfl (by kernel_rfl) (fun _ _ _ h => h) (Ex.cast (Ex.indexArr (m := 4) rfl rfl Try.underlying55 T.sz54 (by decide) (by decide)) rfl) (ulS (ulC (ulC (ulS (ulC ulR))))) (by decide) ?_
    refine GH.one 5 rfl (by kernel_rfl) (Ex.wp (v := nilS) (Ex.load rfl T.ag54 (i := 3) rfl rfl) (by decide)) (fun _ => (ulS (ulC (ulC (ulS (ulC ulR)))))) (fun _ _ => ?_)
    refine GH.one 8 rfl (by kernel_rfl) (Stp.appendNil (vs := [(.int .i64 m)]) rfl rfl Try.underlying54 T.sz3 T.zr3 rfl T.by3 (fun wz hz => hz.rdOf (i := 0) rfl 0) rfl (by decide) (by decide) (by decide) (by decide)) (fun _ => (ulS (ulS (ulC (ulC (ulS (ulC ulR))))))) (fun xq44 hq45 => ?_)
    refine GH.tk 11 (v := (.pointer (some ⟨kb, 4, none⟩))) rfl (by kernel_rfl) (fun _ _ _ h => h) (Ex.cast (Ex.indexArr (m := 4) rfl rfl Try.underlying55 T.sz54 (by decide) (by decide)) rfl) (ulS (ulS (ulC (ulC (ulS (ulC ulR)))))) (by decide) ?_
    refine GH.one 12 rfl (by kernel_rfl) (Stp.st4 (cs' := [(.slice (some ⟨xq5.1, 0, none⟩) 1 xq5.2.1), nilS, nilS, nilS, (.slice (some ⟨xq44.1, 0, none⟩) 1 xq44.2.1), nilS, nilS, nilS]) rfl rfl rfl T.sz54 rfl rfl rfl) (fun _ => (ulS (ulS (ulC (ulC (ulS (ulC ulR))))))) (fun _ _ => ?_)
    refine GH.done (by kernel_rfl) ?_
    refine GC.end0 rfl (fun wN HN => ?_)
    exact HN.frm (xq44, xq5) ⟨hq6.1, hq45.1⟩ (by rfl) (ulC (ulS (ulC (ulS (ulC (ulC ulR))))))
   exact GHs.nil
  exact GHs.nil

theorem book_p01 (w0 : World) (R : List Blk) (W H : Int) (kb : Nat) (m : Int) (b n cap : Nat) (cs : List Value) (w : World) (hcap : cs.length = cap) (hb : cap ≤ 9223372036854775807) (hp0 : Hp None w0 (⟨kb, [(.slice none 0 0), (.slice none 0 0), (.slice none 0 0), (.slice none 0 0), (.slice none 0 0), (.slice none 0 0), (.slice none 0 0), (.slice none 0 0)], 57, true⟩ :: ⟨b, cs, 28, true⟩ :: R) w) :
  Calls Try.prog 28 #[(.pointer (some ⟨kb, 0, none⟩)), (.agg #[(.int .i64 W), (.int .i64 H), (.slice (some ⟨b, 0, none⟩) n cap)]), (.int .i64 m)] w (Frm (σ := (Nat × Nat × List Value) × (Nat × Nat × List Value)) None w0 (fun x => ([(Value.slice (some ⟨b, 0, none⟩) cap cap)] ++ x.2.2.2 : List Value).length = x.2.2.1 * 1 ∧ ([(Value.int .i64 m)] ++ x.1.2.2 : List Value).length = x.1.2.1 * 1) (fun x => .tuple #[]) (fun x => (⟨x.1.1, [(Value.int .i64 m)] ++ x.1.2.2, 3, true⟩ :: ⟨x.2.1, [(Value.slice (some ⟨b, 0, none⟩) cap cap)] ++ x.2.2.2, 41, true⟩ :: ⟨kb, [(.slice (some ⟨x.2.1, 0, none⟩) 1 x.2.2.1), (.slice none 0 0), (.slice none 0 0), (.slice none 0 0), (.slice (some ⟨x.1.1, 0, none⟩) 1 x.1.2.1), (.slice none 0 0), (.slice none 0 0), (.slice none 0 0)], 57, true⟩ :: ⟨b, (mks m cap).map u32, 28, true⟩ :: R))) := by
 refine enterF (w0 := w0) (M := None) (L := (⟨kb, [nilS, nilS, nilS, nilS, nilS, nilS, nilS, nilS], 57, true⟩ :: ⟨b, cs, 28, true⟩ :: R)) (n := 11) (l := [(0, (.pointer (some ⟨kb, 0, none⟩))), (1, (.agg #[(.int .i64 W), (.int .i64 H), (.slice (some ⟨b, 0, none⟩) n cap)])), (2, (.int .i64 m))]) Try.func28 rfl rfl (Args.cons rfl (Args.cons rfl (Args.cons rfl (Args.nil _)))) hp0 ?_
 refine GC.seq (GC.region ?_)
 refine GL.step (Stp.box (cs := [(.int .i64 W), (.int .i64 H), (.slice (some ⟨b, 0, none⟩) n cap)]) rfl rfl (by decide)) (fun bq1 _ => ?_)
 refine GL.nil (GE.thenN (GC.region ?_))
 refine GL.mv rfl (by decide) ?_
 refine GL.val (v := (.pointer (some ⟨bq1, 2, none⟩))) (Ex.cast (Ex.fieldAddr rfl Try.underlying43 rfl T.sz41 (by decide)) rfl) (by decide) ?_
 refine GL.val (Ex.load rfl T.ag41 (i := 0) rfl rfl) (by decide) ?_
 refine GL.mv rfl (by decide) ?_
 refine GL.step (Stp.call (vs := [(.pointer (some ⟨kb, 0, none⟩)), (.slice (some ⟨b, 0, none⟩) n cap), (.int .i64 m)]) rfl rfl T.own66 (by decide) (fun wc hw => book_s01 w0 _ kb m b n cap cs wc hcap hb (Hp.pickT (A := [⟨bq1, [(.int .i64 W), (.int .i64 H), (.slice (some ⟨b, 0, none⟩) n cap)], 43, true⟩, ⟨kb, [nilS, nilS, nilS, nilS, nilS, nilS, nilS, nilS], 57, true⟩, ⟨b, cs, 28, true⟩]) (R := R) hw (idx := [1, 2, 0]) (by decide) rfl))) (fun xq2 hq3 => ?_)
 refine GL.nil ?_
 refine GC.end0 rfl (fun wN HN => ?_)
 exact HN.frm xq2 hq3 (by rfl) (ulC (ulC (ulC (ulC (ulS ulR)))))

theorem book_s10 (w0 : World) (R : List Blk) (kb : Nat) (m : Int) (n1 b1 c1 b2 c2 : Nat) (xs1 sp1 xs2 sp2 : List Value) (w : World)  (hn1 : n1 ≤ 4000000000000) (hx1 : xs1.length = n1) (hx2 : xs2.length = n1) (hc1 : (xs1 ++ sp1).length = c1 * 1) (hc2 : (xs2 ++ sp2).length = c2 * 1) (hp0 : Hp None w0 (⟨kb, [(.slice (some ⟨b1, 0, none⟩) n1 c1), (.slice none 0 0), (.slice none 0 0), (.slice none 0 0), (.slice (some ⟨b2, 0, none⟩) n1 c2), (.slice none 0 0), (.slice none 0 0), (.slice none 0 0)], 57, true⟩ :: ⟨b1, xs1 ++ sp1, 41, true⟩ :: ⟨b2, xs2 ++ sp2, 3, true⟩ :: R) w) :
  Calls Try.prog 66 #[(.pointer (some ⟨kb, 0, none⟩)), (.slice none 0 0), (.int .i64 m)] w (Frm (σ := (Nat × Nat × List Value) × (Nat × Nat × List Value)) None w0 (fun x => (xs1 ++ [(Value.slice none 0 0)] ++ x.2.2.2 : List Value).length = x.2.2.1 * 1 ∧ (xs2 ++ [(Value.int .i64 m)] ++ x.1.2.2 : List Value).length = x.1.2.1 * 1) (fun x => .tuple #[]) (fun x => (⟨x.1.1, xs2 ++ [(Value.int .i64 m)] ++ x.1.2.2, 3, true⟩ :: ⟨x.2.1, xs1 ++ [(Value.slice none 0 0)] ++ x.2.2.2, 41, true⟩ :: ⟨kb, [(.slice (some ⟨x.2.1, 0, none⟩) (n1 + 1) x.2.2.1), (.slice none 0 0), (.slice none 0 0), (.slice none 0 0), (.slice (some ⟨x.1.1, 0, none⟩) (n1 + 1) x.1.2.1), (.slice none 0 0), (.slice none 0 0), (.slice none 0 0)], 57, true⟩ :: R))) := by
 refine enterF (w0 := w0) (M := None) (L := (⟨kb, [(.slice (some ⟨b1, 0, none⟩) n1 c1), nilS, nilS, nilS, (.slice (some ⟨b2, 0, none⟩) n1 c2), nilS, nilS, nilS], 57, true⟩ :: ⟨b1, xs1 ++ sp1, 41, true⟩ :: ⟨b2, xs2 ++ sp2, 3, true⟩ :: R)) (n := 46) (l := [(0, (.pointer (some ⟨kb, 0, none⟩))), (1, nilS), (2, (.int .i64 m))]) Try.func66 rfl rfl (Args.cons rfl (Args.cons rfl (Args.cons rfl (Args.nil _)))) hp0 ?_
 refine GC.seq (GC.region ?_)
 refine GL.mv rfl (by decide) ?_
 refine GL.mv rfl (by decide) ?_
 refine GL.val (v := (.int .i64 0)) (Ex.cap rfl Try.underlying41) (by decide) ?_
 refine GL.val (v := nilS) (Ex.sliceH (m := 0) rfl rfl Try.underlying41 T.sz28 rfl (Nat.le_refl _)) (by decide) ?_
 refine GL.sg rfl (by decide) ?_
 refine GL.nil (GE.thenN (GC.seq (GC.seq (GC.region ?_))))
 refine GL.sg rfl (by decide) ?_
 refine GL.nil (GE.thenN (GC.block ?_))
 refine GC.unroll 1 ?_
 refine GE.round (GC.seq (GC.seq (GC.region ?_)))
 refine GL.mv rfl (by decide) ?_
 refine GL.mv rfl (by decide) ?_
 refine GL.val (v := (.int .i64 0)) (Ex.len rfl Try.underlying41) (by decide) ?_
 refine GL.val (v := (.bool false)) (Ex.cast (Ex.lss rfl rfl) rfl) (by decide) ?_
 refine GL.nil (GE.thenN ?_)
 refine GC.cond rfl (fun hq1 => by cases hq1) (fun _ => ?_)
 refine GC.exit (GE.thenE (GE.thenE (GE.blockE (GE.thenN (GC.seq (GC.region ?_))))))
 refine GL.mv rfl (by decide) ?_
 refine GL.mv rfl (by decide) ?_
 refine GL.val (v := (.pointer (some ⟨kb, 0, none⟩))) (Ex.nilCheck rfl) (by decide) ?_
 refine GL.val (v := (.pointer (some ⟨kb, 0, none⟩))) (Ex.cast (Ex.fieldAddr rfl Try.underlying57 rfl T.sz50 (by decide)) rfl) (by decide) ?_
 refine GL.val (Ex.load rfl T.ag50 (i := 0) rfl rfl) (by decide) ?_
 refine GL.mv rfl (by decide) ?_
 refine GL.step (Stp.buildSlice (cs := [nilS]) (vs := [(0, nilS)]) Try.underlying50 T.zr41 T.sz41 rfl (by decide) (by decide) (by first | rfl | kernel_rfl) (by decide)) (fun bq2 _ => ?_)
 refine GL.step (Stp.appendOwn (i := 2) (xs := xs1) (sp := sp1) (vs := [nilS]) (L1 := (⟨bq2, [nilS], 41, true⟩ :: ⟨kb, [(.slice (some ⟨b1, 0, none⟩) n1 c1), nilS, nilS, nilS, (.slice (some ⟨b2, 0, none⟩) n1 c2), nilS, nilS, nilS], 57, true⟩ :: ⟨b2, xs2 ++ sp2, 3, true⟩ :: R)) rfl rfl Try.underlying50 T.sz41 T.zr41 rfl T.by41 rfl (by omega) hc1 (fun wz hz => hz.rdOf (i := 0) rfl 0) rfl rfl (by omega) (by omega) rfl (by decide)) (fun xq3 hq4 => ?_)
 refine GL.val (v := (.pointer (some ⟨kb, 0, none⟩))) (Ex.nilCheck rfl) (by decide) ?_
 refine GL.val (v := (.pointer (some ⟨kb, 0, none⟩))) (Ex.cast (Ex.fieldAddr rfl Try.underlying57 rfl T.sz50 (by decide)) rfl) (by decide) ?_
 refine GL.step (Stp.st2 (cs' := [(.slice (some ⟨xq3.1, 0, none⟩) (n1 + 1) xq3.2.1), nilS, nilS, nilS, (.slice (some ⟨b2, 0, none⟩) n1 c2), nilS, nilS, nilS]) rfl rfl rfl T.sz50 rfl rfl rfl) (fun _ _ => ?_)
 refine GL.nil (GE.thenN ?_)
 refine GC.draw (⟨xq3.1, xs1 ++ [nilS] ++ xq3.2.2, 41, true⟩ :: ⟨bq2, [nilS], 41, true⟩ :: R) T.mixed (fuel := 13) rfl rfl ?_
 refine GH.tk 0 (v := (.pointer (some ⟨kb, 0, none⟩))) rfl (by kernel_rfl) (fun _ _ _ h => h) (Ex.move rfl) (ulC (ulC (ulS (ulS ulR)))) (by decide) ?_
 refine GH.tk 1 (v := (.pointer (some ⟨kb, 0, none⟩))) rfl (by kernel_rfl) (fun _ _ _ h => h) (Ex.move rfl) (ulC (ulC (ulS (ulS ulR)))) (by decide) ?_
 refine GH.tk 6 (v := (.int .i64 m)) rfl (by kernel_rfl) (fun _ _ _ h => h) (Ex.move rfl) (ulC (ulC (ulS (ulS ulR)))) (by decide) ?_
 refine GH.many (rs := [2, 7, 9]) (by kernel_rfl) (by simp) ?_
 refine GHs.cons rfl (Ex.wp (v := (.pointer (some ⟨kb, 0, none⟩))) (Ex.nilCheck rfl) (by decide)) (fun _ => (ulC (ulC (ulS (ulS ulR))))) (fun _ _ => ?_) ?_
 ·refine GH.tk 3 (v := (.pointer (some ⟨kb, 4, none⟩))) rfl (by kernel_rfl) (fun _ _ _ h => h) (Ex.cast (Ex.fieldAddr rfl Try.underlying57 rfl T.sz55 (by decide)) rfl) (ulC (ulC (ulS (ulS ulR)))) (by decide) ?_
  refine GH.tk 4 (v := (.pointer (some ⟨kb, 4, none⟩))) rfl (by kernel_rfl) (fun _ _ _ h => h) (Ex.cast (Ex.indexArr (m := 4) rfl rfl Try.underlying55 T.sz54 (by decide) (by decide)) rfl) (ulC (ulC (ulS (ulS ulR)))) (by decide) ?_
  refine GH.many (rs := [5, 7, 9]) (by kernel_rfl) (by simp) ?_
  refine GHs.cons rfl (Ex.wp (v := (.slice (some ⟨b2, 0, none⟩) n1 c2)) (Ex.load rfl T.ag54 (i := 2) rfl rfl) (by decide)) (fun _ => (ulC (ulC (ulS (ulS ulR))))) (fun _ _ => ?_) ?_
  ·refine GH.many (rs := [7, 9]) (by kernel_rfl) (by simp) ?_
   refine GHs.cons rfl (Stp.buildSlice (cs := [(.int .i64 m)]) (vs := [(0, (.int .i64 m))]) Try.underlying54 T.zr3 T.sz3 rfl (by decide) (by decide) (by first | rfl | kernel_rfl) (by decide)) (fun _ => (ulS (ulC (ulC (ulS (ulS ulR)))))) (fun bq5 _ => ?_) ?_
   ·refine GH.many (rs := [8, 9]) (by kernel_rfl) (by simp) ?_
    refine GHs.cons rfl (Stp.appendOwn (i := 4) (xs := xs2) (sp := sp2) (vs := [(.int .i64 m)]) (L1 := (⟨bq5, [(.int .i64 m)], 3, true⟩ :: ⟨xq3.1, xs1 ++ [nilS] ++ xq3.2.2, 41, true⟩ :: ⟨bq2, [nilS], 41, true⟩ :: ⟨kb, [(.slice (some ⟨xq3.1, 0, none⟩) (n1 + 1) xq3.2.1), nilS, nilS, nilS, (.slice (some ⟨b2, 0, none⟩) n1 c2), nilS, nilS, nilS], 57, true⟩ :: R)) rfl rfl Try.underlying54 T.sz3 T.zr3 rfl T.by3 rfl (by omega) hc2 (fun wz hz => hz.rdOf (i := 0) rfl 0) rfl rfl (by omega) (by omega) rfl (by decide)) (fun _ => (ulS (ulS (ulC (ulC (ulS ulR)))))) (fun xq6 hq7 => ?_) ?_
    ·refine GH.one 9 rfl (by kernel_rfl) (Ex.wp (v := (.pointer (some ⟨kb, 0, none⟩))) (Ex.nilCheck rfl) (by decide)) (fun _ => (ulS (ulS (ulC (ulC (ulS ulR)))))) (fun _ _ => ?_)
     refine GH.tk 10 (v := (.pointer (some ⟨kb, 4, none⟩))) rfl (by kernel_rfl) (fun _ _ _ h => h) (Ex.cast (Ex.fieldAddr rfl Try.underlying57 rfl T.sz55 (by decide)) rfl) (ulS (ulS (ulC (ulC (ulS ulR))))) (by decide) ?_
     refine GH.tk 11 (v := (.pointer (some ⟨kb, 4, none⟩))) rfl (by kernel_rfl) (fun _ _ _ h => h) (Ex.cast (Ex.indexArr (m := 4) rfl rfl Try.underlying55 T.sz54 (by decide) (by decide)) rfl) (ulS (ulS (ulC (ulC (ulS ulR))))) (by decide) ?_
     refine GH.one 12 rfl (by kernel_rfl) (Stp.st4 (cs' := [(.slice (some ⟨xq3.1, 0, none⟩) (n1 + 1) xq3.2.1), nilS, nilS, nilS, (.slice (some ⟨xq6.1, 0, none⟩) (n1 + 1) xq6.2.1), nilS, nilS, nilS]) rfl rfl rfl T.sz54 rfl rfl rfl) (fun _ => (ulS (ulS (ulC (ulC (ulS ulR)))))) (fun _ _ => ?_)
     refine GH.done (by kernel_rfl) ?_
     refine GC.end0 rfl (fun wN HN => ?_)
     exact HN.frm (xq6, xq3) ⟨hq4.1, hq7.1⟩ (by rfl) (ulC (ulS (ulC (ulS (ulC ulR)))))
    refine GHs.cons rfl (Ex.wp (v := (.pointer (some ⟨kb, 0, none⟩))) (Ex.nilCheck rfl) (by decide)) (fun _ => (ulS (ulC (ulC (ulS (ulS ulR)))))) (fun _ _ => ?_) ?_
    ·refine GH.tk 10 (v := (.pointer (some ⟨kb, 4, none⟩))) rfl (by kernel_rfl) (fun _ _ _ h => h) (Ex.cast (Ex.fieldAddr rfl Try.underlying57 rfl T.sz55 (by decide)) rfl) (ulS (ulC (ulC (ulS (ulS ulR))))) (by decide) ?_
     refine GH.one 8 rfl (by kernel_rfl) (Stp.appendOwn (i := 4) (xs := xs2) (sp := sp2) (vs := [(.int .i64 m)]) (L1 := (⟨bq5, [(.int .i64 m)], 3, true⟩ :: ⟨xq3.1, xs1 ++ [nilS] ++ xq3.2.2, 41, true⟩ :: ⟨bq2, [nilS], 41, true⟩ :: ⟨kb, [(.slice (some ⟨xq3.1, 0, none⟩) (n1 + 1) xq3.2.1), nilS, nilS, nilS, (.slice (some ⟨b2, 0, none⟩) n1 c2), nilS, nilS, nilS], 57, true⟩ :: R)) rfl rfl Try.underlying54 T.sz3 T.zr3 rfl T.by3 rfl (by omega) hc2 (fun wz hz => hz.rdOf (i := 0) rfl 0) rfl rfl (by omega) (by omega) rfl (by decide)) (fun _ => (ulS (ulS (ulC (ulC (ulS ulR)))))) (fun xq8 hq9 => ?_)
     refine GH.tk 11 (v := (.pointer (some ⟨kb, 4, none⟩))) rfl (by kernel_rfl) (fun _ _ _ h => h) (Ex.cast (Ex.indexArr (m := 4) rfl rfl Try.underlying55 T.sz54 (by decide) (by decide)) rfl) (ulS (ulS (ulC (ulC (ulS ulR))))) (by decide) ?_
     refine GH.one 12 rfl (by kernel_rfl) (Stp.st4 (cs' := [(.slice (some ⟨xq3.1, 0, none⟩) (n1 + 1) xq3.2.1), nilS, nilS, nilS, (.slice (some ⟨xq8.1, 0, none⟩) (n1 + 1) xq8.2.1), nilS, nilS, nilS]) rfl rfl rfl T.sz54 rfl rfl rfl) (fun _ => (ulS (ulS (ulC (ulC (ulS ulR)))))) (fun _ _ => ?_)
     refine GH.done (by kernel_rfl) ?_
     refine GC.end0 rfl (fun wN HN => ?_)
     exact HN.frm (xq8, xq3) ⟨hq4.1, hq9.1⟩ (by rfl) (ulC (ulS (ulC (ulS (ulC ulR)))))
    exact GHs.nil
   refine GHs.cons rfl (Ex.wp (v := (.pointer (some ⟨kb, 0, none⟩))) (Ex.nilCheck rfl) (by decide)) (fun _ => (ulC (ulC (ulS (ulS ulR))))) (fun _ _ => ?_) ?_
   ·refine GH.tk 10 (v := (.pointer (some ⟨kb, 4, none⟩))) rfl (by kernel_rfl) (fun _ _ _ h => h) (Ex.cast (Ex.fieldAddr rfl Try.underlying57 rfl T.sz55 (by decide)) rfl) (ulC (ulC (ulS (ulS ulR)))) (by decide) ?_
    refine GH.one 7 rfl (by kernel_rfl) (Stp.buildSlice (cs := [(.int .i64 m)]) (vs := [(0, (.int .i64 m))]) Try.underlying54 T.zr3 T.sz3 rfl (by decide) (by decide) (by first | rfl | kernel_rfl) (by decide)) (fun _ => (ulS (ulC (ulC (ulS (ulS ulR)))))) (fun bq10 _ => ?_)
    refine GH.one 8 rfl (by kernel_rfl) (Stp.appendOwn (i := 4) (xs := xs2) (sp := sp2) (vs := [(.int .i64 m)]) (L1 := (⟨bq10, [(.int .i64 m)], 3, true⟩ :: ⟨xq3.1, xs1 ++ [nilS] ++ xq3.2.2, 41, true⟩ :: ⟨bq2, [nilS], 41, true⟩ :: ⟨kb, [(.slice (some ⟨xq3.1, 0, none⟩) (n1 + 1) xq3.2.1), nilS, nilS, nilS, (.slice (some ⟨b2, 0, none⟩) n1 c2), nilS, nilS, nilS], 57, true⟩ :: R)) rfl rfl Try.underlying54 T.sz3 T.zr3 rfl T.by3 rfl (by omega) hc2 (fun wz hz => hz.rdOf (i := 0) rfl 0) rfl rfl (by omega) (by omega) rfl (by decide)) (fun _ => (ulS (ulS (ulC (ulC (ulS ulR)))))) (fun xq11 hq12 => ?_)
    refine GH.tk 11 (v := (.pointer (some ⟨kb, 4, none⟩))) rfl (by kernel_rfl) (fun _ _ _ h => h) (Ex.cast (Ex.indexArr (m := 4) rfl rfl Try.underlying55 T.sz54 (by decide) (by decide)) rfl) (ulS (ulS (ulC (ulC (ulS ulR))))) (by decide) ?_
    refine GH.one 12 rfl (by kernel_rfl) (Stp.st4 (cs' := [(.slice (some ⟨xq3.1, 0, none⟩) (n1 + 1) xq3.2.1), nilS, nilS, nilS, (.slice (some ⟨xq11.1, 0, none⟩) (n1 + 1) xq11.2.1), nilS, nilS, nilS]) rfl rfl rfl T.sz54 rfl rfl rfl) (fun _ => (ulS (ulS (ulC (ulC (ulS ulR)))))) (fun _ _ => ?_)
    refine GH.done (by kernel_rfl) ?_
    refine GC.end0 rfl (fun wN HN => ?_)
    exact HN.frm (xq11, xq3) ⟨hq4.1, hq12.1⟩ (by rfl) (ulC (ulS (ulC (ulS (ulC ulR)))))
   exact GHs.nil
  refine GHs.cons rfl (Stp.buildSlice (cs := [(.int .i64 m)]) (vs := [(0, (.int .i64 m))]) Try.underlying54 T.zr3 T.sz3 rfl (by decide) (by decide) (by first | rfl | kernel_rfl) (by decide)) (fun _ => (ulS (ulC (ulC (ulS (ulS ulR)))))) (fun bq13 _ => ?_) ?_
  ·refine GH.many (rs := [5, 9]) (by kernel_rfl) (by simp) ?_
   refine GHs.cons rfl (Ex.wp (v := (.slice (some ⟨b2, 0, none⟩) n1 c2)) (Ex.load rfl T.ag54 (i := 3) rfl rfl) (by decide)) (fun _ => (ulS (ulC (ulC (ulS (ulS ulR)))))) (fun _ _ => ?_) ?_
   ·refine GH.many (rs := [8, 9]) (by kernel_rfl) (by simp) ?_
    refine GHs.cons rfl (Stp.appendOwn (i := 4) (xs := xs2) (sp := sp2) (vs := [(.int .i64 m)]) (L1 := (⟨bq13, [(.int .i64 m)], 3, true⟩ :: ⟨xq3.1, xs1 ++ [nilS] ++ xq3.2.2, 41, true⟩ :: ⟨bq2, [nilS], 41, true⟩ :: ⟨kb, [(.slice (some ⟨xq3.1, 0, none⟩) (n1 + 1) xq3.2.1), nilS, nilS, nilS, (.slice (some ⟨b2, 0, none⟩) n1 c2), nilS, nilS, nilS], 57, true⟩ :: R)) rfl rfl Try.underlying54 T.sz3 T.zr3 rfl T.by3 rfl (by omega) hc2 (fun wz hz => hz.rdOf (i := 0) rfl 0) rfl rfl (by omega) (by omega) rfl (by decide)) (fun _ => (ulS (ulS (ulC (ulC (ulS ulR)))))) (fun xq14 hq15 => ?_) ?_
    ·refine GH.one 9 rfl (by kernel_rfl) (Ex.wp (v := (.pointer (some ⟨kb, 0, none⟩))) (Ex.nilCheck rfl) (by decide)) (fun _ => (ulS (ulS (ulC (ulC (ulS ulR)))))) (fun _ _ => ?_)
     refine GH.tk 10 (v := (.pointer (some ⟨kb, 4, none⟩))) rfl (by kernel_rfl) (fun _ _ _ h => h) (Ex.cast (Ex.fieldAddr rfl Try.underlying57 rfl T.sz55 (by decide)) rfl) (ulS (ulS (ulC (ulC (ulS ulR))))) (by decide) ?_
     refine GH.tk 11 (v := (.pointer (some ⟨kb, 4, none⟩))) rfl (by kernel_rfl) (fun _ _ _ h => h) (Ex.cast (Ex.indexArr (m := 4) rfl rfl Try.underlying55 T.sz54 (by decide) (by decide)) rfl) (ulS (ulS (ulC (ulC (ulS ulR))))) (by decide) ?_
     refine GH.one 12 rfl (by kernel_rfl) (Stp.st4 (cs' := [(.slice (some ⟨xq3.1, 0, none⟩) (n1 + 1) xq3.2.1), nilS, nilS, nilS, (.slice (some ⟨xq14.1, 0, none⟩) (n1 + 1) xq14.2.1), nilS, nilS, nilS]) rfl rfl rfl T.sz54 rfl rfl rfl) (fun _ => (ulS (ulS (ulC (ulC (ulS ulR)))))) (fun _ _ => ?_)
     refine GH.done (by kernel_rfl) ?_
     refine GC.end0 rfl (fun wN HN => ?_)
     exact HN.frm (xq14, xq3) ⟨hq4.1, hq15.1⟩ (by rfl) (ulC (ulS (ulC (ulS (ulC ulR)))))
    refine GHs.cons rfl (Ex.wp (v := (.pointer (some ⟨kb, 0, none⟩))) (Ex.nilCheck rfl) (by decide)) (fun _ => (ulS (ulC (ulC (ulS (ulS ulR)))))) (fun _ _ => ?_) ?_
    ·refine GH.tk 10 (v := (.pointer (some ⟨kb, 4, none⟩))) rfl (by kernel_rfl) (fun _ _ _ h => h) (Ex.cast (Ex.fieldAddr rfl Try.underlying57 rfl T.sz55 (by decide)) rfl) (ulS (ulC (ulC (ulS (ulS ulR))))) (by decide) ?_
     refine GH.one 8 rfl (by kernel_rfl) (Stp.appendOwn (i := 4) (xs := xs2) (sp := sp2) (vs := [(.int .i64 m)]) (L1 := (⟨bq13, [(.int .i64 m)], 3, true⟩ :: ⟨xq3.1, xs1 ++ [nilS] ++ xq3.2.2, 41, true⟩ :: ⟨bq2, [nilS], 41, true⟩ :: ⟨kb, [(.slice (some ⟨xq3.1, 0, none⟩) (n1 + 1) xq3.2.1), nilS, nilS, nilS, (.slice (some ⟨b2, 0, none⟩) n1 c2), nilS, nilS, nilS], 57, true⟩ :: R)) rfl rfl Try.underlying54 T.sz3 T.zr3 rfl T.by3 rfl (by omega) hc2 (fun wz hz => hz.rdOf (i := 0) rfl 0) rfl rfl (by omega) (by omega) rfl (by decide)) (fun _ => (ulS (ulS (ulC (ulC (ulS ulR)))))) (fun xq16 hq17 => ?_)
     refine GH.tk 11 (v := (.pointer (some ⟨kb, 4, none⟩))) rfl (by kernel_rfl) (fun _ _ _ h => h) (Ex.cast (Ex.indexArr (m := 4) rfl rfl Try.underlying55 T.sz54 (by decide) (by decide)) rfl) (ulS (ulS (ulC (ulC (ulS ulR))))) (by decide) ?_
     refine GH.one 12 rfl (by kernel_rfl) (Stp.st4 (cs' := [(.slice (some ⟨xq3.1, 0, none⟩) (n1 + 1) xq3.2.1), nilS, nilS, nilS, (.slice (some ⟨xq16.1, 0, none⟩) (n1 + 1) xq16.2.1), nilS, nilS, nilS]) rfl rfl rfl T.sz54 rfl rfl rfl) (fun _ => (ulS (ulS (ulC (ulC (ulS ulR)))))) (fun _ _ => ?_)
     refine GH.done (by kernel_rfl) ?_
     refine GC.end0 rfl (fun wN HN => ?_)
     exact HN.frm (xq16, xq3) ⟨hq4.1, hq17.1⟩ (by rfl) (ulC (ulS (ulC (ulS (ulC ulR)))))
    exact GHs.nil
   refine GHs.cons rfl (Ex.wp (v := (.pointer (some ⟨kb, 0, none⟩))) (Ex.nilCheck rfl) (by decide)) (fun _ => (ulS (ulC (ulC (ulS (ulS ulR)))))) (fun _ _ => ?_) ?_
   ·refine GH.tk 10 (v := (.pointer (some ⟨kb, 4, none⟩))) rfl (by kernel_rfl) (fun _ _ _ h => h) (Ex.cast (Ex.fieldAddr rfl Try.underlying57 rfl T.sz55 (by decide)) rfl) (ulS (ulC (ulC (ulS (ulS ulR))))) (by decide) ?_
    refine GH.one 5 rfl (by kernel_rfl) (Ex.wp (v := (.slice (some ⟨b2, 0, none⟩) n1 c2)) (Ex.load rfl T.ag54 (i := 3) rfl rfl) (by decide)) (fun _ => (ulS (ulC (ulC (ulS (ulS ulR)))))) (fun _ _ => ?_)
    refine GH.one 8 rfl (by kernel_rfl) (Stp.appendOwn (i := 4) (xs := xs2) (sp := sp2) (vs := [(.int .i64 m)]) (L1 := (⟨bq13, [(.int .i64 m)], 3, true⟩ :: ⟨xq3.1, xs1 ++ [nilS] ++ xq3.2.2, 41, true⟩ :: ⟨bq2, [nilS], 41, true⟩ :: ⟨kb, [(.slice (some ⟨xq3.1, 0, none⟩) (n1 + 1) xq3.2.1), nilS, nilS, nilS, (.slice (some ⟨b2, 0, none⟩) n1 c2), nilS, nilS, nilS], 57, true⟩ :: R)) rfl rfl Try.underlying54 T.sz3 T.zr3 rfl T.by3 rfl (by omega) hc2 (fun wz hz => hz.rdOf (i := 0) rfl 0) rfl rfl (by omega) (by omega) rfl (by decide)) (fun _ => (ulS (ulS (ulC (ulC (ulS ulR)))))) (fun xq18 hq19 => ?_)
    refine GH.tk 11 (v := (.pointer (some ⟨kb, 4, none⟩))) rfl (by kernel_rfl) (fun _ _ _ h => h) (Ex.cast (Ex.indexArr (m := 4) rfl rfl Try.underlying55 T.sz54 (by decide) (by decide)) rfl) (ulS (ulS (ulC (ulC (ulS ulR))))) (by decide) ?_
    refine GH.one 12 rfl (by kernel_rfl) (Stp.st4 (cs' := [(.slice (some ⟨xq3.1, 0, none⟩) (n1 + 1) xq3.2.1), nilS, nilS, nilS, (.slice (some ⟨xq18.1, 0, none⟩) (n1 + 1) xq18.2.1), nilS, nilS, nilS]) rfl rfl rfl T.sz54 rfl rfl rfl) (fun _ => (ulS (ulS (ulC (ulC (ulS ulR)))))) (fun _ _ => ?_)
    refine GH.done (by kernel_rfl) ?_
    refine GC.end0 rfl (fun wN HN => ?_)
    exact HN.frm (xq18, xq3) ⟨hq4.1, hq19.1⟩ (by rfl) (ulC (ulS (ulC (ulS (ulC ulR)))))
   exact GHs.nil
  refine GHs.cons rfl (Ex.wp (v := (.pointer (some ⟨kb, 0, none⟩))) (Ex.nilCheck rfl) (by decide)) (fun _ => (ulC (ulC (ulS (ulS ulR))))) (fun _ _ => ?_) ?_
  ·refine GH.tk 10 (v := (.pointer (some ⟨kb, 4, none⟩))) rfl (by kernel_rfl) (fun _ _ _ h => h) (Ex.cast (Ex.fieldAddr rfl Try.underlying57 rfl T.sz55 (by decide)) rfl) (ulC (ulC (ulS (ulS ulR)))) (by decide) ?_
   refine GH.many (rs := [5, 7]) (by kernel_rfl) (by simp) ?_
   refine GHs.cons rfl (Ex.wp (v := (.slice (some ⟨b2, 0, none⟩) n1 c2)) (Ex.load rfl T.ag54 (i := 2) rfl rfl) (by decide)) (fun _ => (ulC (ulC (ulS (ulS ulR))))) (fun _ _ => ?_) ?_
   ·refine GH.one 7 rfl (by kernel_rfl) (Stp.buildSlice (cs := [(.int .i64 m)]) (vs := [(0, (.int .i64 m))]) Try.underlying54 T.zr3 T.sz3 rfl (by decide) (by decide) (by first | rfl | kernel_rfl) (by decide)) (fun _ => (ulS (ulC (ulC (ulS (ulS ulR)))))) (fun bq20 _ => ?_)
    refine GH.one 8 rfl (by kernel_rfl) (Stp.appendOwn (i := 4) (xs := xs2) (sp := sp2) (vs := [(.int .i64 m)]) (L1 := (⟨bq20, [(.int .i64 m)], 3, true⟩ :: ⟨xq3.1, xs1 ++ [nilS] ++ xq3.2.2, 41, true⟩ :: ⟨bq2, [nilS], 41, true⟩ :: ⟨kb, [(.slice (some ⟨xq3.1, 0, none⟩) (n1 + 1) xq3.2.1), nilS, nilS, nilS, (.slice (some ⟨b2, 0, none⟩) n1 c2), nilS, nilS, nilS], 57, true⟩ :: R)) rfl rfl Try.underlying54 T.sz3 T.zr3 rfl T.by3 rfl (by omega) hc2 (fun wz hz => hz.rdOf (i := 0) rfl 0) rfl rfl (by omega) (by omega) rfl (by decide)) (fun _ => (ulS (ulS (ulC (ulC (ulS ulR)))))) (fun xq21 hq22 => ?_)
    refine GH.tk 11 (v := (.pointer (some ⟨kb, 4, none⟩))) rfl (by kernel_rfl) (fun _ _ _ h => h) (Ex.cast (Ex.indexArr (m := 4) rfl rfl Try.underlying55 T.sz54 (by decide) (by decide)) rfl) (ulS (ulS (ulC (ulC (ulS ulR))))) (by decide) ?_
    refine GH.one 12 rfl (by kernel_rfl) (Stp.st4 (cs' := [(.slice (some ⟨xq3.1, 0, none⟩) (n1 + 1) xq3.2.1), nilS, nilS, nilS, (.slice (some ⟨xq21.1, 0, none⟩) (n1 + 1) xq21.2.1), nilS, nilS, nilS]) rfl rfl rfl T.sz54 rfl rfl rfl) (fun _ => (ulS (ulS (ulC (ulC (ulS ulR)))))) (fun _ _ => ?_)
    refine GH.done (by kernel_rfl) ?_
    refine GC.end0 rfl (fun wN HN => ?_)
    exact HN.frm (xq21, xq3) ⟨hq4.1, hq22.1⟩ (by rfl) (ulC (ulS (ulC (ulS (ulC ulR)))))
   refine GHs.cons rfl (Stp.buildSlice (cs := [(.int .i64 m)]) (vs := [(0, (.int .i64 m))]) Try.underlying54 T.zr3 T.sz3 rfl (by decide) (by decide) (by first | rfl | kernel_rfl) (by decide)) (fun _ => (ulS (ulC (ulC (ulS (ulS ulR)))))) (fun bq23 _ => ?_) ?_
   ·refine GH.one 5 rfl (by kernel_rfl) (Ex.wp (v := (.slice (some ⟨b2, 0, none⟩) n1 c2)) (Ex.load rfl T.ag54 (i := 3) rfl rfl) (by decide)) (fun _ => (ulS (ulC (ulC (ulS (ulS ulR)))))) (fun _ _ => ?_)
    refine GH.one 8 rfl (by kernel_rfl) (Stp.appendOwn (i := 4) (xs := xs2) (sp := sp2) (vs := [(.int .i64 m)]) (L1 := (⟨bq23, [(.int .i64 m)], 3, true⟩ :: ⟨xq3.1, xs1 ++ [nilS] ++ xq3.2.2, 41, true⟩ :: ⟨bq2, [nilS], 41, true⟩ :: ⟨kb, [(.slice (some ⟨xq3.1, 0, none⟩) (n1 + 1) xq3.2.1), nilS, nilS, nilS, (.slice (some ⟨b2, 0, none⟩) n1 c2), nilS, nilS, nilS], 57, true⟩ :: R)) rfl rfl Try.underlying54 T.sz3 T.zr3 rfl T.by3 rfl (by omega) hc2 (fun wz hz => hz.rdOf (i := 0) rfl 0) rfl rfl (by omega) (by omega) rfl (by decide)) (fun _ => (ulS (ulS (ulC (ulC (ulS ulR)))))) (fun xq24 hq25 => ?_)
    refine GH.tk 11 (v := (.pointer (some ⟨kb, 4, none⟩))) rfl (by kernel_rfl) (fun _ _ _ h => h) (Ex.cast (Ex.indexArr (m := 4) rfl rfl Try.underlying55 T.sz54 (by decide) (by decide)) rfl) (ulS (ulS (ulC (ulC (ulS ulR))))) (by decide) ?_
    refine GH.one 12 rfl (by kernel_rfl) (Stp.st4 (cs' := [(.slice (some ⟨xq3.1, 0, none⟩) (n1 + 1) xq3.2.1), nilS, nilS, nilS, (.slice (some ⟨xq24.1, 0, none⟩) (n1 + 1) xq24.2.1), nilS, nilS, nilS]) rfl rfl rfl T.sz54 rfl rfl rfl) (fun _ => (ulS (ulS (ulC (ulC (ulS ulR)))))) (fun _ _ => ?_)
    refine GH.done (by kernel_rfl) ?_
    refine GC.end0 rfl (fun wN HN => ?_)
    exact HN.frm (xq24, xq3) ⟨hq4.1, hq25.1⟩ (by rfl) (ulC (ulS (ulC (ulS (ulC ulR)))))
   exact GHs.nil
  exact GHs.nil
 refine GHs.cons rfl (Stp.buildSlice (cs := [(.int .i64 m)]) (vs := [(0, (.int .i64 m))]) Try.underlying54 T.zr3 T.sz3 rfl (by decide) (by decide) (by first | rfl | kernel_rfl) (by decide)) (fun _ => (ulS (ulC (ulC (ulS (ulS ulR)))))) (fun bq26 _ => ?_) ?_
 ·refine GH.many (rs := [2, 9]) (by kernel_rfl) (by simp) ?_
  refine GHs.cons rfl (Ex.wp (v := (.pointer (some ⟨kb, 0, none⟩))) (Ex.nilCheck rfl) (by decide)) (fun _ => (ulS (ulC (ulC (ulS (ulS ulR)))))) (fun _ _ => ?_) ?_
  ·refine GH.tk 3 (v := (.pointer (some ⟨kb, 4, none⟩))) rfl (by kernel_rfl) (fun _ _ _ h => h) (Ex.cast (Ex.fieldAddr rfl Try.underlying57 rfl T.sz55 (by decide)) rfl) (ulS (ulC (ulC (ulS (ulS ulR))))) (by decide) ?_
   refine GH.tk 4 (v := (.pointer (some ⟨kb, 4, none⟩))) rfl (by kernel_rfl) (fun _ _ _ h => h) (Ex.cast (Ex.indexArr (m := 4) rfl rfl Try.underlying55 T.sz54 (by decide) (by decide)) rfl) (ulS (ulC (ulC (ulS (ulS ulR))))) (by decide) ?_
   refine GH.many (rs := [5, 9]) (by kernel_rfl) (by simp) ?_
   refine GHs.cons rfl (Ex.wp (v := (.slice (some ⟨b2, 0, none⟩) n1 c2)) (Ex.load rfl T.ag54 (i := 3) rfl rfl) (by decide)) (fun _ => (ulS (ulC (ulC (ulS (ulS ulR)))))) (fun _ _ => ?_) ?_
   ·refine GH.many (rs := [8, 9]) (by kernel_rfl) (by simp) ?_
    refine GHs.cons rfl (Stp.appendOwn (i := 4) (xs := xs2) (sp := sp2) (vs := [(.int .i64 m)]) (L1 := (⟨bq26, [(.int .i64 m)], 3, true⟩ :: ⟨xq3.1, xs1 ++ [nilS] ++ xq3.2.2, 41, true⟩ :: ⟨bq2, [nilS], 41, true⟩ :: ⟨kb, [(.slice (some ⟨xq3.1, 0, none⟩) (n1 + 1) xq3.2.1), nilS, nilS, nilS, (.slice (some ⟨b2, 0, none⟩) n1 c2), nilS, nilS, nilS], 57, true⟩ :: R)) rfl rfl Try.underlying54 T.sz3 T.zr3 rfl T.by3 rfl (by omega) hc2 (fun wz hz => hz.rdOf (i := 0) rfl 0) rfl rfl (by omega) (by omega) rfl (by decide)) (fun _ => (ulS (ulS (ulC (ulC (ulS ulR)))))) (fun xq27 hq28 => ?_) ?_
    ·refine GH.one 9 rfl (by kernel_rfl) (Ex.wp (v := (.pointer (some ⟨kb, 0, none⟩))) (Ex.nilCheck rfl) (by decide)) (fun _ => (ulS (ulS (ulC (ulC (ulS ulR)))))) (fun _ _ => ?_)
     refine GH.tk 10 (v := (.pointer (some ⟨kb, 4, none⟩))) rfl (by kernel_rfl) (fun _ _ _ h => h) (Ex.cast (Ex.fieldAddr rfl Try.underlying57 rfl T.sz55 (by decide)) rfl) (ulS (ulS (ulC (ulC (ulS ulR))))) (by decide) ?_
     refine GH.tk 11 (v := (.pointer (some ⟨kb, 4, none⟩))) rfl (by kernel_rfl) (fun _ _ _ h => h) (Ex.cast (Ex.indexArr (m := 4) rfl rfl Try.underlying55 T.sz54 (by decide) (by decide)) rfl) (ulS (ulS (ulC (ulC (ulS ulR))))) (by decide) ?_
     refine GH.one 12 rfl (by kernel_rfl) (Stp.st4 (cs' := [(.slice (some ⟨xq3.1, 0, none⟩) (n1 + 1) xq3.2.1), nilS, nilS, nilS, (.slice (some ⟨xq27.1, 0, none⟩) (n1 + 1) xq27.2.1), nilS, nilS, nilS]) rfl rfl rfl T.sz54 rfl rfl rfl) (fun _ => (ulS (ulS (ulC (ulC (ulS ulR)))))) (fun _ _ => ?_)
     refine GH.done (by kernel_rfl) ?_
     refine GC.end0 rfl (fun wN HN => ?_)
     exact HN.frm (xq27, xq3) ⟨hq4.1, hq28.1⟩ (by rfl) (ulC (ulS (ulC (ulS (ulC ulR)))))
    refine GHs.cons rfl (Ex.wp (v := (.pointer (some ⟨kb, 0, none⟩))) (Ex.nilCheck rfl) (by decide)) (fun _ => (ulS (ulC (ulC (ulS (ulS ulR)))))) (fun _ _ => ?_) ?_
    ·refine GH.tk 10 (v := (.pointer (some ⟨kb, 4, none⟩))) rfl (by kernel_rfl) (fun _ _ _ h => h) (Ex.cast (Ex.fieldAddr rfl Try.underlying57 rfl T.sz55 (by decide)) rfl) (ulS (ulC (ulC (ulS (ulS ulR))))) (by decide) ?_
     refine GH.one 8 rfl (by kernel_rfl) (Stp.appendOwn (i := 4) (xs := xs2) (sp := sp2) (vs := [(.int .i64 m)]) (L1 := (⟨bq26, [(.int .i64 m)], 3, true⟩ :: ⟨xq3.1, xs1 ++ [nilS] ++ xq3.2.2, 41, true⟩ :: ⟨bq2, [nilS], 41, true⟩ :: ⟨kb, [(.slice (some ⟨xq3.1, 0, none⟩) (n1 + 1) xq3.2.1), nilS, nilS, nilS, (.slice (some ⟨b2, 0, none⟩) n1 c2), nilS, nilS, nilS], 57, true⟩ :: R)) rfl rfl Try.underlying54 T.sz3 T.zr3 rfl T.by3 rfl (by omega) hc2 (fun wz hz => hz.rdOf (i := 0) rfl 0) rfl rfl (by omega) (by omega) rfl (by decide)) (fun _ => (ulS (ulS (ulC (ulC (ulS ulR)))))) (fun xq29 hq30 => ?_)
     refine GH.tk 11 (v := (.pointer (some ⟨kb, 4, none⟩))) rfl (by kernel_rfl) (fun _ _ _ h => h) (Ex.cast (Ex.indexArr (m := 4) rfl rfl Try.underlying55 T.sz54 (by decide) (by decide)) rfl) (ulS (ulS (ulC (ulC (ulS ulR))))) (by decide) ?_
     refine GH.one 12 rfl (by kernel_rfl) (Stp.st4 (cs' := [(.slice (some ⟨xq3.1, 0, none⟩) (n1 + 1) xq3.2.1), nilS, nilS, nilS, (.slice (some ⟨xq29.1, 0, none⟩) (n1 + 1) xq29.2.1), nilS, nilS, nilS]) rfl rfl rfl T.sz54 rfl rfl rfl) (fun _ => (ulS (ulS (ulC (ulC (ulS ulR)))))) (fun _ _ => ?_)
     refine GH.done (by kernel_rfl) ?_
     refine GC.end0 rfl (fun wN HN => ?_)
     exact HN.frm (xq29, xq3) ⟨hq4.1, hq30.1⟩ (by rfl) (ulC (ulS (ulC (ulS (ulC ulR)))))
    exact GHs.nil
   refine GHs.cons rfl (Ex.wp (v := (.pointer (some ⟨kb, 0, none⟩))) (Ex.nilCheck rfl) (by decide)) (fun _ => (ulS (ulC (ulC (ulS (ulS ulR)))))) (fun _ _ => ?_) ?_
   ·refine GH.tk 10 (v := (.pointer (some ⟨kb, 4, none⟩))) rfl (by kernel_rfl) (fun _ _ _ h => h) (Ex.cast (Ex.fieldAddr rfl Try.underlying57 rfl T.sz55 (by decide)) rfl) (ulS (ulC (ulC (ulS (ulS ulR))))) (by decide) ?_
    refine GH.one 5 rfl (by kernel_rfl) (Ex.wp (v := (.slice (some ⟨b2, 0, none⟩) n1 c2)) (Ex.load rfl T.ag54 (i := 3) rfl rfl) (by decide)) (fun _ => (ulS (ulC (ulC (ulS (ulS ulR)))))) (fun _ _ => ?_)
    refine GH.one 8 rfl (by kernel_rfl) (Stp.appendOwn (i := 4) (xs := xs2) (sp := sp2) (vs := [(.int .i64 m)]) (L1 := (⟨bq26, [(.int .i64 m)], 3, true⟩ :: ⟨xq3.1, xs1 ++ [nilS] ++ xq3.2.2, 41, true⟩ :: ⟨bq2, [nilS], 41, true⟩ :: ⟨kb, [(.slice (some ⟨xq3.1, 0, none⟩) (n1 + 1) xq3.2.1), nilS, nilS, nilS, (.slice (some ⟨b2, 0, none⟩) n1 c2), nilS, nilS, nilS], 57, true⟩ :: R)) rfl rfl Try.underlying54 T.sz3 T.zr3 rfl T.by3 rfl (by omega) hc2 (fun wz hz => hz.rdOf (i := 0) rfl 0) rfl rfl (by omega) (by omega) rfl (by decide)) (fun _ => (ulS (ulS (ulC (ulC (ulS ulR)))))) (fun xq31 hq32 => ?_)
    refine GH.tk 11 (v := (.pointer (some ⟨kb, 4, none⟩))) rfl (by kernel_rfl) (fun _ _ _ h => h) (Ex.cast (Ex.indexArr (m := 4) rfl rfl Try.underlying55 T.sz54 (by decide) (by decide)) rfl) (ulS (ulS (ulC (ulC (ulS ulR))))) (by decide) ?_
    refine GH.one 12 rfl (by kernel_rfl) (Stp.st4 (cs' := [(.slice (some ⟨xq3.1, 0, none⟩) (n1 + 1) xq3.2.1), nilS, nilS, nilS, (.slice (some ⟨xq31.1, 0, none⟩) (n1 + 1) xq31.2.1), nilS, nilS, nilS]) rfl rfl rfl T.sz54 rfl rfl rfl) (fun _ => (ulS (ulS (ulC (ulC (ulS ulR)))))) (fun _ _ => ?_)
    refine GH.done (by kernel_rfl) ?_
    refine GC.end0 rfl (fun wN HN => ?_)
    exact HN.frm (xq31, xq3) ⟨hq4.1, hq32.1⟩ (by rfl) (ulC (ulS (ulC (ulS (ulC ulR)))))
   exact GHs.nil
  refine GHs.cons rfl (Ex.wp (v := (.pointer (some ⟨kb, 0, none⟩))) (Ex.nilCheck rfl) (by decide)) (fun _ => (ulS (ulC (ulC (ulS (ulS ulR)))))) (fun _ _ => ?_) ?_
  ·refine GH.tk 10 (v := (.pointer (some ⟨kb, 4, none⟩))) rfl (by kernel_rfl) (fun _ _ _ h => h) (Ex.cast (Ex.fieldAddr rfl Try.underlying57 rfl T.sz55 (by decide)) rfl) (ulS (ulC (ulC (ulS (ulS ulR))))) (by decide) ?_
   refine GH.one 2 rfl (by kernel_rfl) (Ex.wp (v := (.pointer (some ⟨kb, 0, none⟩))) (Ex.nilCheck rfl) (by decide)) (fun _ => (ulS (ulC (ulC (ulS (ulS ulR)))))) (fun _ _ => ?_)
   refine GH.tk 3 (v := (.pointer (some ⟨kb, 4, none⟩))) rfl (by kernel_rfl) (fun _ _ _ h => h) (Ex.cast (Ex.fieldAddr rfl Try.underlying57 rfl T.sz55 (by decide)) rfl) (ulS (ulC (ulC (ulS (ulS ulR))))) (by decide) ?_
   refine GH.tk 4 (v := (.pointer (some ⟨kb, 4, none⟩))) rfl (by kernel_rfl) (fun _ _ _ h => h) (Ex.cast (Ex.indexArr (m := 4) rfl rfl Try.underlying55 T.sz54 (by decide) (by decide)) rfl) (ulS (ulC (ulC (ulS (ulS ulR))))) (by decide) ?_
   refine GH.one 5 rfl (by kernel_rfl) (Ex.wp (v := (.slice (some ⟨b2, 0, none⟩) n1 c2)) (Ex.load rfl T.ag54 (i := 3) rfl rfl) (by decide)) (fun _ => (ulS (ulC (ulC (ulS (ulS ulR)))))) (fun _ _ => ?_)
   refine GH.one 8 rfl (by kernel_rfl) (Stp.appendOwn (i := 4) (xs := xs2) (sp := sp2) (vs := [(.int .i64 m)]) (L1 := (⟨bq26, [(.int .i64 m)], 3, true⟩ :: ⟨xq3.1, xs1 ++ [nilS] ++ xq3.2.2, 41, true⟩ :: ⟨bq2, [nilS], 41, true⟩ :: ⟨kb, [(.slice (some ⟨xq3.1, 0, none⟩) (n1 + 1) xq3.2.1), nilS, nilS, nilS, (.slice (some ⟨b2, 0, none⟩) n1 c2), nilS, nilS, nilS], 57, true⟩ :: R)) rfl rfl Try.underlying54 T.sz3 T.zr3 rfl T.by3 rfl (by omega) hc2 (fun wz hz => hz.rdOf (i := 0) rfl 0) rfl rfl (by omega) (by omega) rfl (by decide)) (fun _ => (ulS (ulS (ulC (ulC (ulS ulR)))))) (fun xq33 hq34 => ?_)
   refine GH.tk 11 (v := (.pointer (some ⟨kb, 4, none⟩))) rfl (by kernel_rfl) (fun _ _ _ h => h) (Ex.cast (Ex.indexArr (m := 4) rfl rfl Try.underlying55 T.sz54 (by decide) (by decide)) rfl) (ulS (ulS (ulC (ulC (ulS ulR))))) (by decide) ?_
   refine GH.one 12 rfl (by kernel_rfl) (Stp.st4 (cs' := [(.slice (some ⟨xq3.1, 0, none⟩) (n1 + 1) xq3.2.1), nilS, nilS, nilS, (.slice (some ⟨xq33.1, 0, none⟩) (n1 + 1) xq33.2.1), nilS, nilS, nilS]) rfl rfl rfl T.sz54 rfl rfl rfl) (fun _ => (ulS (ulS (ulC (ulC (ulS ulR)))))) (fun _ _ => ?_)
   refine GH.done (by kernel_rfl) ?_
   refine GC.end0 rfl (fun wN HN => ?_)
   exact HN.frm (xq33, xq3) ⟨hq4.1, hq34.1⟩ (by rfl) (ulC (ulS (ulC (ulS (ulC ulR)))))
  exact GHs.nil
 refine GHs.cons rfl (Ex.wp (v := (.pointer (some ⟨kb, 0, none⟩))) (Ex.nilCheck rfl) (by decide)) (fun _ => (ulC (ulC (ulS (ulS ulR))))) (fun _ _ => ?_) ?_
 ·refine GH.tk 10 (v := (.pointer (some ⟨kb, 4, none⟩))) rfl (by kernel_rfl) (fun _ _ _ h => h) (Ex.cast (Ex.fieldAddr rfl Try.underlying57 rfl T.sz55 (by decide)) rfl) (ulC (ulC (ulS (ulS ulR)))) (by decide) ?_
  refine GH.many (rs := [2, 7]) (by kernel_rfl) (by simp) ?_
  refine GHs.cons rfl (Ex.wp (v := (.pointer (some ⟨kb, 0, none⟩))) (Ex.nilCheck rfl) (by decide)) (fun _ => (ulC (ulC (ulS (ulS ulR))))) (fun _ _ => ?_) ?_
  ·refine GH.tk 3 (v := (.pointer (some ⟨kb, 4, none⟩))) rfl (by kernel_rfl) (fun _ _ _ h => h) (Ex.cast (Ex.fieldAddr rfl Try.underlying57 rfl T.sz55 (by decide)) rfl) (ulC (ulC (ulS (ulS ulR)))) (by decide) ?_
   refine GH.tk 4 (v := (.pointer (some ⟨kb, 4, none⟩))) rfl (by kernel_rfl) (fun _ _ _ h => h) (Ex.cast (Ex.indexArr (m := 4) rfl rfl Try.underlying55 T.sz54 (by decide) (by decide)) rfl) (ulC (ulC (ulS (ulS ulR)))) (by decide) ?_
   refine GH.many (rs := [5, 7]) (by kernel_rfl) (by simp) ?_
   refine GHs.cons rfl (Ex.wp (v := (.slice (some ⟨b2, 0, none⟩) n1 c2)) (Ex.load rfl T.ag54 (i := 2) rfl rfl) (by decide)) (fun _ => (ulC (ulC (ulS (ulS ulR))))) (fun _ _ => ?_) ?_
   ·refine GH.one 7 rfl (by kernel_rfl) (Stp.buildSlice (cs := [(.int .i64 m)]) (vs := [(0, (.int .i64 m))]) Try.underlying54 T.zr3 T.sz3 rfl (by decide) (by decide) (by first | rfl | kernel_rfl) (by decide)) (fun _ => (ulS (ulC (ulC (ulS (ulS ulR)))))) (fun bq35 _ => ?_)
    refine GH.one 8 rfl (by kernel_rfl) (Stp.appendOwn (i := 4) (xs := xs2) (sp := sp2) (vs := [(.int .i64 m)]) (L1 := (⟨bq35, [(.int .i64 m)], 3, true⟩ :: ⟨xq3.1, xs1 ++ [nilS] ++ xq3.2.2, 41, true⟩ :: ⟨bq2, [nilS], 41, true⟩ :: ⟨kb, [(.slice (some ⟨xq3.1, 0, none⟩) (n1 + 1) xq3.2.1), nilS, nilS, nilS, (.slice (some ⟨b2, 0, none⟩) n1 c2), nilS, nilS, nilS], 57, true⟩ :: R)) rfl rfl Try.underlying54 T.sz3 T.zr3 rfl T.by3 rfl (by omega) hc2 (fun wz hz => hz.rdOf (i := 0) rfl 0) rfl rfl (by omega) (by omega) rfl (by decide)) (fun _ => (ulS (ulS (ulC (ulC (ulS ulR)))))) (fun xq36 hq37 => ?_)
    refine GH.tk 11 (v := (.pointer (some ⟨kb, 4, none⟩))) rfl (by kernel_rfl) (fun _ _ _ h => h) (Ex.cast (Ex.indexArr (m := 4) rfl rfl Try.underlying55 T.sz54 (by decide) (by decide)) rfl) (ulS (ulS (ulC (ulC (ulS ulR))))) (by decide) ?_
    refine GH.one 12 rfl (by kernel_rfl) (Stp.st4 (cs' := [(.slice (some ⟨xq3.1, 0, none⟩) (n1 + 1) xq3.2.1), nilS, nilS, nilS, (.slice (some ⟨xq36.1, 0, none⟩) (n1 + 1) xq36.2.1), nilS, nilS, nilS]) rfl rfl rfl T.sz54 rfl rfl rfl) (fun _ => (ulS (ulS (ulC (ulC (ulS ulR)))))) (fun _ _ => ?_)
    refine GH.done (by kernel_rfl) ?_
    refine GC.end0 rfl (fun wN HN => ?_)
    exact HN.frm (xq36, xq3) ⟨hq4.1, hq37.1⟩ (by rfl) (ulC (ulS (ulC (ulS (ulC ulR)))))
   refine GHs.cons rfl (Stp.buildSlice (cs := [(.int .i64 m)]) (vs := [(0, (.int .i64 m))]) Try.underlying54 T.zr3 T.sz3 rfl (by decide) (by decide) (by first | rfl | kernel_rfl) (by decide)) (fun _ => (ulS (ulC (ulC (ulS (ulS ulR)))))) (fun bq38 _ => ?_) ?_
   ·refine GH.one 5 rfl (by kernel_rfl) (Ex.wp (v := (.slice (some ⟨b2, 0, none⟩) n1 c2)) (Ex.load rfl T.ag54 (i := 3) rfl rfl) (by decide)) (fun _ => (ulS (ulC (ulC (ulS (ulS ulR)))))) (fun _ _ => ?_)
    refine GH.one 8 rfl (by kernel_rfl) (Stp.appendOwn (i := 4) (xs := xs2) (sp := sp2) (vs := [(.int .i64 m)]) (L1 := (⟨bq38, [(.int .i64 m)], 3, true⟩ :: ⟨xq3.1, xs1 ++ [nilS] ++ xq3.2.2, 41, true⟩ :: ⟨bq2, [nilS], 41, true⟩ :: ⟨kb, [(.slice (some ⟨xq3.1, 0, none⟩) (n1 + 1) xq3.2.1), nilS, nilS, nilS, (.slice (some ⟨b2, 0, none⟩) n1 c2), nilS, nilS, nilS], 57, true⟩ :: R)) rfl rfl Try.underlying54 T.sz3 T.zr3 rfl T.by3 rfl (by omega) hc2 (fun wz hz => hz.rdOf (i := 0) rfl 0) rfl rfl (by omega) (by omega) rfl (by decide)) (fun _ => (ulS (ulS (ulC (ulC (ulS ulR)))))) (fun xq39 hq40 => ?_)
    refine GH.tk 11 (v := (.pointer (some ⟨kb, 4, none⟩))) rfl (by kernel_rfl) (fun _ _ _ h => h) (Ex.cast (Ex.indexArr (m := 4) rfl rfl Try.underlying55 T.sz54 (by decide) (by decide)) rfl) (ulS (ulS (ulC (ulC (ulS ulR))))) (by decide) ?_
    refine GH.one 12 rfl (by kernel_rfl) (Stp.st4 (cs' := [(.slice (some ⟨xq3.1, 0, none⟩) (n1 + 1) xq3.2.1), nilS, nilS, nilS, (.slice (some ⟨xq39.1, 0, none⟩) (n1 + 1) xq39.2.1), nilS, nilS, nilS]) rfl rfl rfl T.sz54 rfl rfl rfl) (fun _ => (ulS (ulS (ulC (ulC (ulS ulR)))))) (fun _ _ => ?_)
    refine GH.done (by kernel_rfl) ?_
    refine GC.end0 rfl (fun wN HN => ?_)
    exact HN.frm (xq39, xq3) ⟨hq4.1, hq40.1⟩ (by rfl) (ulC (ulS (ulC (ulS (ulC ulR)))))
   exact GHs.nil
  refine GHs.cons rfl (Stp.buildSlice (cs := [(.int .i64 m)]) (vs := [(0, (.int .i64 m))]) Try.underlying54 T.zr3 T.sz3 rfl (by decide) (by decide) (by first | rfl | kernel_rfl) (by decide)) (fun _ => (ulS (ulC (ulC (ulS (ulS ulR)))))) (fun bq41 _ => ?_) ?_
  ·refine GH.one 2 rfl (by kernel_rfl) (Ex.wp (v := (.pointer (some ⟨kb, 0, none⟩))) (Ex.nilCheck rfl) (by decide)) (fun _ => (ulS (ulC (ulC (ulS (ulS ulR)))))) (fun _ _ => ?_)
   refine GH.tk 3 (v := (.pointer (some ⟨kb, 4, none⟩))) rfl (by kernel_rfl) (fun _ _ _ h => h) (Ex.cast (Ex.fieldAddr rfl Try.underlying57 rfl T.sz55 (by decide)) rfl) (ulS (ulC (ulC (ulS (ulS ulR))))) (by decide) ?_
   refine GH.tk 4 (v := (.pointer (some ⟨kb, 4, none⟩))) rfl (by kernel_rfl) (fun _ _ _ h => h) (Ex.cast (Ex.indexArr (m := 4) rfl rfl Try.underlying55 T.sz54 (by decide) (by decide)) rfl) (ulS (ulC (ulC (ulS (ulS ulR))))) (by decide) ?_
   refine GH.one 5 rfl (by kernel_rfl) (Ex.wp (v := (.slice (some ⟨b2, 0, none⟩) n1 c2)) (Ex.load rfl T.ag54 (i := 3) rfl rfl) (by decide)) (fun _ => (ulS (ulC (ulC (ulS (ulS ulR)))))) (fun _ _ => ?_)
   refine GH.one 8 rfl (by kernel_rfl) (Stp.appendOwn (i := 4) (xs := xs2) (sp := sp2) (vs := [(.int .i64 m)]) (L1 := (⟨bq41, [(.int .i64 m)], 3, true⟩ :: ⟨xq3.1, xs1 ++ [nilS] ++ xq3.2.2, 41, true⟩ :: ⟨bq2, [nilS], 41, true⟩ :: ⟨kb, [(.slice (some ⟨xq3.1, 0, none⟩) (n1 + 1) xq3.2.1), nilS, nilS, nilS, (.slice (some ⟨b2, 0, none⟩) n1 c2), nilS, nilS, nilS], 57, true⟩ :: R)) rfl rfl Try.underlying54 T.sz3 T.zr3 rfl T.by3 rfl (by omega) hc2 (fun wz hz => hz.rdOf (i := 0) rfl 0) rfl rfl (by omega) (by omega) rfl (by decide)) (fun _ => (ulS (ulS (ulC (ulC (ulS ulR)))))) (fun xq42 hq43 => ?_)
   refine GH.tk 11 (v := (.pointer (some ⟨kb, 4, none⟩))) rfl (by kernel_rfl) (fun _ _ _ h => h) (Ex.cast (Ex.indexArr (m := 4) rfl rfl Try.underlying55 T.sz54 (by decide) (by decide)) rfl) (ulS (ulS (ulC (ulC (ulS ulR))))) (by decide) ?_
   refine GH.one 12 rfl (by kernel_rfl) (Stp.st4 (cs' := [(.slice (some ⟨xq3.1, 0, none⟩) (n1 + 1) xq3.2.1), nilS, nilS, nilS, (.slice (some ⟨xq42.1, 0, none⟩) (n1 + 1) xq42.2.1), nilS, nilS, nilS]) rfl rfl rfl T.sz54 rfl rfl rfl) (fun _ => (ulS (ulS (ulC (ulC (ulS ulR)))))) (fun _ _ => ?_)
   refine GH.done (by kernel_rfl) ?_
   refine GC.end0 rfl (fun wN HN => ?_)
   exact HN.frm (xq42, xq3) ⟨hq4.1, hq43.1⟩ (by rfl) (ulC (ulS (ulC (ulS (ulC ulR)))))
  exact GHs.nil
 exact GHs.nil

theorem book_p10 (w0 : World) (R : List Blk) (W H : Int) (kb : Nat) (m : Int) (n1 b1 c1 b2 c2 : Nat) (xs1 sp1 xs2 sp2 : List Value) (w : World)  (hn1 : n1 ≤ 4000000000000) (hx1 : xs1.length = n1) (hx2 : xs2.length = n1) (hc1 : (xs1 ++ sp1).length = c1 * 1) (hc2 : (xs2 ++ sp2).length = c2 * 1) (hp0 : Hp None w0 (⟨kb, [(.slice (some ⟨b1, 0, none⟩) n1 c1), (.slice none 0 0), (.slice none 0 0), (.slice none 0 0), (.slice (some ⟨b2, 0, none⟩) n1 c2), (.slice none 0 0), (.slice none 0 0), (.slice none 0 0)], 57, true⟩ :: ⟨b1, xs1 ++ sp1, 41, true⟩ :: ⟨b2, xs2 ++ sp2, 3, true⟩ :: R) w) :
  Calls Try.prog 28 #[(.pointer (some ⟨kb, 0, none⟩)), (.agg #[(.int .i64 W), (.int .i64 H), (.slice none 0 0)]), (.int .i64 m)] w (Frm (σ := (Nat × Nat × List Value) × (Nat × Nat × List Value)) None w0 (fun x => (xs1 ++ [(Value.slice none 0 0)] ++ x.2.2.2 : List Value).length = x.2.2.1 * 1 ∧ (xs2 ++ [(Value.int .i64 m)] ++ x.1.2.2 : List Value).length = x.1.2.1 * 1) (fun x => .tuple #[]) (fun x => (⟨x.1.1, xs2 ++ [(Value.int .i64 m)] ++ x.1.2.2, 3, true⟩ :: ⟨x.2.1, xs1 ++ [(Value.slice none 0 0)] ++ x.2.2.2, 41, true⟩ :: ⟨kb, [(.slice (some ⟨x.2.1, 0, none⟩) (n1 + 1) x.2.2.1), (.slice none 0 0), (.slice none 0 0), (.slice none 0 0), (.slice (some ⟨x.1.1, 0, none⟩) (n1 + 1) x.1.2.1), (.slice none 0 0), (.slice none 0 0), (.slice none 0 0)], 57, true⟩ :: R))) := by
 refine enterF (w0 := w0) (M := None) (L := (⟨kb, [(.slice (some ⟨b1, 0, none⟩) n1 c1), nilS, nilS, nilS, (.slice (some ⟨b2, 0, none⟩) n1 c2), nilS, nilS, nilS], 57, true⟩ :: ⟨b1, xs1 ++ sp1, 41, true⟩ :: ⟨b2, xs2 ++ sp2, 3, true⟩ :: R)) (n := 11) (l := [(0, (.pointer (some ⟨kb, 0, none⟩))), (1, (.agg #[(.int .i64 W), (.int .i64 H), nilS])), (2, (.int .i64 m))]) Try.func28 rfl rfl (Args.cons rfl (Args.cons rfl (Args.cons rfl (Args.nil _)))) hp0 ?_
 refine GC.seq (GC.region ?_)
 refine GL.step (Stp.box (cs := [(.int .i64 W), (.int .i64 H), nilS]) rfl rfl (by decide)) (fun bq1 _ => ?_)
 refine GL.nil (GE.thenN (GC.region ?_))
 refine GL.mv rfl (by decide) ?_
 refine GL.val (v := (.pointer (some ⟨bq1, 2, none⟩))) (Ex.cast (Ex.fieldAddr rfl Try.underlying43 rfl T.sz41 (by decide)) rfl) (by decide) ?_
 refine GL.val (Ex.load rfl T.ag41 (i := 0) rfl rfl) (by decide) ?_
 refine GL.mv rfl (by decide) ?_
 refine GL.step (Stp.call (vs := [(.pointer (some ⟨kb, 0, none⟩)), nilS, (.int .i64 m)]) rfl rfl T.own66 (by decide) (fun wc hw => book_s10 w0 _ kb m n1 b1 c1 b2 c2 xs1 sp1 xs2 sp2 wc (by first | decide | omega) (by first | rfl | omega) (by first | rfl | omega) hc1 hc2 (Hp.pickT (A := [⟨bq1, [(.int .i64 W), (.int .i64 H), nilS], 43, true⟩, ⟨kb, [(.slice (some ⟨b1, 0, none⟩) n1 c1), nilS, nilS, nilS, (.slice (some ⟨b2, 0, none⟩) n1 c2), nilS, nilS, nilS], 57, true⟩, ⟨b1, xs1 ++ sp1, 41, true⟩, ⟨b2, xs2 ++ sp2, 3, true⟩]) (R := R) hw (idx := [1, 2, 3, 0]) (by decide) rfl))) (fun xq2 hq3 => ?_)
 refine GL.nil ?_
 refine GC.end0 rfl (fun wN HN => ?_)
 exact HN.frm xq2 hq3 (by rfl) (ulC (ulC (ulC (ulS ulR))))

theorem book_s11 (w0 : World) (R : List Blk) (kb : Nat) (m : Int) (b n cap : Nat) (cs : List Value) (n1 b1 c1 b2 c2 : Nat) (xs1 sp1 xs2 sp2 : List Value) (w : World) (hcap : cs.length = cap) (hb : cap ≤ 9223372036854775807) (hn1 : n1 ≤ 4000000000000) (hx1 : xs1.length = n1) (hx2 : xs2.length = n1) (hc1 : (xs1 ++ sp1).length = c1 * 1) (hc2 : (xs2 ++ sp2).length = c2 * 1) (hp0 : Hp None w0 (⟨kb, [(.slice (some ⟨b1, 0, none⟩) n1 c1), (.slice none 0 0), (.slice none 0 0), (.slice none 0 0), (.slice (some ⟨b2, 0, none⟩) n1 c2), (.slice none 0 0), (.slice none 0 0), (.slice none 0 0)], 57, true⟩ :: ⟨b1, xs1 ++ sp1, 41, true⟩ :: ⟨b2, xs2 ++ sp2, 3, true⟩ :: ⟨b, cs, 28, true⟩ :: R) w) :
  Calls Try.prog 66 #[(.pointer (some ⟨kb, 0, none⟩)), (.slice (some ⟨b, 0, none⟩) n cap), (.int .i64 m)] w (Frm (σ := (Nat × Nat × List Value) × (Nat × Nat × List Value)) None w0 (fun x => (xs1 ++ [(Value.slice (some ⟨b, 0, none⟩) cap cap)] ++ x.2.2.2 : List Value).length = x.2.2.1 * 1 ∧ (xs2 ++ [(Value.int .i64 m)] ++ x.1.2.2 : List Value).length = x.1.2.1 * 1) (fun x => .tuple #[]) (fun x => (⟨x.1.1, xs2 ++ [(Value.int .i64 m)] ++ x.1.2.2, 3, true⟩ :: ⟨x.2.1, xs1 ++ [(Value.slice (some ⟨b, 0, none⟩) cap cap)] ++ x.2.2.2, 41, true⟩ :: ⟨kb, [(.slice (some ⟨x.2.1, 0, none⟩) (n1 + 1) x.2.2.1), (.slice none 0 0), (.slice none 0 0), (.slice none 0 0), (.slice (some ⟨x.1.1, 0, none⟩) (n1 + 1) x.1.2.1), (.slice none 0 0), (.slice none 0 0), (.slice none 0 0)], 57, true⟩ :: ⟨b, (mks m cap).map u32, 28, true⟩ :: R))) := by
 refine enterF (w0 := w0) (M := None) (L := (⟨kb, [(.slice (some ⟨b1, 0, none⟩) n1 c1), nilS, nilS, nilS, (.slice (some ⟨b2, 0, none⟩) n1 c2), nilS, nilS, nilS], 57, true⟩ :: ⟨b1, xs1 ++ sp1, 41, true⟩ :: ⟨b2, xs2 ++ sp2, 3, true⟩ :: ⟨b, cs, 28, true⟩ :: R)) (n := 46) (l := [(0, (.pointer (some ⟨kb, 0, none⟩))), (1, (.slice (some ⟨b, 0, none⟩) n cap)), (2, (.int .i64 m))]) Try.func66 rfl rfl (Args.cons rfl (Args.cons rfl (Args.cons rfl (Args.nil _)))) hp0 ?_
 refine GC.seq (GC.region ?_)
 refine GL.mv rfl (by decide) ?_
 refine GL.mv rfl (by decide) ?_
 refine GL.val (v := (.int .i64 ((cap : Int)))) (Ex.cap rfl Try.underlying41) (by decide) ?_
 refine GL.val (v := (.slice (some ⟨b, 0, none⟩) cap cap)) (Ex.sliceH (m := cap) rfl rfl Try.underlying41 T.sz28 rfl (Nat.le_refl _)) (by decide) ?_
 refine GL.sg rfl (by decide) ?_
 refine GL.nil (GE.thenN (GC.seq (GC.seq ?_)))
 rw [show cs = mkC m cs 0 from (mkC_zero m cs).symm]
 refine GC.region ?_
 refine GL.sg rfl (by decide) ?_
 refine GL.nil (GE.thenN (GC.block ?_))
 refine GC.loop (σ := Nat) (fun k => k ≤ cap) (fun k => [(0, (.pointer (some ⟨kb, 0, none⟩))), (1, (.slice (some ⟨b, 0, none⟩) cap cap)), (2, (.int .i64 m)), (6, (.int .i64 (((k : Nat) : Int))))]) (fun k => (⟨kb, [(.slice (some ⟨b1, 0, none⟩) n1 c1), nilS, nilS, nilS, (.slice (some ⟨b2, 0, none⟩) n1 c2), nilS, nilS, nilS], 57, true⟩ :: ⟨b1, xs1 ++ sp1, 41, true⟩ :: ⟨b2, xs2 ++ sp2, 3, true⟩ :: ⟨b, mkC m cs k, 28, true⟩ :: R)) (fun k => cap - k) (0) (Nat.zero_le _) ((sub_cons rfl ((sub_cons rfl ((sub_cons rfl ((sub_cons rfl ((sub_nil _)))))))))) (ulC (ulC (ulC (ulC ulR)))) (fun k hp => ?_)
 refine GC.seq (GC.seq (GC.region ?_))
 refine GL.mv rfl (by decide) ?_
 refine GL.mv rfl (by decide) ?_
 refine GL.val (v := (.int .i64 ((cap : Int)))) (Ex.len rfl Try.underlying41) (by decide) ?_
 refine GL.val (v := (.bool (decide ((((k : Nat) : Int)) < ((cap : Int)))))) (Ex.lss rfl rfl) (by decide) ?_
 refine GL.nil (GE.thenN ?_)
 refine GC.cond rfl (fun hq1 => ?_) (fun hq1 => ?_)
 ·replace hq1 := of_decide_eq_true hq1
  refine GC.skip (GE.thenN (GC.seq (GC.block (GC.region ?_))))
  refine GL.mv rfl (by decide) ?_
  refine GL.mv rfl (by decide) ?_
  refine GL.mv rfl (by decide) ?_
  refine GL.mv rfl (by decide) ?_
  refine GL.step (Stp.callR (vs := [(.int .i64 m), (.int .i64 (((k : Nat) : Int)))]) rfl rfl T.own69 (by decide) (fun wc hw => bkmark m (((k : Nat) : Int)) wc)) (fun xq2 hq3 => ?_)
  refine GL.val (v := (.int .u32 (mk m k))) (Ex.conv rfl Try.underlying3 Try.underlying28 (Z := mk m k) (by rw [wu32]; rfl)) (by decide) ?_
  refine GL.val (v := (.pointer (some ⟨b, k, none⟩))) (Ex.cast (Ex.indexAddr rfl rfl Try.underlying41 T.sz28 (by omega) (by omega)) (by simp)) (by decide) ?_
  refine GL.step (Stp.storeL (i := 3) (cs := mkC m cs k) (vs := [.int .u32 (mk m k)]) (o := k) (L1 := (⟨kb, [(.slice (some ⟨b1, 0, none⟩) n1 c1), nilS, nilS, nilS, (.slice (some ⟨b2, 0, none⟩) n1 c2), nilS, nilS, nilS], 57, true⟩ :: ⟨b1, xs1 ++ sp1, 41, true⟩ :: ⟨b2, xs2 ++ sp2, 3, true⟩ :: ⟨b, mkC m cs (k + 1), 28, true⟩ :: R)) rfl rfl rfl T.sz28 rfl (Nat.ble_eq_true_of_le (by rw [mkC_len _ _ _ (by omega)]; simp; omega)) rfl (by rw [mkC_store (by omega)]; rfl)) (fun _ _ => ?_)
  refine GL.nil (GE.blockN (GE.thenN (GC.region ?_)))
  refine GL.mv rfl (by decide) ?_
  refine GL.val (v := (.int .i64 (((k + 1 : Nat) : Int)))) (Ex.add rfl rfl (Z := ((k + 1 : Nat) : Int)) (by rw [w64 (by omega)]; rfl)) (by decide) ?_
  refine GL.sg rfl (by decide) ?_
  refine GL.nil (GE.thenN ?_)
  exact Head.mk (k + 1) (by omega) (by omega) ((sub_cons rfl ((sub_cons rfl ((sub_cons rfl ((sub_cons rfl ((sub_nil _)))))))))) (ulC (ulC (ulC (ulC ulR))))
 ·replace hq1 := of_decide_eq_false hq1
  refine GC.exit (GE.thenE (GE.thenE (GE.blockE (GE.thenN (GC.seq ?_)))))
  rw [mkC_full m cs k (by omega), show k = cap from by omega]
  refine GC.region ?_
  refine GL.mv rfl (by decide) ?_
  refine GL.mv rfl (by decide) ?_
  refine GL.val (v := (.pointer (some ⟨kb, 0, none⟩))) (Ex.nilCheck rfl) (by decide) ?_
  refine GL.val (v := (.pointer (some ⟨kb, 0, none⟩))) (Ex.cast (Ex.fieldAddr rfl Try.underlying57 rfl T.sz50 (by decide)) rfl) (by decide) ?_
  refine GL.val (Ex.load rfl T.ag50 (i := 0) rfl rfl) (by decide) ?_
  refine GL.mv rfl (by decide) ?_
  refine GL.step (Stp.buildSlice (cs := [(.slice (some ⟨b, 0, none⟩) cap cap)]) (vs := [(0, (.slice (some ⟨b, 0, none⟩) cap cap))]) Try.underlying50 T.zr41 T.sz41 rfl (by decide) (by decide) (by first | rfl | kernel_rfl) (by decide)) (fun bq4 _ => ?_)
  refine GL.step (Stp.appendOwn (i := 2) (xs := xs1) (sp := sp1) (vs := [(.slice (some ⟨b, 0, none⟩) cap cap)]) (L1 := (⟨bq4, [(.slice (some ⟨b, 0, none⟩) cap cap)], 41, true⟩ :: ⟨kb, [(.slice (some ⟨b1, 0, none⟩) n1 c1), nilS, nilS, nilS, (.slice (some ⟨b2, 0, none⟩) n1 c2), nilS, nilS, nilS], 57, true⟩ :: ⟨b2, xs2 ++ sp2, 3, true⟩ :: ⟨b, (mks m cap).map u32, 28, true⟩ :: R)) rfl rfl Try.underlying50 T.sz41 T.zr41 rfl T.by41 rfl (by omega) hc1 (fun wz hz => hz.rdOf (i := 0) rfl 0) rfl rfl (by omega) (by omega) rfl (by decide)) (fun xq5 hq6 => ?_)
  refine GL.val (v := (.pointer (some ⟨kb, 0, none⟩))) (Ex.nilCheck rfl) (by decide) ?_
  refine GL.val (v := (.pointer (some ⟨kb, 0, none⟩))) (Ex.cast (Ex.fieldAddr rfl Try.underlying57 rfl T.sz50 (by decide)) rfl) (by decide) ?_
  refine GL.step (Stp.st2 (cs' := [(.slice (some ⟨xq5.1, 0, none⟩) (n1 + 1) xq5.2.1), nilS, nilS, nilS, (.slice (some ⟨b2, 0, none⟩) n1 c2), nilS, nilS, nilS]) rfl rfl rfl T.sz50 rfl rfl rfl) (fun _ _ => ?_)
  refine GL.nil (GE.thenN ?_)
  refine GC.draw (⟨xq5.1, xs1 ++ [(.slice (some ⟨b, 0, none⟩) cap cap)] ++ xq5.2.2, 41, true⟩ :: ⟨bq4, [(.slice (some ⟨b, 0, none⟩) cap cap)], 41, true⟩ :: ⟨b, (mks m cap).map u32, 28, true⟩ :: R) T.mixed (fuel := 13) rfl rfl ?_
  refine GH.tk 0 (v := (.pointer (some ⟨kb, 0, none⟩))) rfl (by kernel_rfl) (fun _ _ _ h => h) (Ex.move rfl) (ulC (ulC (ulS (ulS (ulC ulR))))) (by decide) ?_
  refine GH.tk 1 (v := (.pointer (some ⟨kb, 0, none⟩))) rfl (by kernel_rfl) (fun _ _ _ h => h) (Ex.move rfl) (ulC (ulC (ulS (ulS (ulC ulR))))) (by decide) ?_
  refine GH.tk 6 (v := (.int .i64 m)) rfl (by kernel_rfl) (fun _ _ _ h => h) (Ex.move rfl) (ulC (ulC (ulS (ulS (ulC ulR))))) (by decide) ?_
  refine GH.many (rs := [2, 7, 9]) (by kernel_rfl) (by simp) ?_
  refine GHs.cons rfl (Ex.wp (v := (.pointer (some ⟨kb, 0, none⟩))) (Ex.nilCheck rfl) (by decide)) (fun _ => (ulC (ulC (ulS (ulS (ulC ulR)))))) (fun _ _ => ?_) ?_
  ·refine GH.tk 3 (v := (.pointer (some ⟨kb, 4, none⟩))) rfl (by kernel_rfl) (fun _ _ _ h => h) (Ex.cast (Ex.fieldAddr rfl Try.underlying57 rfl T.sz55 (by decide)) rfl) (ulC (ulC (ulS (ulS (ulC ulR))))) (by decide) ?_
   refine GH.tk 4 (v := (.pointer (some ⟨kb, 4, none⟩))) rfl (by kernel_rfl) (fun _ _ _ h => h) (Ex.cast (Ex.indexArr (m := 4) rfl rfl Try.underlying55 T.sz54 (by decide) (by decide)) rfl) (ulC (ulC (ulS (ulS (ulC ulR))))) (by decide) ?_
   refine GH.many (rs := [5, 7, 9]) (by kernel_rfl) (by simp) ?_
   refine GHs.cons rfl (Ex.wp (v := (.slice (some ⟨b2, 0, none⟩) n1 c2)) (Ex.load rfl T.ag54 (i := 2) rfl rfl) (by decide)) (fun _ => (ulC (ulC (ulS (ulS (ulC ulR)))))) (fun _ _ => ?_) ?_
   ·refine GH.many (rs := [7, 9]) (by kernel_rfl) (by simp) ?_
    refine GHs.cons rfl (Stp.buildSlice (cs := [(.int .i64 m)]) (vs := [(0, (.int .i64 m))]) Try.underlying54 T.zr3 T.sz3 rfl (by decide) (by decide) (by first | rfl | kernel_rfl) (by decide)) (fun _ => (ulS (ulC (ulC (ulS (ulS (ulC ulR))))))) (fun bq7 _ => ?_) ?_
    ·refine GH.many (rs := [8, 9]) (by kernel_rfl) (by simp) ?_
     refine GHs.cons rfl (Stp.appendOwn (i := 4) (xs := xs2) (sp := sp2) (vs := [(.int .i64 m)]) (L1 := (⟨bq7, [(.int .i64 m)], 3, true⟩ :: ⟨xq5.1, xs1 ++ [(.slice (some ⟨b, 0, none⟩) cap cap)] ++ xq5.2.2, 41, true⟩ :: ⟨bq4, [(.slice (some ⟨b, 0, none⟩) cap cap)], 41, true⟩ :: ⟨kb, [(.slice (some ⟨xq5.1, 0, none⟩) (n1 + 1) xq5.2.1), nilS, nilS, nilS, (.slice (some ⟨b2, 0, none⟩) n1 c2), nilS, nilS, nilS], 57, true⟩ :: ⟨b, (mks m cap).map u32, 28, true⟩ :: R)) rfl rfl Try.underlying54 T.sz3 T.zr3 rfl T.by3 rfl (by omega) hc2 (fun wz hz => hz.rdOf (i := 0) rfl 0) rfl rfl (by omega) (by omega) rfl (by decide)) (fun _ => (ulS (ulS (ulC (ulC (ulS (ulC ulR))))))) (fun xq8 hq9 => ?_) ?_
     ·refine GH.one 9 rfl (by kernel_rfl) (Ex.wp (v := (.pointer (some ⟨kb, 0, none⟩))) (Ex.nilCheck rfl) (by decide)) (fun _ => (ulS (ulS (ulC (ulC (ulS (ulC ulR))))))) (fun _ _ => ?_)
      refine GH.tk 10 (v := (.pointer (some ⟨kb, 4, none⟩))) rfl (by kernel_rfl) (fun _ _ _ h => h) (Ex.cast (Ex.fieldAddr rfl Try.underlying57 rfl T.sz55 (by decide)) rfl) (ulS (ulS (ulC (ulC (ulS (ulC ulR)))))) (by decide) ?_
      refine GH.tk 11 (v := (.pointer (some ⟨kb, 4, none⟩))) rfl (by kernel_rfl) (fun _ _ _ h => h) (Ex.cast (Ex.indexArr (m := 4) rfl rfl Try.underlying55 T.sz54 (by decide) (by decide)) rfl) (ulS (ulS (ulC (ulC (ulS (ulC ulR)))))) (by decide) ?_
      refine GH.one 12 rfl (by kernel_rfl) (Stp.st4 (cs' := [(.slice (some ⟨xq5.1, 0, none⟩) (n1 + 1) xq5.2.1), nilS, nilS, nilS, (.slice (some ⟨xq8.1, 0, none⟩) (n1 + 1) xq8.2.1), nilS, nilS, nilS]) rfl rfl rfl T.sz54 rfl rfl rfl) (fun _ => (ulS (ulS (ulC (ulC (ulS (ulC ulR))))))) (fun _ _ => ?_)
      refine GH.done (by kernel_rfl) ?_
      refine GC.end0 rfl (fun wN HN => ?_)
      exact HN.frm (xq8, xq5) ⟨hq6.1, hq9.1⟩ (by rfl) (ulC (ulS (ulC (ulS (ulC (ulC ulR))))))
     refine GHs.cons rfl (Ex.wp (v := (.pointer (some ⟨kb, 0, none⟩))) (Ex.nilCheck rfl) (by decide)) (fun _ => (ulS (ulC (ulC (ulS (ulS (ulC ulR))))))) (fun _ _ => ?_) ?_
     ·refine GH.tk 10 (v := (.pointer (some ⟨kb, 4, none⟩))) rfl (by kernel_rfl) (fun _ _ _ h => h) (Ex.cast (Ex.fieldAddr rfl Try.underlying57 rfl T.sz55 (by decide)) rfl) (ulS (ulC (ulC (ulS (ulS (ulC ulR)))))) (by decide) ?_
      refine GH.one 8 rfl (by kernel_rfl) (Stp.appendOwn (i := 4) (xs := xs2) (sp := sp2) (vs := [(.int .i64 m)]) (L1 := (⟨bq7, [(.int .i64 m)], 3, true⟩ :: ⟨xq5.1, xs1 ++ [(.slice (some ⟨b, 0, none⟩) cap cap)] ++ xq5.2.2, 41, true⟩ :: ⟨bq4, [(.slice (some ⟨b, 0, none⟩) cap cap)], 41, true⟩ :: ⟨kb, [(.slice (some ⟨xq5.1, 0, none⟩) (n1 + 1) xq5.2.1), nilS, nilS, nilS, (.slice (some ⟨b2, 0, none⟩) n1 c2), nilS, nilS, nilS], 57, true⟩ :: ⟨b, (mks m cap).map u32, 28, true⟩ :: R)) rfl rfl Try.underlying54 T.sz3 T.zr3 rfl T.by3 rfl (by omega) hc2 (fun wz hz => hz.rdOf (i := 0) rfl 0) rfl rfl (by omega) (by omega) rfl (by decide)) (fun _ => (ulS (ulS (ulC (ulC (ulS (ulC ulR))))))) (fun xq10 hq11 => ?_)
      refine GH.tk 11 (v := (.pointer (some ⟨kb, 4, none⟩))) rfl (by kernel_rfl) (fun _ _ _ h => h) (Ex.cast (Ex.indexArr (m := 4) rfl rfl Try.underlying55 T.sz54 (by decide) (by decide)) rfl) (ulS (ulS (ulC (ulC (ulS (ulC ulR)))))) (by decide) ?_
      refine GH.one 12 rfl (by kernel_rfl) (Stp.st4 (cs' := [(.slice (some ⟨xq5.1, 0, none⟩) (n1 + 1) xq5.2.1), nilS, nilS, nilS, (.slice (some ⟨xq10.1, 0, none⟩) (n1 + 1) xq10.2.1), nilS, nilS, nilS]) rfl rfl rfl T.sz54 rfl rfl rfl) (fun _ => (ulS (ulS (ulC (ulC (ulS (ulC ulR))))))) (fun _ _ => ?_)
      refine GH.done (by kernel_rfl) ?_
      refine GC.end0 rfl (fun wN HN => ?_)
      exact HN.frm (xq10, xq5) ⟨hq6.1, hq11.1⟩ (by rfl) (ulC (ulS (ulC (ulS (ulC (ulC ulR))))))
     exact GHs.nil
    refine GHs.cons rfl (Ex.wp (v := (.pointer (some ⟨kb, 0, none⟩))) (Ex.nilCheck rfl) (by decide)) (fun _ => (ulC (ulC (ulS (ulS (ulC ulR)))))) (fun _ _ => ?_) ?_
    ·refine GH.tk 10 (v := (.pointer (some ⟨kb, 4, none⟩))) rfl (by kernel_rfl) (fun _ _ _ h => h) (Ex.cast (Ex.fieldAddr rfl Try.underlying57 rfl T.sz55 (by decide)) rfl) (ulC (ulC (ulS (ulS (ulC ulR))))) (by decide) ?_
     refine GH.one 7 rfl (by kernel_rfl) (Stp.buildSlice (cs := [(.int .i64 m)]) (vs := [(0, (.int .i64 m))]) Try.underlying54 T.zr3 T.sz3 rfl (by decide) (by decide) (by first | rfl | kernel_rfl) (by decide)) (fun _ => (ulS (ulC (ulC (ulS (ulS (ulC ulR))))))) (fun bq12 _ => ?_)
     refine GH.one 8 rfl (by kernel_rfl) (Stp.appendOwn (i := 4) (xs := xs2) (sp := sp2) (vs := [(.int .i64 m)]) (L1 := (⟨bq12, [(.int .i64 m)], 3, true⟩ :: ⟨xq5.1, xs1 ++ [(.slice (some ⟨b, 0, none⟩) cap cap)] ++ xq5.2.2, 41, true⟩ :: ⟨bq4, [(.slice (some ⟨b, 0, none⟩) cap cap)], 41, true⟩ :: ⟨kb, [(.slice (some ⟨xq5.1, 0, none⟩) (n1 + 1) xq5.2.1), nilS, nilS, nilS, (.slice (some ⟨b2, 0, none⟩) n1 c2), nilS, nilS, nilS], 57, true⟩ :: ⟨b, (mks m cap).map u32, 28, true⟩ :: R)) rfl rfl Try.underlying54 T.sz3 T.zr3 rfl T.by3 rfl (by omega) hc2 (fun wz hz => hz.rdOf (i := 0) rfl 0) rfl rfl (by omega) (by omega) rfl (by decide)) (fun _ => (ulS (ulS (ulC (ulC (ulS (ulC ulR))))))) (fun xq13 hq14 => ?_)
     refine GH.tk 11 (v := (.pointer (some ⟨kb, 4, none⟩))) rfl (by kernel_rfl) (fun _ _ _ h => h) (Ex.cast (Ex.indexArr (m := 4) rfl rfl Try.underlying55 T.sz54 (by decide) (by decide)) rfl) (ulS (ulS (ulC (ulC (ulS (ulC ulR)))))) (by decide) ?_
     refine GH.one 12 rfl (by kernel_rfl) (Stp.st4 (cs' := [(.slice (some ⟨xq5.1, 0, none⟩) (n1 + 1) xq5.2.1), nilS, nilS, nilS, (.slice (some ⟨xq13.1, 0, none⟩) (n1 + 1) xq13.2.1), nilS, nilS, nilS]) rfl rfl rfl T.sz54 rfl rfl rfl) (fun _ => (ulS (ulS (ulC (ulC (ulS (ulC ulR))))))) (fun _ _ => ?_)
     refine GH.done (by kernel_rfl) ?_
     refine GC.end0 rfl (fun wN HN => ?_)
     exact HN.frm (xq13, xq5) ⟨hq6.1, hq14.1⟩ (by rfl) (ulC (ulS (ulC (ulS (ulC (ulC ulR))))))
    exact GHs.nil
   refine GHs.cons rfl (Stp.buildSlice (cs := [(.int .i64 m)]) (vs := [(0, (.int .i64 m))]) Try.underlying54 T.zr3 T.sz3 rfl (by decide) (by decide) (by first | rfl | kernel_rfl) (by decide)) (fun _ => (ulS (ulC (ulC (ulS (ulS (ulC ulR))))))) (fun bq15 _ => ?_) ?_
   ·refine GH.many (rs := [5, 9]) (by kernel_rfl) (by simp) ?_
    refine GHs.cons rfl (Ex.wp (v := (.slice (some ⟨b2, 0, none⟩) n1 c2)) (Ex.load rfl T.ag54 (i := 3) rfl rfl) (by decide)) (fun _ => (ulS (ulC (ulC (ulS (ulS (ulC ulR))))))) (fun _ _ => ?_) ?_
    ·refine GH.many (rs := [8, 9]) (by kernel_rfl) (by simp) ?_
     refine GHs.cons rfl (Stp.appendOwn (i := 4) (xs := xs2) (sp := sp2) (vs := [(.int .i64 m)]) (L1 := (⟨bq15, [(.int .i64 m)], 3, true⟩ :: ⟨xq5.1, xs1 ++ [(.slice (some ⟨b, 0, none⟩) cap cap)] ++ xq5.2.2, 41, true⟩ :: ⟨bq4, [(.slice (some ⟨b, 0, none⟩) cap cap)], 41, true⟩ :: ⟨kb, [(.slice (some ⟨xq5.1, 0, none⟩) (n1 + 1) xq5.2.1), nilS, nilS, nilS, (.slice (some ⟨b2, 0, none⟩) n1 c2), nilS, nilS, nilS], 57, true⟩ :: ⟨b, (mks m cap).map u32, 28, true⟩ :: R)) rfl rfl Try.underlying54 T.sz3 T.zr3 rfl T.by3 rfl (by omega) hc2 (fun wz hz => hz.rdOf (i := 0) rfl 0) rfl rfl (by omega) (by omega) rfl (by decide)) (fun _ => (ulS (ulS (ulC (ulC (ulS (ulC ulR))))))) (fun xq16 hq17 => ?_) ?_
     ·refine GH.one 9 rfl (by kernel_rfl) (Ex.wp (v := (.pointer (some ⟨kb, 0, none⟩))) (Ex.nilCheck rfl) (by decide)) (fun _ => (ulS (ulS (ulC (ulC (ulS (ulC ulR))))))) (fun _ _ => ?_)
      refine GH.tk 10 (v := (.pointer (some ⟨kb, 4, none⟩))) rfl (by kernel_rfl) (fun _ _ _ h => h) (Ex.cast (Ex.fieldAddr rfl Try.underlying57 rfl T.sz55 (by decide)) rfl) (ulS (ulS (ulC (ulC (ulS (ulC ulR)))))) (by decide) ?_
      refine GH.tk 11 (v := (.pointer (some ⟨kb, 4, none⟩))) rfl (by kernel_rfl) (fun _ _ _ h => h) (Ex.cast (Ex.indexArr (m := 4) rfl rfl Try.underlying55 T.sz54 (by decide) (by decide)) rfl) (ulS (ulS (ulC (ulC (ulS (ulC ulR)))))) (by decide) ?_
      refine GH.one 12 rfl (by kernel_rfl) (Stp.st4 (cs' := [(.slice (some ⟨xq5.1, 0, none⟩) (n1 + 1) xq5.2.1), nilS, nilS, nilS, (.slice (some ⟨xq16.1, 0, none⟩) (n1 + 1) xq16.2.1), nilS, nilS, nilS]) rfl rfl rfl T.sz54 rfl rfl rfl) (fun _ => (ulS (ulS (ulC (ulC (ulS (ulC ulR))))))) (fun _ _ => ?_)
      refine GH.done (by kernel_rfl) ?_
      refine GC.end0 rfl (fun wN HN => ?_)
      exact HN.frm (xq16, xq5) ⟨hq6.1, hq17.1⟩ (by rfl) (ulC (ulS (ulC (ulS (ulC (ulC ulR))))))
     refine GHs.cons rfl (Ex.wp (v := (.pointer (some ⟨kb, 0, none⟩))) (Ex.nilCheck rfl) (by decide)) (fun _ => (ulS (ulC (ulC (ulS (ulS (ulC ulR))))))) (fun _ _ => ?_) ?_
     ·refine GH.tk 10 (v := (.pointer (some ⟨kb, 4, none⟩))) rfl (by kernel_rfl) (fun _ _ _ h => h) (Ex.cast (Ex.fieldAddr rfl Try.underlying57 rfl T.sz55 (by decide)) rfl) (ulS (ulC (ulC (ulS (ulS (ulC ulR)))))) (by decide) ?_
      refine GH.one 8 rfl (by kernel_rfl) (Stp.appendOwn (i := 4) (xs := xs2) (sp := sp2) (vs := [(.int .i64 m)]) (L1 := (⟨bq15, [(.int .i64 m)], 3, true⟩ :: ⟨xq5.1, xs1 ++ [(.slice (some ⟨b, 0, none⟩) cap cap)] ++ xq5.2.2, 41, true⟩ :: ⟨bq4, [(.slice (some ⟨b, 0, none⟩) cap cap)], 41, true⟩ :: ⟨kb, [(.slice (some ⟨xq5.1, 0, none⟩) (n1 + 1) xq5.2.1), nilS, nilS, nilS, (.slice (some ⟨b2, 0, none⟩) n1 c2), nilS, nilS, nilS], 57, true⟩ :: ⟨b, (mks m cap).map u32, 28, true⟩ :: R)) rfl rfl Try.underlying54 T.sz3 T.zr3 rfl T.by3 rfl (by omega) hc2 (fun wz hz => hz.rdOf (i := 0) rfl 0) rfl rfl (by omega) (by omega) rfl (by decide)) (fun _ => (ulS (ulS (ulC (ulC (ulS (ulC ulR))))))) (fun xq18 hq19 => ?_)
      refine GH.tk 11 (v := (.pointer (some ⟨kb, 4, none⟩))) rfl (by kernel_rfl) (fun _ _ _ h => h) (Ex.cast (Ex.indexArr (m := 4) rfl rfl Try.underlying55 T.sz54 (by decide) (by decide)) rfl) (ulS (ulS (ulC (ulC (ulS (ulC ulR)))))) (by decide) ?_
      refine GH.one 12 rfl (by kernel_rfl) (Stp.st4 (cs' := [(.slice (some ⟨xq5.1, 0, none⟩) (n1 + 1) xq5.2.1), nilS, nilS, nilS, (.slice (some ⟨xq18.1, 0, none⟩) (n1 + 1) xq18.2.1), nilS, nilS, nilS]) rfl rfl rfl T.sz54 rfl rfl rfl) (fun _ => (ulS (ulS (ulC (ulC (ulS (ulC ulR))))))) (fun _ _ => ?_)
      refine GH.done (by kernel_rfl) ?_
      refine GC.end0 rfl (fun wN HN => ?_)
      exact HN.frm (xq18, xq5) ⟨hq6.1, hq19.1⟩ (by rfl) (ulC (ulS (ulC (ulS (ulC (ulC ulR))))))
     exact GHs.nil
    refine GHs.cons rfl (Ex.wp (v := (.pointer (some ⟨kb, 0, none⟩))) (Ex.nilCheck rfl) (by decide)) (fun _ => (ulS (ulC (ulC (ulS (ulS (ulC ulR))))))) (fun _ _ => ?_) ?_
    ·refine GH.tk 10 (v := (.pointer (some ⟨kb, 4, none⟩))) rfl (by kernel_rfl) (fun _ _ _ h => h) (Ex.cast (Ex.fieldAddr rfl Try.underlying57 rfl T.sz55 (by decide)) rfl) (ulS (ulC (ulC (ulS (ulS (ulC ulR)))))) (by decide) ?_
     refine GH.one 5 rfl (by kernel_rfl) (Ex.wp (v := (.slice (some ⟨b2, 0, none⟩) n1 c2)) (Ex.load rfl T.ag54 (i := 3) rfl rfl) (by decide)) (fun _ => (ulS (ulC (ulC (ulS (ulS (ulC ulR))))))) (fun _ _ => ?_)
     refine GH.one 8 rfl (by kernel_rfl) (Stp.appendOwn (i := 4) (xs := xs2) (sp := sp2) (vs := [(.int .i64 m)]) (L1 := (⟨bq15, [(.int .i64 m)], 3, true⟩ :: ⟨xq5.1, xs1 ++ [(.slice (some ⟨b, 0, none⟩) cap cap)] ++ xq5.2.2, 41, true⟩ :: ⟨bq4, [(.slice (some ⟨b, 0, none⟩) cap cap)], 41, true⟩ :: ⟨kb, [(.slice (some ⟨xq5.1, 0, none⟩) (n1 + 1) xq5.2.1), nilS, nilS, nilS, (.slice (some ⟨b2, 0, none⟩) n1 c2), nilS, nilS, nilS], 57, true⟩ :: ⟨b, (mks m cap).map u32, 28, true⟩ :: R)) rfl rfl Try.underlying54 T.sz3 T.zr3 rfl T.by3 rfl (by omega) hc2 (fun wz hz => hz.rdOf (i := 0) rfl 0) rfl rfl (by omega) (by omega) rfl (by decide)) (fun _ => (ulS (ulS (ulC (ulC (ulS (ulC ulR))))))) (fun xq20 hq21 => ?_)
     refine GH.tk 11 (v := (.pointer (some ⟨kb, 4, none⟩))) rfl (by kernel_rfl) (fun _ _ _ h => h) (Ex.cast (Ex.indexArr (m := 4) rfl rfl Try.underlying55 T.sz54 (by decide) (by decide)) rfl) (ulS (ulS (ulC (ulC (ulS (ulC ulR)))))) (by decide) ?_
     refine GH.one 12 rfl (by kernel_rfl) (Stp.st4 (cs' := [(.slice (some ⟨xq5.1, 0, none⟩) (n1 + 1) xq5.2.1), nilS, nilS, nilS, (.slice (some ⟨xq20.1, 0, none⟩) (n1 + 1) xq20.2.1), nilS, nilS, nilS]) rfl rfl rfl T.sz54 rfl rfl rfl) (fun _ => (ulS (ulS (ulC (ulC (ulS (ulC ulR))))))) (fun _ _ => ?_)
     refine GH.done (by kernel_rfl) ?_
     refine GC.end0 rfl (fun wN HN => ?_)
     exact HN.frm (xq20, xq5) ⟨hq6.1, hq21.1⟩ (by rfl) (ulC (ulS (ulC (ulS (ulC (ulC ulR))))))
    exact GHs.nil
   refine GHs.cons rfl (Ex.wp (v := (.pointer (some ⟨kb, 0, none⟩))) (Ex.nilCheck rfl) (by decide)) (fun _ => (ulC (ulC (ulS (ulS (ulC ulR)))))) (fun _ _ => ?_) ?_
   ·refine GH.tk 10 (v := (.pointer (some ⟨kb, 4, none⟩))) rfl (by kernel_rfl) (fun _ _ _ h => h) (Ex.cast (Ex.fieldAddr rfl Try.underlying57 rfl T.sz55 (by decide)) rfl) (ulC (ulC (ulS (ulS (ulC ulR))))) (by decide) ?_
    refine GH.many (rs := [5, 7]) (by kernel_rfl) (by simp) ?_
    refine GHs.cons rfl (Ex.wp (v := (.slice (some ⟨b2, 0, none⟩) n1 c2)) (Ex.load rfl T.ag54 (i := 2) rfl rfl) (by decide)) (fun _ => (ulC (ulC (ulS (ulS (ulC ulR)))))) (fun _ _ => ?_) ?_
    ·refine GH.one 7 rfl (by kernel_rfl) (Stp.buildSlice (cs := [(.int .i64 m)]) (vs := [(0, (.int .i64 m))]) Try.underlying54 T.zr3 T.sz3 rfl (by decide) (by decide) (by first | rfl | kernel_rfl) (by decide)) (fun _ => (ulS (ulC (ulC (ulS (ulS (ulC ulR))))))) (fun bq22 _ => ?_)
     refine GH.one 8 rfl (by kernel_rfl) (Stp.appendOwn (i := 4) (xs := xs2) (sp := sp2) (vs := [(.int .i64 m)]) (L1 := (⟨bq22, [(.int .i64 m)], 3, true⟩ :: ⟨xq5.1, xs1 ++ [(.slice (some ⟨b, 0, none⟩) cap cap)] ++ xq5.2.2, 41, true⟩ :: ⟨bq4, [(.slice (some ⟨b, 0, none⟩) cap cap)], 41, true⟩ :: ⟨kb, [(.slice (some ⟨xq5.1, 0, none⟩) (n1 + 1) xq5.2.1), nilS, nilS, nilS, (.slice (some ⟨b2, 0, none⟩) n1 c2), nilS, nilS, nilS], 57, true⟩ :: ⟨b, (mks m cap).map u32, 28, true⟩ :: R)) rfl rfl Try.underlying54 T.sz3 T.zr3 rfl T.by3 rfl (by omega) hc2 (fun wz hz => hz.rdOf (i := 0) rfl 0) rfl rfl (by omega) (by omega) rfl (by decide)) (fun _ => (ulS (ulS (ulC (ulC (ulS (ulC ulR))))))) (fun xq23 hq24 => ?_)
     refine GH.tk 11 (v := (.pointer (some ⟨kb, 4, none⟩))) rfl (by kernel_rfl) (fun _ _ _ h => h) (Ex.cast (Ex.indexArr (m := 4) rfl rfl Try.underlying55 T.sz54 (by decide) (by decide)) rfl) (ulS (ulS (ulC (ulC (ulS (ulC ulR)))))) (by decide) ?_
     refine GH.one 12 rfl (by kernel_rfl) (Stp.st4 (cs' := [(.slice (some ⟨xq5.1, 0, none⟩) (n1 + 1) xq5.2.1), nilS, nilS, nilS, (.slice (some ⟨xq23.1, 0, none⟩) (n1 + 1) xq23.2.1), nilS, nilS, nilS]) rfl rfl rfl T.sz54 rfl rfl rfl) (fun _ => (ulS (ulS (ulC (ulC (ulS (ulC ulR))))))) (fun _ _ => ?_)
     refine GH.done (by kernel_rfl) ?_
     refine GC.end0 rfl (fun wN HN => ?_)
     exact HN.frm (xq23, xq5) ⟨hq6.1, hq24.1⟩ (by rfl) (ulC (ulS (ulC (ulS (ulC (ulC ulR))))))
    refine GHs.cons rfl (Stp.buildSlice (cs := [(.int .i64 m)]) (vs := [(0, (.int .i64 m))]) Try.underlying54 T.zr3 T.sz3 rfl (by decide) (by decide) (by first | rfl | kernel_rfl) (by decide)) (fun _ => (ulS (ulC (ulC (ulS (ulS (ulC ulR))))))) (fun bq25 _ => ?_) ?_
    ·refine GH.one 5 rfl (by kernel_rfl) (Ex.wp (v := (.slice (some ⟨b2, 0, none⟩) n1 c2)) (Ex.load rfl T.ag54 (i := 3) rfl rfl) (by decide)) (fun _ => (ulS (ulC (ulC (ulS (ulS (ulC ulR))))))) (fun _ _ => ?_)
     refine GH.one 8 rfl (by kernel_rfl) (Stp.appendOwn (i := 4) (xs := xs2) (sp := sp2) (vs := [(.int .i64 m)]) (L1 := (⟨bq25, [(.int .i64 m)], 3, true⟩ :: ⟨xq5.1, xs1 ++ [(.slice (some ⟨b, 0, none⟩) cap cap)] ++ xq5.2.2, 41, true⟩ :: ⟨bq4, [(.slice (some ⟨b, 0, none⟩) cap cap)], 41, true⟩ :: ⟨kb, [(.slice (some ⟨xq5.1, 0, none⟩) (n1 + 1) xq5.2.1), nilS, nilS, nilS, (.slice (some ⟨b2, 0, none⟩) n1 c2), nilS, nilS, nilS], 57, true⟩ :: ⟨b, (mks m cap).map u32, 28, true⟩ :: R)) rfl rfl Try.underlying54 T.sz3 T.zr3 rfl T.by3 rfl (by omega) hc2 (fun wz hz => hz.rdOf (i := 0) rfl 0) rfl rfl (by omega) (by omega) rfl (by decide)) (fun _ => (ulS (ulS (ulC (ulC (ulS (ulC ulR))))))) (fun xq26 hq27 => ?_)
     refine GH.tk 11 (v := (.pointer (some ⟨kb, 4, none⟩))) rfl (by kernel_rfl) (fun _ _ _ h => h) (Ex.cast (Ex.indexArr (m := 4) rfl rfl Try.underlying55 T.sz54 (by decide) (by decide)) rfl) (ulS (ulS (ulC (ulC (ulS (ulC ulR)))))) (by decide) ?_
     refine GH.one 12 rfl (by kernel_rfl) (Stp.st4 (cs' := [(.slice (some ⟨xq5.1, 0, none⟩) (n1 + 1) xq5.2.1), nilS, nilS, nilS, (.slice (some ⟨xq26.1, 0, none⟩) (n1 + 1) xq26.2.1), nilS, nilS, nilS]) rfl rfl rfl T.sz54 rfl rfl rfl) (fun _ => (ulS (ulS (ulC (ulC (ulS (ulC ulR))))))) (fun _ _ => ?_)
     refine GH.done (by kernel_rfl) ?_
     refine GC.end0 rfl (fun wN HN => ?_)
     exact HN.frm (xq26, xq5) ⟨hq6.1, hq27.1⟩ (by rfl) (ulC (ulS (ulC (ulS (ulC (ulC ulR))))))
    exact GHs.nil
   exact GHs.nil
  refine GHs.cons rfl (Stp.buildSlice (cs := [(.int .i64 m)]) (vs := [(0, (.int .i64 m))]) Try.underlying54 T.zr3 T.sz3 rfl (by decide) (by decide) (by first | rfl | kernel_rfl) (by decide)) (fun _ => (ulS (ulC (ulC (ulS (ulS (ulC ulR))))))) (fun bq28 _ => ?_) ?_
  ·refine GH.many (rs := [2, 9]) (by kernel_rfl) (by simp) ?_
   refine GHs.cons rfl (Ex.wp (v := (.pointer (some ⟨kb, 0, none⟩))) (Ex.nilCheck rfl) (by decide)) (fun _ => (ulS (ulC (ulC (ulS (ulS (ulC ulR))))))) (fun _ _ => ?_) ?_
   ·refine GH.tk 3 (v := (.pointer (some ⟨kb, 4, none⟩))) rfl (by kernel_rfl) (fun _ _ _ h => h) (Ex.cast (Ex.fieldAddr rfl Try.underlying57 rfl T.sz55 (by decide)) rfl) (ulS (ulC (ulC (ulS (ulS (ulC ulR)))))) (by decide) ?_
    refine GH.tk 4 (v := (.pointer (some ⟨kb, 4, none⟩))) rfl (by kernel_rfl) (fun _ _ _ h => h) (Ex.cast (Ex.indexArr (m := 4) rfl rfl Try.underlying55 T.sz54 (by decide) (by decide)) rfl) (ulS (ulC (ulC (ulS (ulS (ulC ulR)))))) (by decide) ?_
    refine GH.many (rs := [5, 9]) (by kernel_rfl) (by simp) ?_
    refine GHs.cons rfl (Ex.wp (v := (.slice (some ⟨b2, 0, none⟩) n1 c2)) (Ex.load rfl T.ag54 (i := 3) rfl rfl) (by decide)) (fun _ => (ulS (ulC (ulC (ulS (ulS (ulC ulR))))))) (fun _ _ => ?_) ?_
    ·refine GH.many (rs := [8, 9]) (by kernel_rfl) (by simp) ?_
     refine GHs.cons rfl (Stp.appendOwn (i := 4) (xs := xs2) (sp := sp2) (vs := [(.int .i64 m)]) (L1 := (⟨bq28, [(.int .i64 m)], 3, true⟩ :: ⟨xq5.1, xs1 ++ [(.slice (some ⟨b, 0, none⟩) cap cap)] ++ xq5.2.2, 41, true⟩ :: ⟨bq4, [(.slice (some ⟨b, 0, none⟩) cap cap)], 41, true⟩ :: ⟨kb, [(.slice (some ⟨xq5.1, 0, none⟩) (n1 + 1) xq5.2.1), nilS, nilS, nilS, (.slice (some ⟨b2, 0, none⟩) n1 c2), nilS, nilS, nilS], 57, true⟩ :: ⟨b, (mks m cap).map u32, 28, true⟩ :: R)) rfl rfl Try.underlying54 T.sz3 T.zr3 rfl T.by3 rfl (by omega) hc2 (fun wz hz => hz.rdOf (i := 0) rfl 0) rfl rfl (by omega) (by omega) rfl (by decide)) (fun _ => (ulS (ulS (ulC (ulC (ulS (ulC ulR))))))) (fun xq29 hq30 => ?_) ?_
     ·refine GH.one 9 rfl (by kernel_rfl) (Ex.wp (v := (.pointer (some ⟨kb, 0, none⟩))) (Ex.nilCheck rfl) (by decide)) (fun _ => (ulS (ulS (ulC (ulC (ulS (ulC ulR))))))) (fun _ _ => ?_)
      refine GH.tk 10 (v := (.pointer (some ⟨kb, 4, none⟩))) rfl (by kernel_rfl) (fun _ _ _ h => h) (Ex.cast (Ex.fieldAddr rfl Try.underlying57 rfl T.sz55 (by decide)) rfl) (ulS (ulS (ulC (ulC (ulS (ulC ulR)))))) (by decide) ?_
      refine GH.tk 11 (v := (.pointer (some ⟨kb, 4, none⟩))) rfl (by kernel_rfl) (fun _ _ _ h => h) (Ex.cast (Ex.indexArr (m := 4) rfl rfl Try.underlying55 T.sz54 (by decide) (by decide)) rfl) (ulS (ulS (ulC (ulC (ulS (ulC ulR)))))) (by decide) ?_
      refine GH.one 12 rfl (by kernel_rfl) (Stp.st4 (cs' := [(.slice (some ⟨xq5.1, 0, none⟩) (n1 + 1) xq5.2.1), nilS, nilS, nilS, (.slice (some ⟨xq29.1, 0, none⟩) (n1 + 1) xq29.2.1), nilS, nilS, nilS]) rfl rfl rfl T.sz54 rfl rfl rfl) (fun _ => (ulS (ulS (ulC (ulC (ulS (ulC ulR))))))) (fun _ _ => ?_)
      refine GH.done (by kernel_rfl) ?_
      refine GC.end0 rfl (fun wN HN => ?_)
      exact HN.frm (xq29, xq5) ⟨hq6.1, hq30.1⟩ (by rfl) (ulC (ulS (ulC (ulS (ulC (ulC ulR))))))
     refine GHs.cons rfl (Ex.wp (v := (.pointer (some ⟨kb, 0, none⟩))) (Ex.nilCheck rfl) (by decide)) (fun _ => (ulS (ulC (ulC (ulS (ulS (ulC ulR))))))) (fun _ _ => ?_) ?_
     ·refine GH.tk 10 (v := (.pointer (some ⟨kb, 4, none⟩))) rfl (by kernel_rfl) (fun _ _ _ h => h) (Ex.cast (Ex.fieldAddr rfl Try.underlying57 rfl T.sz55 (by decide)) rfl) (ulS (ulC (ulC (ulS (ulS (ulC ulR)))))) (by decide) ?_
      refine GH.one 8 rfl (by kernel_rfl) (Stp.appendOwn (i := 4) (xs := xs2) (sp := sp2) (vs := [(.int .i64 m)]) (L1 := (⟨bq28, [(.int .i64 m)], 3, true⟩ :: ⟨xq5.1, xs1 ++ [(.slice (some ⟨b, 0, none⟩) cap cap)] ++ xq5.2.2, 41, true⟩ :: ⟨bq4, [(.slice (some ⟨b, 0, none⟩) cap cap)], 41, true⟩ :: ⟨kb, [(.slice (some ⟨xq5.1, 0, none⟩) (n1 + 1) xq5.2.1), nilS, nilS, nilS, (.slice (some ⟨b2, 0, none⟩) n1 c2), nilS, nilS, nilS], 57, true⟩ :: ⟨b, (mks m cap).map u32, 28, true⟩ :: R)) rfl rfl Try.underlying54 T.sz3 T.zr3 rfl T.by3 rfl (by omega) hc2 (fun wz hz => hz.rdOf (i := 0) rfl 0) rfl rfl (by omega) (by omega) rfl (by decide)) (fun _ => (ulS (ulS (ulC (ulC (ulS (ulC ulR))))))) (fun xq31 hq32 => ?_)
      refine GH.tk 11 (v := (.pointer (some ⟨kb, 4, none⟩))) rfl (by kernel_rfl) (fun _ _ _ h => h) (Ex.cast (Ex.indexArr (m := 4) rfl rfl Try.underlying55 T.sz54 (by decide) (by decide)) rfl) (ulS (ulS (ulC (ulC (ulS (ulC ulR)))))) (by decide) ?_
      refine GH.one 12 rfl (by kernel_rfl) (Stp.st4 (cs' := [(.slice (some ⟨xq5.1, 0, none⟩) (n1 + 1) xq5.2.1), nilS, nilS, nilS, (.slice (some ⟨xq31.1, 0, none⟩) (n1 + 1) xq31.2.1), nilS, nilS, nilS]) rfl rfl rfl T.sz54 rfl rfl rfl) (fun _ => (ulS (ulS (ulC (ulC (ulS (ulC ulR))))))) (fun _ _ => ?_)
      refine GH.done (by kernel_rfl) ?_
      refine GC.end0 rfl (fun wN HN => ?_)
      exact HN.frm (xq31, xq5) ⟨hq6.1, hq32.1⟩ (by rfl) (ulC (ulS (ulC (ulS (ulC (ulC ulR))))))
     exact GHs.nil
    refine GHs.cons rfl (Ex.wp (v := (.pointer (some ⟨kb, 0, none⟩))) (Ex.nilCheck rfl) (by decide)) (fun _ => (ulS (ulC (ulC (ulS (ulS (ulC ulR))))))) (fun _ _ => ?_) ?_
    ·refine GH.tk 10 (v := (.pointer (some ⟨kb, 4, none⟩))) rfl (by kernel_rfl) (fun _ _ _ h => h) (Ex.cast (Ex.fieldAddr rfl Try.underlying57 rfl T.sz55 (by decide)) rfl) (ulS (ulC (ulC (ulS (ulS (ulC ulR)))))) (by decide) ?_
     refine GH.one 5 rfl (by kernel_rfl) (Ex.wp (v := (.slice (some ⟨b2, 0, none⟩) n1 c2)) (Ex.load rfl T.ag54 (i := 3) rfl rfl) (by decide)) (fun _ => (ulS (ulC (ulC (ulS (ulS (ulC ulR))))))) (fun _ _ => ?_)
     refine GH.one 8 rfl (by kernel_rfl) (Stp.appendOwn (i := 4) (xs := xs2) (sp := sp2) (vs := [(.int .i64 m)]) (L1 := (⟨bq28, [(.int .i64 m)], 3, true⟩ :: ⟨xq5.1, xs1 ++ [(.slice (some ⟨b, 0, none⟩) cap cap)] ++ xq5.2.2, 41, true⟩ :: ⟨bq4, [(.slice (some ⟨b, 0, none⟩) cap cap)], 41, true⟩ :: ⟨kb, [(.slice (some ⟨xq5.1, 0, none⟩) (n1 + 1) xq5.2.1), nilS, nilS, nilS, (.slice (some ⟨b2, 0, none⟩) n1 c2), nilS, nilS, nilS], 57, true⟩ :: ⟨b, (mks m cap).map u32, 28, true⟩ :: R)) rfl rfl Try.underlying54 T.sz3 T.zr3 rfl T.by3 rfl (by omega) hc2 (fun wz hz => hz.rdOf (i := 0) rfl 0) rfl rfl (by omega) (by omega) rfl (by decide)) (fun _ => (ulS (ulS (ulC (ulC (ulS (ulC ulR))))))) (fun xq33 hq34 => ?_)
     refine GH.tk 11 (v := (.pointer (some ⟨kb, 4, none⟩))) rfl (by kernel_rfl) (fun _ _ _ h => h) (Ex.cast (Ex.indexArr (m := 4) rfl rfl Try.underlying55 T.sz54 (by decide) (by decide)) rfl) (ulS (ulS (ulC (ulC (ulS (ulC ulR)))))) (by decide) ?_
     refine GH.one 12 rfl (by kernel_rfl) (Stp.st4 (cs' := [(.slice (some ⟨xq5.1, 0, none⟩) (n1 + 1) xq5.2.1), nilS, nilS, nilS, (.slice (some ⟨xq33.1, 0, none⟩) (n1 + 1) xq33.2.1), nilS, nilS, nilS]) rfl rfl rfl T.sz54 rfl rfl rfl) (fun _ => (ulS (ulS (ulC (ulC (ulS (ulC ulR))))))) (fun _ _ => ?_)
     refine GH.done (by kernel_rfl) ?_
     refine GC.end0 rfl (fun wN HN => ?_)
     exact HN.frm (xq33, xq5) ⟨hq6.1, hq34.1⟩ (by rfl) (ulC (ulS (ulC (ulS (ulC (ulC ulR))))))
    exact GHs.nil
   refine GHs.cons rfl (Ex.wp (v := (.pointer (some ⟨kb, 0, none⟩))) (Ex.nilCheck rfl) (by decide)) (fun _ => (ulS (ulC (ulC (ulS (ulS (ulC ulR))))))) (fun _ _ => ?_) ?_
   ·refine GH.tk 10 (v := (.pointer (some ⟨kb, 4, none⟩))) rfl (by kernel_rfl) (fun _ _ _ h => h) (Ex.cast (Ex.fieldAddr rfl Try.underlying57 rfl T.sz55 (by decide)) rfl) (ulS (ulC (ulC (ulS (ulS (ulC ulR)))))) (by decide) ?_
    refine GH.one 2 rfl (by kernel_rfl) (Ex.wp (v := (.pointer (some ⟨kb, 0, none⟩))) (Ex.nilCheck rfl) (by decide)) (fun _ => (ulS (ulC (ulC (ulS (ulS (ulC ulR))))))) (fun _ _ => ?_)
    refine GH.tk 3 (v := (.pointer (some ⟨kb, 4, none⟩))) rfl (by kernel_rfl) (fun _ _ _ h => h) (Ex.cast (Ex.fieldAddr rfl Try.underlying57 rfl T.sz55 (by decide)) rfl) (ulS (ulC (ulC (ulS (ulS (ulC ulR)))))) (by decide) ?_
    refine GH.tk 4 (v := (.pointer (some ⟨kb, 4, none⟩))) rfl (by kernel_rfl) (fun _ _ _ h => h) (Ex.cast (Ex.indexArr (m := 4) rfl rfl Try.underlying55 T.sz54 (by decide) (by decide)) rfl) (ulS (ulC (ulC (ulS (ulS (ulC ulR)))))) (by decide) ?_
    refine GH.one 5 rfl (by kernel_rfl) (Ex.wp (v := (.slice (some ⟨b2, 0, none⟩) n1 c2)) (Ex.load rfl T.ag54 (i := 3) rfl rfl) (by decide)) (fun _ => (ulS (ulC (ulC (ulS (ulS (ulC ulR))))))) (fun _ _ => ?_)
    refine GH.one 8 rfl (by kernel_rfl) (Stp.appendOwn (i := 4) (xs := xs2) (sp := sp2) (vs := [(.int .i64 m)]) (L1 := (⟨bq28, [(.int .i64 m)], 3, true⟩ :: ⟨xq5.1, xs1 ++ [(.slice (some ⟨b, 0, none⟩) cap cap)] ++ xq5.2.2, 41, true⟩ :: ⟨bq4, [(.slice (some ⟨b, 0, none⟩) cap cap)], 41, true⟩ :: ⟨kb, [(.slice (some ⟨xq5.1, 0, none⟩) (n1 + 1) xq5.2.1), nilS, nilS, nilS, (.slice (some ⟨b2, 0, none⟩) n1 c2), nilS, nilS, nilS], 57, true⟩ :: ⟨b, (mks m cap).map u32, 28, true⟩ :: R)) rfl rfl Try.underlying54 T.sz3 T.zr3 rfl T.by3 rfl (by omega) hc2 (fun wz hz => hz.rdOf (i := 0) rfl 0) rfl rfl (by omega) (by omega) rfl (by decide)) (fun _ => (ulS (ulS (ulC (ulC (ulS (ulC ulR))))))) (fun xq35 hq36 => ?_)
    refine GH.tk 11 (v := (.pointer (some ⟨kb, 4, none⟩))) rfl (by kernel_rfl) (fun _ _ _ h => h) (Ex.cast (Ex.indexArr (m := 4) rfl rfl Try.underlying55 T.sz54 (by decide) (by decide)) rfl) (ulS (ulS (ulC (ulC (ulS (ulC ulR)))))) (by decide) ?_
    refine GH.one 12 rfl (by kernel_rfl) (Stp.st4 (cs' := [(.slice (some ⟨xq5.1, 0, none⟩) (n1 + 1) xq5.2.1), nilS, nilS, nilS, (.slice (some ⟨xq35.1, 0, none⟩) (n1 + 1) xq35.2.1), nilS, nilS, nilS]) rfl rfl rfl T.sz54 rfl rfl rfl) (fun _ => (ulS (ulS (ulC (ulC (ulS (ulC ulR))))))) (fun _ _ => ?_)
    refine GH.done (by kernel_rfl) ?_
    refine GC.end0 rfl (fun wN HN => ?_)
    exact HN.frm (xq35, xq5) ⟨hq6.1, hq36.1⟩ (by rfl) (ulC (ulS (ulC (ulS (ulC (ulC ulR))))))
   exact GHs.nil
  refine GHs.cons rfl (Ex.wp (v := (.pointer (some ⟨kb, 0, none⟩))) (Ex.nilCheck rfl) (by decide)) (fun _ => (ulC (ulC (ulS (ulS (ulC ulR)))))) (fun _ _ => ?_) ?_
  ·refine GH.tk 10 (v := (.pointer (some ⟨kb, 4, none⟩))) rfl (by kernel_rfl) (fun _ _ _ h => h) (Ex.cast (Ex.fieldAddr rfl Try.underlying57 rfl T.sz55 (by decide)) rfl) (ulC (ulC (ulS (ulS (ulC ulR))))) (by decide) ?_
   refine GH.many (rs := [2, 7]) (by kernel_rfl) (by simp) ?_
   refine GHs.cons rfl (Ex.wp (v := (.pointer (some ⟨kb, 0, none⟩))) (Ex.nilCheck rfl) (by decide)) (fun _ => (ulC (ulC (ulS (ulS (ulC ulR)))))) (fun _ _ => ?_) ?_
   ·refine GH.tk 3 (v := (.pointer (some ⟨kb, 4, none⟩))) rfl (by kernel_rfl) (fun _ _ _ h => h) (Ex.cast (Ex.fieldAddr rfl Try.underlying57 rfl T.sz55 (by decide)) rfl) (ulC (ulC (ulS (ulS (ulC ulR))))) (by decide) ?_
    refine GH.tk 4 (v := (.pointer (some ⟨kb, 4, none⟩))) rfl (by kernel_rfl) (fun _ _ _ h => h) (Ex.cast (Ex.indexArr (m := 4) rfl rfl Try.underlying55 T.sz54 (by decide) (by decide)) rfl) (ulC (ulC (ulS (ulS (ulC ulR))))) (by decide) ?_
    refine GH.many (rs := [5, 7]) (by kernel_rfl) (by simp) ?_
    refine GHs.cons rfl (Ex.wp (v := (.slice (some ⟨b2, 0, none⟩) n1 c2)) (Ex.load rfl T.ag54 (i := 2) rfl rfl) (by decide)) (fun _ => (ulC (ulC (ulS (ulS (ulC ulR)))))) (fun _ _ => ?_) ?_
    ·refine GH.one 7 rfl (by kernel_rfl) (Stp.buildSlice (cs := [(.int .i64 m)]) (vs := [(0, (.int .i64 m))]) Try.underlying54 T.zr3 T.sz3 rfl (by decide) (by decide) (by first | rfl | kernel_rfl) (by decide)) (fun _ => (ulS (ulC (ulC (ulS (ulS (ulC ulR))))))) (fun bq37 _ => ?_)
     refine GH.one 8 rfl (by kernel_rfl) (Stp.appendOwn (i := 4) (xs := xs2) (sp := sp2) (vs := [(.int .i64 m)]) (L1 := (⟨bq37, [(.int .i64 m)], 3, true⟩ :: ⟨xq5.1, xs1 ++ [(.slice (some ⟨b, 0, none⟩) cap cap)] ++ xq5.2.2, 41, true⟩ :: ⟨bq4, [(.slice (some ⟨b, 0, none⟩) cap cap)], 41, true⟩ :: ⟨kb, [(.slice (some ⟨xq5.1, 0, none⟩) (n1 + 1) xq5.2.1), nilS, nilS, nilS, (.slice (some ⟨b2, 0, none⟩) n1 c2), nilS, nilS, nilS], 57, true⟩ :: ⟨b, (mks m cap).map u32, 28, true⟩ :: R)) rfl rfl Try.underlying54 T.sz3 T.zr3 rfl T.by3 rfl (by omega) hc2 (fun wz hz => hz.rdOf (i := 0) rfl 0) rfl rfl (by omega) (by omega) rfl (by decide)) (fun _ => (ulS (ulS (ulC (ulC (ulS (ulC ulR))))))) (fun xq38 hq39 => ?_)
     refine GH.tk 11 (v := (.pointer (some ⟨kb, 4, none⟩))) rfl (by kernel_rfl) (fun _ _ _ h => h) (Ex.cast (Ex.indexArr (m := 4) rfl rfl Try.underlying55 T.sz54 (by decide) (by decide)) rfl) (ulS (ulS (ulC (ulC (ulS (ulC ulR)))))) (by decide) ?_
     refine GH.one 12 rfl (by kernel_rfl) (Stp.st4 (cs' := [(.slice (some ⟨xq5.1, 0, none⟩) (n1 + 1) xq5.2.1), nilS, nilS, nilS, (.slice (some ⟨xq38.1, 0, none⟩) (n1 + 1) xq38.2.1), nilS, nilS, nilS]) rfl rfl rfl T.sz54 rfl rfl rfl) (fun _ => (ulS (ulS (ulC (ulC (ulS (ulC ulR))))))) (fun _ _ => ?_)
     refine GH.done (by kernel_rfl) ?_
     refine GC.end0 rfl (fun wN HN => ?_)
     exact HN.frm (xq38, xq5) ⟨hq6.1, hq39.1⟩ (by rfl) (ulC (ulS (ulC (ulS (ulC (ulC ulR))))))
    refine GHs.cons rfl (Stp.buildSlice (cs := [(.int .i64 m)]) (vs := [(0, (.int .i64 m))]) Try.underlying54 T.zr3 T.sz3 rfl (by decide) (by decide) (by first | rfl | kernel_rfl) (by decide)) (fun _ => (ulS (ulC (ulC (ulS (ulS (ulC ulR))))))) (fun bq40 _ => ?_) ?_
    ·refine GH.one 5 rfl (by kernel_rfl) (Ex.wp (v := (.slice (some ⟨b2, 0, none⟩) n1 c2)) (Ex.load rfl T.ag54 (i := 3) rfl rfl) (by decide)) (fun _ => (ulS (ulC (ulC (ulS (ulS (ulC ulR))))))) (fun _ _ => ?_)
     refine GH.one 8 rfl (by kernel_rfl) (Stp.appendOwn (i := 4) (xs := xs2) (sp := sp2) (vs := [(.int .i64 m)]) (L1 := (⟨bq40, [(.int .i64 m)], 3, true⟩ :: ⟨xq5.1, xs1 ++ [(.slice (some ⟨b, 0, none⟩) cap cap)] ++ xq5.2.2, 41, true⟩ :: ⟨bq4, [(.slice (some ⟨b, 0, none⟩) cap cap)], 41, true⟩ :: ⟨kb, [(.slice (some ⟨xq5.1, 0, none⟩) (n1 + 1) xq5.2.1), nilS, nilS, nilS, (.slice (some ⟨b2, 0, none⟩) n1 c2), nilS, nilS, nilS], 57, true⟩ :: ⟨b, (mks m cap).map u32, 28, true⟩ :: R)) rfl rfl Try.underlying54 T.sz3 T.zr3 rfl T.by3 rfl (by omega) hc2 (fun wz hz => hz.rdOf (i := 0) rfl 0) rfl rfl (by omega) (by omega) rfl (by decide)) (fun _ => (ulS (ulS (ulC (ulC (ulS (ulC ulR))))))) (fun xq41 hq42 => ?_)
     refine GH.tk 11 (v := (.pointer (some ⟨kb, 4, none⟩))) rfl (by kernel_rfl) (fun _ _ _ h => h) (Ex.cast (Ex.indexArr (m := 4) rfl rfl Try.underlying55 T.sz54 (by decide) (by decide)) rfl) (ulS (ulS (ulC (ulC (ulS (ulC ulR)))))) (by decide) ?_
     refine GH.one 12 rfl (by kernel_rfl) (Stp.st4 (cs' := [(.slice (some ⟨xq5.1, 0, none⟩) (n1 + 1) xq5.2.1), nilS, nilS, nilS, (.slice (some ⟨xq41.1, 0, none⟩) (n1 + 1) xq41.2.1), nilS, nilS, nilS]) rfl rfl rfl T.sz54 rfl rfl rfl) (fun _ => (ulS (ulS (ulC (ulC (ulS (ulC ulR))))))) (fun _ _ => ?_)
     refine GH.done (by kernel_rfl) ?_
     refine GC.end0 rfl (fun wN HN => ?_)
     exact HN.frm (xq41, xq5) ⟨hq6.1, hq42.1⟩ (by rfl) (ulC (ulS (ulC (ulS (ulC (ulC ulR))))))
    exact GHs.nil
   refine GHs.cons rfl (Stp.buildSlice (cs := [(.int .i64 m)]) (vs := [(0, (.int .i64 m))]) Try.underlying54 T.zr3 T.sz3 rfl (by decide) (by decide) (by first | rfl | kernel_rfl) (by decide)) (fun _ => (ulS (ulC (ulC (ulS (ulS (ulC ulR))))))) (fun bq43 _ => ?_) ?_
   ·refine GH.one 2 rfl (by kernel_rfl) (Ex.wp (v := (.pointer (some ⟨kb, 0, none⟩))) (Ex.nilCheck rfl) (by decide)) (fun _ => (ulS (ulC (ulC (ulS (ulS (ulC ulR))))))) (fun _ _ => ?_)
    refine GH.tk 3 (v := (.pointer (some ⟨kb, 4, none⟩))) rfl (by kernel_rfl) (fun _ _ _ h => h) (Ex.cast (Ex.fieldAddr rfl Try.underlying57 rfl T.sz55 (by decide)) rfl) (ulS (ulC (ulC (ulS (ulS (ulC ulR)))))) (by decide) ?_
    refine GH.tk 4 (v := (.pointer (some ⟨kb, 4, none⟩))) rfl (by kernel_rfl) (fun _ _ _ h => h) (Ex.cast (Ex.indexArr (m := 4) rfl rfl Try.underlying55 T.sz54 (by decide) (by decide)) rfl) (ulS (ulC (ulC (ulS (ulS (ulC ulR)))))) (by decide) ?_
    refine GH.one 5 rfl (by kernel_rfl) (Ex.wp (v := (.slice (some ⟨b2, 0, none⟩) n1 c2)) (Ex.load rfl T.ag54 (i := 3) rfl rfl) (by decide)) (fun _ => (ulS (ulC (ulC (ulS (ulS (ulC ulR))))))) (fun _ _ => ?_)
    refine GH.one 8 rfl (by kernel_rfl) (Stp.appendOwn (i := 4) (xs := xs2) (sp := sp2) (vs := [(.int .i64 m)]) (L1 := (⟨bq43, [(.int .i64 m)], 3, true⟩ :: ⟨xq5.1, xs1 ++ [(.slice (some ⟨b, 0, none⟩) cap cap)] ++ xq5.2.2, 41, true⟩ :: ⟨bq4, [(.slice (some ⟨b, 0, none⟩) cap cap)], 41, true⟩ :: ⟨kb, [(.slice (some ⟨xq5.1, 0, none⟩) (n1 + 1) xq5.2.1), nilS, nilS, nilS, (.slice (some ⟨b2, 0, none⟩) n1 c2), nilS, nilS, nilS], 57, true⟩ :: ⟨b, (mks m cap).map u32, 28, true⟩ :: R)) rfl rfl Try.underlying54 T.sz3 T.zr3 rfl T.by3 rfl (by omega) hc2 (fun wz hz => hz.rdOf (i := 0) rfl 0) rfl rfl (by omega) (by omega) rfl (by decide)) (fun _ => (ulS (ulS (ulC (ulC (ulS (ulC ulR))))))) (fun xq44 hq45 => ?_)
    refine GH.tk 11 (v := (.pointer (some ⟨kb, 4, none⟩))) rfl (by kernel_rfl) (fun _ _ _ h => h) (Ex.cast (Ex.indexArr (m := 4) rfl rfl Try.underlying55 T.sz54 (by decide) (by decide)) rfl) (ulS (ulS (ulC (ulC (ulS (ulC ulR)))))) (by decide) ?_
    refine GH.one 12 rfl (by kernel_rfl) (Stp.st4 (cs' := [(.slice (some ⟨xq5.1, 0, none⟩) (n1 + 1) xq5.2.1), nilS, nilS, nilS, (.slice (some ⟨xq44.1, 0, none⟩) (n1 + 1) xq44.2.1), nilS, nilS, nilS]) rfl rfl rfl T.sz54 rfl rfl rfl) (fun _ => (ulS (ulS (ulC (ulC (ulS (ulC ulR))))))) (fun _ _ => ?_)
    refine GH.done (by kernel_rfl) ?_
    refine GC.end0 rfl (fun wN HN => ?_)
    exact HN.frm (xq44, xq5) ⟨hq6.1, hq45.1⟩ (by rfl) (ulC (ulS (ulC (ulS (ulC (ulC ulR))))))
   exact GHs.nil
  exact GHs.nil

theorem book_p11 (w0 : World) (R : List Blk) (W H : Int) (kb : Nat) (m : Int) (b n cap : Nat) (cs : List Value) (n1 b1 c1 b2 c2 : Nat) (xs1 sp1 xs2 sp2 : List Value) (w : World) (hcap : cs.length = cap) (hb : cap ≤ 9223372036854775807) (hn1 : n1 ≤ 4000000000000) (hx1 : xs1.length = n1) (hx2 : xs2.length = n1) (hc1 : (xs1 ++ sp1).length = c1 * 1) (hc2 : (xs2 ++ sp2).length = c2 * 1) (hp0 : Hp None w0 (⟨kb, [(.slice (some ⟨b1, 0, none⟩) n1 c1), (.slice none 0 0), (.slice none 0 0), (.slice none 0 0), (.slice (some ⟨b2, 0, none⟩) n1 c2), (.slice none 0 0), (.slice none 0 0), (.slice none 0 0)], 57, true⟩ :: ⟨b1, xs1 ++ sp1, 41, true⟩ :: ⟨b2, xs2 ++ sp2, 3, true⟩ :: ⟨b, cs, 28, true⟩ :: R) w) :
  Calls Try.prog 28 #[(.pointer (some ⟨kb, 0, none⟩)), (.agg #[(.int .i64 W), (.int .i64 H), (.slice (some ⟨b, 0, none⟩) n cap)]), (.int .i64 m)] w (Frm (σ := (Nat × Nat × List Value) × (Nat × Nat × List Value)) None w0 (fun x => (xs1 ++ [(Value.slice (some ⟨b, 0, none⟩) cap cap)] ++ x.2.2.2 : List Value).length = x.2.2.1 * 1 ∧ (xs2 ++ [(Value.int .i64 m)] ++ x.1.2.2 : List Value).length = x.1.2.1 * 1) (fun x => .tuple #[]) (fun x => (⟨x.1.1, xs2 ++ [(Value.int .i64 m)] ++ x.1.2.2, 3, true⟩ :: ⟨x.2.1, xs1 ++ [(Value.slice (some ⟨b, 0, none⟩) cap cap)] ++ x.2.2.2, 41, true⟩ :: ⟨kb, [(.slice (some ⟨x.2.1, 0, none⟩) (n1 + 1) x.2.2.1), (.slice none 0 0), (.slice none 0 0), (.slice none 0 0), (.slice (some ⟨x.1.1, 0, none⟩) (n1 + 1) x.1.2.1), (.slice none 0 0), (.slice none 0 0), (.slice none 0 0)], 57, true⟩ :: ⟨b, (mks m cap).map u32, 28, true⟩ :: R))) := by
 refine enterF (w0 := w0) (M := None) (L := (⟨kb, [(.slice (some ⟨b1, 0, none⟩) n1 c1), nilS, nilS, nilS, (.slice (some ⟨b2, 0, none⟩) n1 c2), nilS, nilS, nilS], 57, true⟩ :: ⟨b1, xs1 ++ sp1, 41, true⟩ :: ⟨b2, xs2 ++ sp2, 3, true⟩ :: ⟨b, cs, 28, true⟩ :: R)) (n := 11) (l := [(0, (.pointer (some ⟨kb, 0, none⟩))), (1, (.agg #[(.int .i64 W), (.int .i64 H), (.slice (some ⟨b, 0, none⟩) n cap)])), (2, (.int .i64 m))]) Try.func28 rfl rfl (Args.cons rfl (Args.cons rfl (Args.cons rfl (Args.nil _)))) hp0 ?_
 refine GC.seq (GC.region ?_)
 refine GL.step (Stp.box (cs := [(.int .i64 W), (.int .i64 H), (.slice (some ⟨b, 0, none⟩) n cap)]) rfl rfl (by decide)) (fun bq1 _ => ?_)
 refine GL.nil (GE.thenN (GC.region ?_))
 refine GL.mv rfl (by decide) ?_
 refine GL.val (v := (.pointer (some ⟨bq1, 2, none⟩))) (Ex.cast (Ex.fieldAddr rfl Try.underlying43 rfl T.sz41 (by decide)) rfl) (by decide) ?_
 refine GL.val (Ex.load rfl T.ag41 (i := 0) rfl rfl) (by decide) ?_
 refine GL.mv rfl (by decide) ?_
 refine GL.step (Stp.call (vs := [(.pointer (some ⟨kb, 0, none⟩)), (.slice (some ⟨b, 0, none⟩) n cap), (.int .i64 m)]) rfl rfl T.own66 (by decide) (fun wc hw => book_s11 w0 _ kb m b n cap cs n1 b1 c1 b2 c2 xs1 sp1 xs2 sp2 wc hcap hb (by first | decide | omega) (by first | rfl | omega) (by first | rfl | omega) hc1 hc2 (Hp.pickT (A := [⟨bq1, [(.int .i64 W), (.int .i64 H), (.slice (some ⟨b, 0, none⟩) n cap)], 43, true⟩, ⟨kb, [(.slice (some ⟨b1, 0, none⟩) n1 c1), nilS, nilS, nilS, (.slice (some ⟨b2, 0, none⟩) n1 c2), nilS, nilS, nilS], 57, true⟩, ⟨b1, xs1 ++ sp1, 41, true⟩, ⟨b2, xs2 ++ sp2, 3, true⟩, ⟨b, cs, 28, true⟩]) (R := R) hw (idx := [1, 2, 3, 4, 0]) (by decide) rfl))) (fun xq2 hq3 => ?_)
 refine GL.nil ?_
 refine GC.end0 rfl (fun wN HN => ?_)
 exact HN.frm xq2 hq3 (by rfl) (ulC (ulC (ulC (ulC (ulS ulR)))))

theorem book_hold (kb n1 b1 c1 b2 c2 : Nat) (its : List It) (sp1 sp2 : List Value) (w : World) (hn1 : its.length = n1) (hn2 : n1 ≤ 4000000000000) (hit : ∀ t ∈ its, It.Ok w t) (hh : Has w [⟨kb, [(.slice (some ⟨b1, 0, none⟩) n1 c1), (.slice none 0 0), (.slice none 0 0), (.slice none 0 0), (.slice (some ⟨b2, 0, none⟩) n1 c2), (.slice none 0 0), (.slice none 0 0), (.slice none 0 0)], 57, false⟩, ⟨b1, its.map It.v ++ sp1, 41, false⟩, ⟨b2, its.map It.mv ++ sp2, 3, false⟩]) :
  Calls Try.prog 31 #[(.pointer (some ⟨kb, 0, none⟩))] w (Ret w (fun _ : Unit => True) (fun _ => .bool true) (fun _ => [])) := by
 refine enter (M := None) (L := [⟨kb, [(.slice (some ⟨b1, 0, none⟩) n1 c1), nilS, nilS, nilS, (.slice (some ⟨b2, 0, none⟩) n1 c2), nilS, nilS, nilS], 57, false⟩, ⟨b1, its.map It.v ++ sp1, 41, false⟩, ⟨b2, its.map It.mv ++ sp2, 3, false⟩]) (n := 182) (l := [(0, (.pointer (some ⟨kb, 0, none⟩)))]) Try.func31 rfl rfl (Args.cons rfl (Args.nil _)) (Hp.reads hh rfl) ?_
 refine GC.seq (GC.region ?_)
 refine GL.sg rfl (by decide) ?_
 refine GL.nil (GE.thenN (GC.seq (GC.seq (GC.region ?_))))
 refine GL.sg rfl (by decide) ?_
 refine GL.nil (GE.thenN (GC.block ?_))
 refine GC.loop (σ := Nat) (fun n => n ≤ n1) (fun n => [(0, (.pointer (some ⟨kb, 0, none⟩))), (3, (.int .i64 (((n : Nat) : Int))))]) (fun n => [⟨kb, [(.slice (some ⟨b1, 0, none⟩) n1 c1), nilS, nilS, nilS, (.slice (some ⟨b2, 0, none⟩) n1 c2), nilS, nilS, nilS], 57, false⟩, ⟨b1, its.map It.v ++ sp1, 41, false⟩, ⟨b2, its.map It.mv ++ sp2, 3, false⟩]) (fun n => n1 - n) (0) (Nat.zero_le _) ((sub_cons rfl ((sub_cons rfl ((sub_nil _)))))) (ulC (ulC (ulC ulN))) (fun n hp => ?_)
 refine GC.seq (GC.seq (GC.region ?_))
 refine GL.mv rfl (by decide) ?_
 refine GL.mv rfl (by decide) ?_
 refine GL.val (v := (.pointer (some ⟨kb, 0, none⟩))) (Ex.nilCheck rfl) (by decide) ?_
 refine GL.val (v := (.pointer (some ⟨kb, 0, none⟩))) (Ex.cast (Ex.fieldAddr rfl Try.underlying57 rfl T.sz50 (by decide)) rfl) (by decide) ?_
 refine GL.val (Ex.load rfl T.ag50 (i := 0) rfl rfl) (by decide) ?_
 refine GL.val (v := (.int .i64 ((n1 : Int)))) (Ex.len rfl Try.underlying50) (by decide) ?_
 refine GL.val (v := (.bool (decide ((((n : Nat) : Int)) < ((n1 : Int)))))) (Ex.lss rfl rfl) (by decide) ?_
 refine GL.nil (GE.thenN ?_)
 refine GC.cond rfl (fun hq1 => ?_) (fun hq1 => ?_)
 ·replace hq1 := of_decide_eq_true hq1
  refine GC.skip (GE.thenN (GC.seq (GC.block (GC.seq ?_))))
  have hnl : n < its.length := by omega
  have hio := it_ok hnl hit
  refine GC.region ?_
  refine GL.sg rfl (by decide) ?_
  refine GL.nil (GE.thenN (GC.block ?_))
  refine GC.loop (σ := Nat) (fun k => k ≤ (itAt its n).cap) (fun k => [(0, (.pointer (some ⟨kb, 0, none⟩))), (3, (.int .i64 (((n : Nat) : Int)))), (4, (.int .i64 (((k : Nat) : Int))))]) (fun k => [⟨kb, [(.slice (some ⟨b1, 0, none⟩) n1 c1), nilS, nilS, nilS, (.slice (some ⟨b2, 0, none⟩) n1 c2), nilS, nilS, nilS], 57, false⟩, ⟨b1, its.map It.v ++ sp1, 41, false⟩, ⟨b2, its.map It.mv ++ sp2, 3, false⟩]) (fun k => (itAt its n).cap - k) (0) (Nat.zero_le _) ((sub_cons rfl ((sub_cons rfl ((sub_cons rfl ((sub_nil _)))))))) (ulC (ulC (ulC ulN))) (fun k hp => ?_)
  refine GC.seq (GC.seq (GC.region ?_))
  refine GL.mv rfl (by decide) ?_
  refine GL.mv rfl (by decide) ?_
  refine GL.val (v := (.pointer (some ⟨kb, 0, none⟩))) (Ex.nilCheck rfl) (by decide) ?_
  refine GL.val (v := (.pointer (some ⟨kb, 0, none⟩))) (Ex.cast (Ex.fieldAddr rfl Try.underlying57 rfl T.sz50 (by decide)) rfl) (by decide) ?_
  refine GL.val (Ex.load rfl T.ag50 (i := 0) rfl rfl) (by decide) ?_
  refine GL.mv rfl (by decide) ?_
  refine GL.val (v := (.pointer (some ⟨b1, n, none⟩))) (Ex.cast (Ex.indexAddr rfl rfl Try.underlying50 T.sz41 (by omega) (by omega)) (by simp)) (by decide) ?_
  refine GL.val (Ex.load rfl T.ag41 (i := 1) rfl (it_at hnl sp1)) (by decide) ?_
  refine GL.val (v := (.int .i64 ((((itAt its n).cap) : Int)))) (Ex.len rfl Try.underlying41) (by decide) ?_
  refine GL.val (v := (.bool (decide ((((k : Nat) : Int)) < ((((itAt its n).cap) : Int)))))) (Ex.lss rfl rfl) (by decide) ?_
  refine GL.nil (GE.thenN ?_)
  refine GC.cond rfl (fun hq2 => ?_) (fun hq2 => ?_)
  ·replace hq2 := of_decide_eq_true hq2
   refine GC.skip (GE.thenN (GC.seq (GC.block (GC.seq ?_))))
   obtain ⟨bi, hbi, hri⟩ := hio.2.resolve_left (by omega)
   refine GC.draw [⟨kb, [(.slice (some ⟨b1, 0, none⟩) n1 c1), nilS, nilS, nilS, (.slice (some ⟨b2, 0, none⟩) n1 c2), nilS, nilS, nilS], 57, false⟩, ⟨b1, its.map It.v ++ sp1, 41, false⟩, ⟨b2, its.map It.mv ++ sp2, 3, false⟩] T.mixed (fuel := 22) rfl rfl ?_
   refine GH.tk 0 (v := (.pointer (some ⟨kb, 0, none⟩))) rfl (by kernel_rfl) (fun _ _ _ h => h) (Ex.move rfl) (ulC (ulC (ulC ulN))) (by decide) ?_
   refine GH.tk 4 (v := (.int .i64 (((n : Nat) : Int)))) rfl (by kernel_rfl) (fun _ _ _ h => h) (Ex.move rfl) (ulC (ulC (ulC ulN))) (by decide) ?_
   refine GH.tk 7 (v := (.int .i64 (((k : Nat) : Int)))) rfl (by kernel_rfl) (fun _ _ _ h => h) (Ex.move rfl) (ulC (ulC (ulC ulN))) (by decide) ?_
   refine GH.tk 10 (v := (.pointer (some ⟨kb, 0, none⟩))) rfl (by kernel_rfl) (fun _ _ _ h => h) (Ex.move rfl) (ulC (ulC (ulC ulN))) (by decide) ?_
   refine GH.tk 15 (v := (.int .i64 (((n : Nat) : Int)))) rfl (by kernel_rfl) (fun _ _ _ h => h) (Ex.move rfl) (ulC (ulC (ulC ulN))) (by decide) ?_
   refine GH.tk 18 (v := (.int .i64 (((k : Nat) : Int)))) rfl (by kernel_rfl) (fun _ _ _ h => h) (Ex.move rfl) (ulC (ulC (ulC ulN))) (by decide) ?_
   refine GH.many (rs := [1, 11]) (by kernel_rfl) (by simp) ?_
   refine GHs.cons rfl (Ex.wp (v := (.pointer (some ⟨kb, 0, none⟩))) (Ex.nilCheck rfl) (by decide)) (fun _ => (ulC (ulC (ulC ulN)))) (fun _ _ => ?_) ?_
   ·refine GH.tk 2 (v := (.pointer (some ⟨kb, 0, none⟩))) rfl (by kernel_rfl) (fun _ _ _ h => h) (Ex.cast (Ex.fieldAddr rfl Try.underlying57 rfl T.sz50 (by decide)) rfl) (ulC (ulC (ulC ulN))) (by decide) ?_
    refine GH.tk 3 (v := (.slice (some ⟨b1, 0, none⟩) n1 c1)) rfl (by kernel_rfl) (fun _ _ _ h => h) (Ex.load rfl T.ag50 (i := 0) rfl rfl) (ulC (ulC (ulC ulN))) (by decide) ?_
    refine GH.tk 5 (v := (.pointer (some ⟨b1, n, none⟩))) rfl (by kernel_rfl) (fun _ _ _ h => h) (Ex.cast (Ex.indexAddr rfl rfl Try.underlying50 T.sz41 (by omega) (by omega)) (by simp)) (ulC (ulC (ulC ulN))) (by decide) ?_
    refine GH.tk 6 (v := (.slice (some ⟨bi, 0, none⟩) ((itAt its n).cap) ((itAt its n).cap))) rfl (by kernel_rfl) (fun _ _ _ h => h) (Ex.load rfl T.ag41 (i := 1) rfl (by rw [← hbi]; exact it_at hnl sp1)) (ulC (ulC (ulC ulN))) (by decide) ?_
    refine GH.tk 8 (v := (.pointer (some ⟨bi, k, none⟩))) rfl (by kernel_rfl) (fun _ _ _ h => h) (Ex.cast (Ex.indexAddr rfl rfl Try.underlying41 T.sz28 (by omega) (by omega)) (by simp)) (ulC (ulC (ulC ulN))) (by decide) ?_
    refine GH.tk 9 (v := (.int .u32 (mk (itAt its n).m k))) rfl (by kernel_rfl) (fun _ _ _ h => h) (Ex.loadO rfl T.ag28 (Rd.mkat hri (by omega)) (fun x => x)) (ulC (ulC (ulC ulN))) (by decide) ?_
    refine GH.one 11 rfl (by kernel_rfl) (Ex.wp (v := (.pointer (some ⟨kb, 0, none⟩))) (Ex.nilCheck rfl) (by decide)) (fun _ => (ulC (ulC (ulC ulN)))) (fun _ _ => ?_)
    refine GH.tk 12 (v := (.pointer (some ⟨kb, 4, none⟩))) rfl (by kernel_rfl) (fun _ _ _ h => h) (Ex.cast (Ex.fieldAddr rfl Try.underlying57 rfl T.sz55 (by decide)) rfl) (ulC (ulC (ulC ulN))) (by decide) ?_
    refine GH.tk 13 (v := (.pointer (some ⟨kb, 4, none⟩))) rfl (by kernel_rfl) (fun _ _ _ h => h) (Ex.cast (Ex.indexArr (m := 4) rfl rfl Try.underlying55 T.sz54 (by decide) (by decide)) rfl) (ulC (ulC (ulC ulN))) (by decide) ?_
    refine GH.tk 14 (v := (.slice (some ⟨b2, 0, none⟩) n1 c2)) rfl (by kernel_rfl) (fun _ _ _ h => h) (Ex.load rfl T.ag54 (i := 0) rfl rfl) (ulC (ulC (ulC ulN))) (by decide) ?_
    refine GH.tk 16 (v := (.pointer (some ⟨b2, n, none⟩))) rfl (by kernel_rfl) (fun _ _ _ h => h) (Ex.cast (Ex.indexAddr rfl rfl Try.underlying54 T.sz3 (by omega) (by omega)) (by simp)) (ulC (ulC (ulC ulN))) (by decide) ?_
    refine GH.tk 17 (v := (.int .i64 ((itAt its n).m))) rfl (by kernel_rfl) (fun _ _ _ h => h) (Ex.load rfl T.ag3 (i := 2) rfl (it_mv hnl sp2)) (ulC (ulC (ulC ulN))) (by decide) ?_
    refine GH.one 19 rfl (by kernel_rfl) (Stp.callR (vs := [(.int .i64 ((itAt its n).m)), (.int .i64 (((k : Nat) : Int)))]) rfl rfl T.own69 (by decide) (fun wc hw => bkmark ((itAt its n).m) (((k : Nat) : Int)) wc)) (fun _ => (ulC (ulC (ulC ulN)))) (fun xq3 hq4 => ?_)
    refine GH.tk 20 (v := (.int .u32 (mk (itAt its n).m k))) rfl (by kernel_rfl) (fun _ _ _ h => h) (Ex.conv rfl Try.underlying3 Try.underlying28 (Z := mk (itAt its n).m k) (by rw [wu32]; rfl)) (ulC (ulC (ulC ulN))) (by decide) ?_
    refine GH.tk 21 (v := (.bool false)) rfl (by kernel_rfl) (fun _ _ _ h => h) (Ex.cast (Ex.neq rfl rfl) (congrArg Value.bool (decide_eq_false (by simp)))) (ulC (ulC (ulC ulN))) (by decide) ?_
    refine GH.done (by kernel_rfl) ?_
    refine GE.thenN ?_
    refine GC.cond rfl (fun hq5 => by cases hq5) (fun _ => ?_)
    refine GC.skip (GE.blockN (GE.thenN (GC.region ?_)))
    refine GL.mv rfl (by decide) ?_
    refine GL.val (v := (.int .i64 (((k + 1 : Nat) : Int)))) (Ex.add rfl rfl (Z := ((k + 1 : Nat) : Int)) (by rw [w64 (by have := hio.1; omega)]; rfl)) (by decide) ?_
    refine GL.sg rfl (by decide) ?_
    refine GL.nil (GE.thenN ?_)
    exact Head.mk (k + 1) (by omega) (by omega) ((sub_cons rfl ((sub_cons rfl ((sub_cons rfl ((sub_nil _)))))))) (ulC (ulC (ulC ulN)))
   refine GHs.cons rfl (Ex.wp (v := (.pointer (some ⟨kb, 0, none⟩))) (Ex.nilCheck rfl) (by decide)) (fun _ => (ulC (ulC (ulC ulN)))) (fun _ _ => ?_) ?_
   ·refine GH.tk 12 (v := (.pointer (some ⟨kb, 4, none⟩))) rfl (by kernel_rfl) (fun _ _ _ h => h) (Ex.cast (Ex.fieldAddr rfl Try.underlying57 rfl T.sz55 (by decide)) rfl) (ulC (ulC (ulC ulN))) (by decide) ?_
    refine GH.tk 13 (v := (.pointer (some ⟨kb, 4, none⟩))) rfl (by kernel_rfl) (fun _ _ _ h => h) (Ex.cast (Ex.indexArr (m := 4) rfl rfl Try.underlying55 T.sz54 (by decide) (by decide)) rfl) (ulC (ulC (ulC ulN))) (by decide) ?_
    refine GH.tk 14 (v := (.slice (some ⟨b2, 0, none⟩) n1 c2)) rfl (by kernel_rfl) (fun _ _ _ h => h) (Ex.load rfl T.ag54 (i := 0) rfl rfl) (ulC (ulC (ulC ulN))) (by decide) ?_
    refine GH.tk 16 (v := (.pointer (some ⟨b2, n, none⟩))) rfl (by kernel_rfl) (fun _ _ _ h => h) (Ex.cast (Ex.indexAddr rfl rfl Try.underlying54 T.sz3 (by omega) (by omega)) (by simp)) (ulC (ulC (ulC ulN))) (by decide) ?_
    refine GH.tk 17 (v := (.int .i64 ((itAt its n).m))) rfl (by kernel_rfl) (fun _ _ _ h => h) (Ex.load rfl T.ag3 (i := 2) rfl (it_mv hnl sp2)) (ulC (ulC (ulC ulN))) (by decide) ?_
    refine GH.many (rs := [1, 19]) (by kernel_rfl) (by simp) ?_
    refine GHs.cons rfl (Ex.wp (v := (.pointer (some ⟨kb, 0, none⟩))) (Ex.nilCheck rfl) (by decide)) (fun _ => (ulC (ulC (ulC ulN)))) (fun _ _ => ?_) ?_
    ·refine GH.tk 2 (v := (.pointer (some ⟨kb, 0, none⟩))) rfl (by kernel_rfl) (fun _ _ _ h => h) (Ex.cast (Ex.fieldAddr rfl Try.underlying57 rfl T.sz50 (by decide)) rfl) (ulC (ulC (ulC ulN))) (by decide) ?_
     refine GH.tk 3 (v := (.slice (some ⟨b1, 0, none⟩) n1 c1)) rfl (by kernel_rfl) (fun _ _ _ h => h) (Ex.load rfl T.ag50 (i := 0) rfl rfl) (ulC (ulC (ulC ulN))) (by decide) ?_
     refine GH.tk 5 (v := (.pointer (some ⟨b1, n, none⟩))) rfl (by kernel_rfl) (fun _ _ _ h => h) (Ex.cast (Ex.indexAddr rfl rfl Try.underlying50 T.sz41 (by omega) (by omega)) (by simp)) (ulC (ulC (ulC ulN))) (by decide) ?_
     refine GH.tk 6 (v := (.slice (some ⟨bi, 0, none⟩) ((itAt its n).cap) ((itAt its n).cap))) rfl (by kernel_rfl) (fun _ _ _ h => h) (Ex.load rfl T.ag41 (i := 1) rfl (by rw [← hbi]; exact it_at hnl sp1)) (ulC (ulC (ulC ulN))) (by decide) ?_
     refine GH.tk 8 (v := (.pointer (some ⟨bi, k, none⟩))) rfl (by kernel_rfl) (fun _ _ _ h => h) (Ex.cast (Ex.indexAddr rfl rfl Try.underlying41 T.sz28 (by omega) (by omega)) (by simp)) (ulC (ulC (ulC ulN))) (by decide) ?_
     refine GH.tk 9 (v := (.int .u32 (mk (itAt its n).m k))) rfl (by kernel_rfl) (fun _ _ _ h => h) (Ex.loadO rfl T.ag28 (Rd.mkat hri (by omega)) (fun x => x)) (ulC (ulC (ulC ulN))) (by decide) ?_
     refine GH.one 19 rfl (by kernel_rfl) (Stp.callR (vs := [(.int .i64 ((itAt its n).m)), (.int .i64 (((k : Nat) : Int)))]) rfl rfl T.own69 (by decide) (fun wc hw => bkmark ((itAt its n).m) (((k : Nat) : Int)) wc)) (fun _ => (ulC (ulC (ulC ulN)))) (fun xq6 hq7 => ?_)
     refine GH.tk 20 (v := (.int .u32 (mk (itAt its n).m k))) rfl (by kernel_rfl) (fun _ _ _ h => h) (Ex.conv rfl Try.underlying3 Try.underlying28 (Z := mk (itAt its n).m k) (by rw [wu32]; rfl)) (ulC (ulC (ulC ulN))) (by decide) ?_
     refine GH.tk 21 (v := (.bool false)) rfl (by kernel_rfl) (fun _ _ _ h => h) (Ex.cast (Ex.neq rfl rfl) (congrArg Value.bool (decide_eq_false (by simp)))) (ulC (ulC (ulC ulN))) (by decide) ?_
     refine GH.done (by kernel_rfl) ?_
     refine GE.thenN ?_
     refine GC.cond rfl (fun hq8 => by cases hq8) (fun _ => ?_)
     refine GC.skip (GE.blockN (GE.thenN (GC.region ?_)))
     refine GL.mv rfl (by decide) ?_
     refine GL.val (v := (.int .i64 (((k + 1 : Nat) : Int)))) (Ex.add rfl rfl (Z := ((k + 1 : Nat) : Int)) (by rw [w64 (by have := hio.1; omega)]; rfl)) (by decide) ?_
     refine GL.sg rfl (by decide) ?_
     refine GL.nil (GE.thenN ?_)
     exact Head.mk (k + 1) (by omega) (by omega) ((sub_cons rfl ((sub_cons rfl ((sub_cons rfl ((sub_nil _)))))))) (ulC (ulC (ulC ulN)))
    refine GHs.cons rfl (Stp.callR (vs := [(.int .i64 ((itAt its n).m)), (.int .i64 (((k : Nat) : Int)))]) rfl rfl T.own69 (by decide) (fun wc hw => bkmark ((itAt its n).m) (((k : Nat) : Int)) wc)) (fun _ => (ulC (ulC (ulC ulN)))) (fun xq9 hq10 => ?_) ?_
    ·refine GH.tk 20 (v := (.int .u32 (mk (itAt its n).m k))) rfl (by kernel_rfl) (fun _ _ _ h => h) (Ex.conv rfl Try.underlying3 Try.underlying28 (Z := mk (itAt its n).m k) (by rw [wu32]; rfl)) (ulC (ulC (ulC ulN))) (by decide) ?_
     refine GH.one 1 rfl (by kernel_rfl) (Ex.wp (v := (.pointer (some ⟨kb, 0, none⟩))) (Ex.nilCheck rfl) (by decide)) (fun _ => (ulC (ulC (ulC ulN)))) (fun _ _ => ?_)
     refine GH.tk 2 (v := (.pointer (some ⟨kb, 0, none⟩))) rfl (by kernel_rfl) (fun _ _ _ h => h) (Ex.cast (Ex.fieldAddr rfl Try.underlying57 rfl T.sz50 (by decide)) rfl) (ulC (ulC (ulC ulN))) (by decide) ?_
     refine GH.tk 3 (v := (.slice (some ⟨b1, 0, none⟩) n1 c1)) rfl (by kernel_rfl) (fun _ _ _ h => h) (Ex.load rfl T.ag50 (i := 0) rfl rfl) (ulC (ulC (ulC ulN))) (by decide) ?_
     refine GH.tk 5 (v := (.pointer (some ⟨b1, n, none⟩))) rfl (by kernel_rfl) (fun _ _ _ h => h) (Ex.cast (Ex.indexAddr rfl rfl Try.underlying50 T.sz41 (by omega) (by omega)) (by simp)) (ulC (ulC (ulC ulN))) (by decide) ?_
     refine GH.tk 6 (v := (.slice (some ⟨bi, 0, none⟩) ((itAt its n).cap) ((itAt its n).cap))) rfl (by kernel_rfl) (fun _ _ _ h => h) (Ex.load rfl T.ag41 (i := 1) rfl (by rw [← hbi]; exact it_at hnl sp1)) (ulC (ulC (ulC ulN))) (by decide) ?_
     refine GH.tk 8 (v := (.pointer (some ⟨bi, k, none⟩))) rfl (by kernel_rfl) (fun _ _ _ h => h) (Ex.cast (Ex.indexAddr rfl rfl Try.underlying41 T.sz28 (by omega) (by omega)) (by simp)) (ulC (ulC (ulC ulN))) (by decide) ?_
     refine GH.tk 9 (v := (.int .u32 (mk (itAt its n).m k))) rfl (by kernel_rfl) (fun _ _ _ h => h) (Ex.loadO rfl T.ag28 (Rd.mkat hri (by omega)) (fun x => x)) (ulC (ulC (ulC ulN))) (by decide) ?_
     refine GH.tk 21 (v := (.bool false)) rfl (by kernel_rfl) (fun _ _ _ h => h) (Ex.cast (Ex.neq rfl rfl) (congrArg Value.bool (decide_eq_false (by simp)))) (ulC (ulC (ulC ulN))) (by decide) ?_
     refine GH.done (by kernel_rfl) ?_
     refine GE.thenN ?_
     refine GC.cond rfl (fun hq11 => by cases hq11) (fun _ => ?_)
     refine GC.skip (GE.blockN (GE.thenN (GC.region ?_)))
     refine GL.mv rfl (by decide) ?_
     refine GL.val (v := (.int .i64 (((k + 1 : Nat) : Int)))) (Ex.add rfl rfl (Z := ((k + 1 : Nat) : Int)) (by rw [w64 (by have := hio.1; omega)]; rfl)) (by decide) ?_
     refine GL.sg rfl (by decide) ?_
     refine GL.nil (GE.thenN ?_)
     exact Head.mk (k + 1) (by omega) (by omega) ((sub_cons rfl ((sub_cons rfl ((sub_cons rfl ((sub_nil _)))))))) (ulC (ulC (ulC ulN)))
    exact GHs.nil
   exact GHs.nil
  ·replace hq2 := of_decide_eq_false hq2
   refine GC.exit (GE.thenE (GE.thenE (GE.blockE (GE.blockN (GE.thenN (GC.region ?_))))))
   refine GL.mv rfl (by decide) ?_
   refine GL.val (v := (.int .i64 (((n + 1 : Nat) : Int)))) (Ex.add rfl rfl (Z := ((n + 1 : Nat) : Int)) (by rw [w64 (by omega)]; rfl)) (by decide) ?_
   refine GL.sg rfl (by decide) ?_
   refine GL.nil (GE.thenN ?_)
   exact Head.mk (n + 1) (by omega) (by omega) ((sub_cons rfl ((sub_cons rfl ((sub_nil _)))))) (ulC (ulC (ulC ulN)))
 ·replace hq1 := of_decide_eq_false hq1
  refine GC.exit (GE.thenE (GE.thenE (GE.blockE (GE.thenN (GC.seq (GC.seq (GC.region ?_)))))))
  refine GL.sg rfl (by decide) ?_
  refine GL.nil (GE.thenN (GC.block ?_))
  refine GC.unroll 1 ?_
  refine GE.round (GC.seq (GC.seq (GC.region ?_)))
  refine GL.mv rfl (by decide) ?_
  refine GL.mv rfl (by decide) ?_
  refine GL.val (v := (.pointer (some ⟨kb, 0, none⟩))) (Ex.nilCheck rfl) (by decide) ?_
  refine GL.val (v := (.pointer (some ⟨kb, 1, none⟩))) (Ex.cast (Ex.fieldAddr rfl Try.underlying57 rfl T.sz51 (by decide)) rfl) (by decide) ?_
  refine GL.val (Ex.load rfl T.ag51 (i := 0) rfl rfl) (by decide) ?_
  refine GL.val (v := (.int .i64 0)) (Ex.len rfl Try.underlying51) (by decide) ?_
  refine GL.val (v := (.bool false)) (Ex.cast (Ex.lss rfl rfl) rfl) (by decide) ?_
  refine GL.nil (GE.thenN ?_)
  refine GC.cond rfl (fun hq12 => by cases hq12) (fun _ => ?_)
  refine GC.exit (GE.thenE (GE.thenE (GE.blockE (GE.thenN (GC.seq (GC.seq (GC.region ?_)))))))
  refine GL.sg rfl (by decide) ?_
  refine GL.nil (GE.thenN (GC.block ?_))
  refine GC.unroll 1 ?_
  refine GE.round (GC.seq (GC.seq (GC.region ?_)))
  refine GL.mv rfl (by decide) ?_
  refine GL.mv rfl (by decide) ?_
  refine GL.val (v := (.pointer (some ⟨kb, 0, none⟩))) (Ex.nilCheck rfl) (by decide) ?_
  refine GL.val (v := (.pointer (some ⟨kb, 2, none⟩))) (Ex.cast (Ex.fieldAddr rfl Try.underlying57 rfl T.sz52 (by decide)) rfl) (by decide) ?_
  refine GL.val (Ex.load rfl T.ag52 (i := 0) rfl rfl) (by decide) ?_
  refine GL.val (v := (.int .i64 0)) (Ex.len rfl Try.underlying52) (by decide) ?_
  refine GL.val (v := (.bool false)) (Ex.cast (Ex.lss rfl rfl) rfl) (by decide) ?_
  refine GL.nil (GE.thenN ?_)
  refine GC.cond rfl (fun hq13 => by cases hq13) (fun _ => ?_)
  refine GC.exit (GE.thenE (GE.thenE (GE.blockE (GE.thenN (GC.seq (GC.seq (GC.region ?_)))))))
  refine GL.sg rfl (by decide) ?_
  refine GL.nil (GE.thenN (GC.block ?_))
  refine GC.unroll 1 ?_
  refine GE.round (GC.seq (GC.seq (GC.region ?_)))
  refine GL.mv rfl (by decide) ?_
  refine GL.mv rfl (by decide) ?_
  refine GL.val (v := (.pointer (some ⟨kb, 0, none⟩))) (Ex.nilCheck rfl) (by decide) ?_
  refine GL.val (v := (.pointer (some ⟨kb, 3, none⟩))) (Ex.cast (Ex.fieldAddr rfl Try.underlying57 rfl T.sz53 (by decide)) rfl) (by decide) ?_
  refine GL.val (Ex.load rfl T.ag53 (i := 0) rfl rfl) (by decide) ?_
  refine GL.val (v := (.int .i64 0)) (Ex.len rfl Try.underlying53) (by decide) ?_
  refine GL.val (v := (.bool false)) (Ex.cast (Ex.lss rfl rfl) rfl) (by decide) ?_
  refine GL.nil (GE.thenN ?_)
  refine GC.cond rfl (fun hq14 => by cases hq14) (fun _ => ?_)
  refine GC.exit (GE.thenE (GE.thenE (GE.blockE (GE.thenN (GC.seq (GC.region ?_))))))
  refine GL.sg rfl (by decide) ?_
  refine GL.nil (GE.thenN (GC.ret ?_))
  refine GC.ret1 rfl (Rv.tmp rfl) (fun wN HN => ?_)
  exact HN.ret () trivial rfl (List.nil_sublist _) rfl

theorem rm_plane (w0 : World) (R : List Blk) (rb0 : Nat) (W H : Int) (r : Rm) (n cap : Nat) (ad : Option Addr) (xs : List Int) (w : World) (hs : Lst w0 ad n xs) (hb : n ≤ 35184372087808) (hr : r.Ok) (hl : r.its.length ≤ 4000000000000) (h0 : r.rb = rb0) (hp0 : Hp None w0 (r.blks 60 41 28 ++ R) w) :
  Calls Try.prog 21 #[(.pointer (some ⟨rb0, 0, none⟩)), .agg #[.int .i64 W, .int .i64 H, .slice ad n cap]] w
   (Frm (σ := Rm × RIt) None w0 (fun x => x.1.Ok ∧ x.1.rb = rb0 ∧ x.1.its = r.its ++ [x.2] ∧ x.2.xs = xs ∧ x.2.n = n) (fun x => .agg #[.int .i64 W, .int .i64 H, .slice (some ⟨x.2.a, 0, none⟩) n (n + 5)]) (fun x => x.1.blks 60 41 28 ++ R)) := by
 subst h0
 obtain ⟨rb, its, b1, c1, s1, b2, c2, s2⟩ := r
 cases its with
 | nil =>
  refine (room_p0 w0 R W H rb n cap ad xs w hs hb hp0).mono fun e w' ⟨x, he, hp, h⟩ => ?_
  refine ⟨(⟨rb, [⟨x.2.2.2, n, xs, x.2.1.1, x.2.1.2.1, x.2.1.2.2⟩], x.2.2.1.1, x.2.2.1.2.1, x.2.2.1.2.2, x.1.1, x.1.2.1, x.1.2.2⟩, ⟨x.2.2.2, n, xs, x.2.1.1, x.2.1.2.1, x.2.1.2.2⟩), he, ⟨⟨Or.inr ⟨hp.1, hp.2⟩, fun t ht => ?_⟩, rfl, rfl, rfl, rfl⟩, ?_⟩
  ·rw [List.mem_singleton.1 ht]; exact ⟨hs.1, hb⟩
  ·have h2 := Hp.pickT (A := [_, _, _, _, _]) (R := R) (idx := [4, 2, 0, 1, 3]) h (by decide) rfl
   exact h2
 | cons t0 its =>
  have hc := hr.1.resolve_left (fun h => by cases h)
  have hl' : (t0 :: its).length ≤ 4000000000000 := hl
  have h0 : Hp None w0 (⟨rb, [.slice (some ⟨b1, 0, none⟩) (t0 :: its).length c1, .slice (some ⟨b2, 0, none⟩) (t0 :: its).length c2, .slice none 0 0, .slice none 0 0, .slice none 0 0, .slice none 0 0, .slice none 0 0, .slice none 0 0], 60, true⟩ :: ⟨b1, (t0 :: its).map RIt.v1 ++ s1, 41, true⟩ :: ⟨b2, (t0 :: its).map RIt.v2 ++ s2, 41, true⟩ :: (rblks 28 (t0 :: its) ++ R)) w := by
   have h1 := hp0
   unfold Rm.blks at h1
   rw [List.cons_append, List.append_assoc] at h1
   exact h1
  refine (room_p1 w0 (rblks 28 (t0 :: its) ++ R) W H rb n cap ad xs (t0 :: its).length b1 c1 b2 c2 ((t0 :: its).map RIt.v1) s1 ((t0 :: its).map RIt.v2) s2 w hs hb hl' (List.length_map _) (List.length_map _) hc.1 hc.2 h0).mono fun e w' ⟨x, he, hp, h⟩ => ?_
  refine ⟨(⟨rb, (t0 :: its) ++ [⟨x.2.2.2, n, xs, x.2.1.1, x.2.1.2.1, x.2.1.2.2⟩], x.2.2.1.1, x.2.2.1.2.1, x.2.2.1.2.2, x.1.1, x.1.2.1, x.1.2.2⟩, ⟨x.2.2.2, n, xs, x.2.1.1, x.2.1.2.1, x.2.1.2.2⟩), he, ⟨⟨Or.inr ⟨?_, ?_⟩, fun t ht => ?_⟩, rfl, rfl, rfl, rfl⟩, ?_⟩
  ·rw [List.map_append]; exact hp.1
  ·rw [List.map_append]; exact hp.2
  ·rcases List.mem_append.1 ht with ht | ht
   ·exact hr.2 t ht
   ·rw [List.mem_singleton.1 ht]; exact ⟨hs.1, hb⟩
  ·have e : ∀ t : RIt, Rm.blks 60 41 28 ⟨rb, (t0 :: its) ++ [t], x.2.2.1.1, x.2.2.1.2.1, x.2.2.1.2.2, x.1.1, x.1.2.1, x.1.2.2⟩ ++ R = (⟨rb, [.slice (some ⟨x.2.2.1.1, 0, none⟩) ((t0 :: its).length + 1) x.2.2.1.2.1, .slice (some ⟨x.1.1, 0, none⟩) ((t0 :: its).length + 1) x.1.2.1, .slice none 0 0, .slice none 0 0, .slice none 0 0, .slice none 0 0, .slice none 0 0, .slice none 0 0], 60, true⟩ :: ⟨x.2.2.1.1, (t0 :: its).map RIt.v1 ++ [t.v1] ++ x.2.2.1.2.2, 41, true⟩ :: ⟨x.1.1, (t0 :: its).map RIt.v2 ++ [t.v2] ++ x.1.2.2, 41, true⟩ :: (rblks 28 (t0 :: its) ++ (t.blks 28 ++ R))) := fun t => by
    simp [Rm.blks, Rm.cs, Rm.rows, rblks_app, rblks, nilS, List.append_assoc]
   refine Eq.mpr (congrArg (fun L => Hp None w0 L w') (e ⟨x.2.2.2, n, xs, x.2.1.1, x.2.1.2.1, x.2.1.2.2⟩)) ?_
   have h2 := Hp.segsD (A := [[_], [_], [_], [_], [_], rblks 28 (t0 :: its), R]) (idx := [4, 2, 0, 5, 1, 3, 6]) 7 [] (by simpa using h) rfl (by decide) rfl
   simpa [RIt.blks, RIt.v1, RIt.v2] using h2

theorem bk_plane (w0 : World) (R : List Blk) (kb0 : Nat) (W H : Int) (bk : Bk) (o : Option Nq) (m : Int) (w : World) (ho : poOk o) (hk : bk.Ok) (hl : bk.its.length ≤ 4000000000000) (h0 : bk.kb = kb0) (hp0 : Hp None w0 (bk.blks 57 41 3 28 ++ (poB 28 o ++ R)) w) :
  Calls Try.prog 28 #[(.pointer (some ⟨kb0, 0, none⟩)), .agg #[.int .i64 W, .int .i64 H, .slice (poA o) (poN o) (poC o)], .int .i64 m] w
   (Frm (σ := Bk) None w0 (fun x => x.Ok ∧ x.kb = kb0 ∧ x.its = bk.its ++ [⟨poA o, poC o, m⟩]) (fun _ => .tuple #[]) (fun x => x.blks 57 41 3 28 ++ R)) := by
 subst h0
 obtain ⟨kb, its, b1, c1, s1, b2, c2, s2⟩ := bk
 cases o with
 | none =>
  cases its with
  | nil =>
   refine (book_p00 w0 R W H kb m w hp0).mono fun e w' ⟨x, he, hp, h⟩ => ?_
   refine ⟨⟨kb, [⟨none, 0, m⟩], x.2.1, x.2.2.1, x.2.2.2, x.1.1, x.1.2.1, x.1.2.2⟩, he, ⟨⟨Or.inr ⟨hp.1, hp.2⟩, fun t ht => ?_⟩, rfl, rfl⟩, ?_⟩
   ·rw [List.mem_singleton.1 ht]; exact ⟨Nat.zero_le _, Or.inl rfl⟩
   ·have h2 := Hp.pickT (A := [_, _, _]) (R := R) (idx := [2, 1, 0]) h (by decide) rfl
    exact h2
  | cons t0 its =>
   have hc := hk.1.resolve_left (fun h => by cases h)
   have h0 : Hp None w0 (⟨kb, [.slice (some ⟨b1, 0, none⟩) (t0 :: its).length c1, .slice none 0 0, .slice none 0 0, .slice none 0 0, .slice (some ⟨b2, 0, none⟩) (t0 :: its).length c2, .slice none 0 0, .slice none 0 0, .slice none 0 0], 57, true⟩ :: ⟨b1, (t0 :: its).map It.v ++ s1, 41, true⟩ :: ⟨b2, (t0 :: its).map It.mv ++ s2, 3, true⟩ :: (iblks 28 (t0 :: its) ++ R)) w := by
    have h1 := hp0
    unfold Bk.blks at h1
    rw [List.cons_append, List.append_assoc] at h1
    exact h1
   refine (book_p10 w0 (iblks 28 (t0 :: its) ++ R) W H kb m (t0 :: its).length b1 c1 b2 c2 ((t0 :: its).map It.v) s1 ((t0 :: its).map It.mv) s2 w hl (List.length_map _) (List.length_map _) hc.1 hc.2 h0).mono fun e w' ⟨x, he, hp, h⟩ => ?_
   refine ⟨⟨kb, (t0 :: its) ++ [⟨none, 0, m⟩], x.2.1, x.2.2.1, x.2.2.2, x.1.1, x.1.2.1, x.1.2.2⟩, he, ⟨⟨Or.inr ⟨?_, ?_⟩, fun t ht => ?_⟩, rfl, rfl⟩, ?_⟩
   ·rw [List.map_append]; exact hp.1
   ·rw [List.map_append]; exact hp.2
   ·rcases List.mem_append.1 ht with ht | ht
    ·exact hk.2 t ht
    ·rw [List.mem_singleton.1 ht]; exact ⟨Nat.zero_le _, Or.inl rfl⟩
   ·have e : Bk.blks 57 41 3 28 ⟨kb, (t0 :: its) ++ [⟨none, 0, m⟩], x.2.1, x.2.2.1, x.2.2.2, x.1.1, x.1.2.1, x.1.2.2⟩ ++ R = (⟨kb, [.slice (some ⟨x.2.1, 0, none⟩) ((t0 :: its).length + 1) x.2.2.1, .slice none 0 0, .slice none 0 0, .slice none 0 0, .slice (some ⟨x.1.1, 0, none⟩) ((t0 :: its).length + 1) x.1.2.1, .slice none 0 0, .slice none 0 0, .slice none 0 0], 57, true⟩ :: ⟨x.2.1, (t0 :: its).map It.v ++ [It.v ⟨none, 0, m⟩] ++ x.2.2.2, 41, true⟩ :: ⟨x.1.1, (t0 :: its).map It.mv ++ [It.mv ⟨none, 0, m⟩] ++ x.1.2.2, 3, true⟩ :: (iblks 28 (t0 :: its) ++ (It.blk 28 ⟨none, 0, m⟩ ++ R))) := by
     simp [Bk.blks, Bk.cs, Bk.rows, iblks_app, iblks, nilS, List.append_assoc]
    refine Eq.mpr (congrArg (fun L => Hp None w0 L w') e) ?_
    have h2 := Hp.segsD (A := [[_], [_], [_], iblks 28 (t0 :: its), R]) (idx := [2, 1, 0, 3, 4]) 5 [] (by simpa using h) rfl (by decide) rfl
    simpa [It.blk, It.v, It.mv] using h2
 | some q =>
  cases its with
  | nil =>
   refine (book_p01 w0 R W H kb m q.b q.xs.length q.cap (q.xs.map u32 ++ q.sp) w (by have := ho.1; omega) ho.2 hp0).mono fun e w' ⟨x, he, hp, h⟩ => ?_
   refine ⟨⟨kb, [⟨some ⟨q.b, 0, none⟩, q.cap, m⟩], x.2.1, x.2.2.1, x.2.2.2, x.1.1, x.1.2.1, x.1.2.2⟩, he, ⟨⟨Or.inr ⟨hp.1, hp.2⟩, fun t ht => ?_⟩, rfl, rfl⟩, ?_⟩
   ·rw [List.mem_singleton.1 ht]; exact ⟨ho.2, Or.inr ⟨q.b, rfl⟩⟩
   ·have h2 := Hp.pickT (A := [_, _, _, _]) (R := R) (idx := [2, 1, 0, 3]) h (by decide) rfl
    exact h2
  | cons t0 its =>
   have hc := hk.1.resolve_left (fun h => by cases h)
   have h0 : Hp None w0 (⟨kb, [.slice (some ⟨b1, 0, none⟩) (t0 :: its).length c1, .slice none 0 0, .slice none 0 0, .slice none 0 0, .slice (some ⟨b2, 0, none⟩) (t0 :: its).length c2, .slice none 0 0, .slice none 0 0, .slice none 0 0], 57, true⟩ :: ⟨b1, (t0 :: its).map It.v ++ s1, 41, true⟩ :: ⟨b2, (t0 :: its).map It.mv ++ s2, 3, true⟩ :: ⟨q.b, q.xs.map u32 ++ q.sp, 28, true⟩ :: (iblks 28 (t0 :: its) ++ R)) w := by
    have h1 := hp0
    unfold Bk.blks at h1
    rw [List.cons_append, List.append_assoc] at h1
    have h3 : Hp None w0 (⟨kb, [.slice (some ⟨b1, 0, none⟩) (t0 :: its).length c1, .slice none 0 0, .slice none 0 0, .slice none 0 0, .slice (some ⟨b2, 0, none⟩) (t0 :: its).length c2, .slice none 0 0, .slice none 0 0, .slice none 0 0], 57, true⟩ :: ⟨b1, (t0 :: its).map It.v ++ s1, 41, true⟩ :: ⟨b2, (t0 :: its).map It.mv ++ s2, 3, true⟩ :: (iblks 28 (t0 :: its) ++ (⟨q.b, q.xs.map u32 ++ q.sp, 28, true⟩ :: R))) w := h1
    have h2 := Hp.segsD (A := [[_], [_], [_], iblks 28 (t0 :: its), [_], R]) (idx := [0, 1, 2, 4, 3, 5]) 6 [] (by simpa using h3) rfl (by decide) rfl
    simpa using h2
   refine (book_p11 w0 (iblks 28 (t0 :: its) ++ R) W H kb m q.b q.xs.length q.cap (q.xs.map u32 ++ q.sp) (t0 :: its).length b1 c1 b2 c2 ((t0 :: its).map It.v) s1 ((t0 :: its).map It.mv) s2 w (by have := ho.1; omega) ho.2 hl (List.length_map _) (List.length_map _) hc.1 hc.2 h0).mono fun e w' ⟨x, he, hp, h⟩ => ?_
   refine ⟨⟨kb, (t0 :: its) ++ [⟨some ⟨q.b, 0, none⟩, q.cap, m⟩], x.2.1, x.2.2.1, x.2.2.2, x.1.1, x.1.2.1, x.1.2.2⟩, he, ⟨⟨Or.inr ⟨?_, ?_⟩, fun t ht => ?_⟩, rfl, rfl⟩, ?_⟩
   ·rw [List.map_append]; exact hp.1
   ·rw [List.map_append]; exact hp.2
   ·rcases List.mem_append.1 ht with ht | ht
    ·exact hk.2 t ht
    ·rw [List.mem_singleton.1 ht]; exact ⟨ho.2, Or.inr ⟨q.b, rfl⟩⟩
   ·have e : Bk.blks 57 41 3 28 ⟨kb, (t0 :: its) ++ [⟨some ⟨q.b, 0, none⟩, q.cap, m⟩], x.2.1, x.2.2.1, x.2.2.2, x.1.1, x.1.2.1, x.1.2.2⟩ ++ R = (⟨kb, [.slice (some ⟨x.2.1, 0, none⟩) ((t0 :: its).length + 1) x.2.2.1, .slice none 0 0, .slice none 0 0, .slice none 0 0, .slice (some ⟨x.1.1, 0, none⟩) ((t0 :: its).length + 1) x.1.2.1, .slice none 0 0, .slice none 0 0, .slice none 0 0], 57, true⟩ :: ⟨x.2.1, (t0 :: its).map It.v ++ [It.v ⟨some ⟨q.b, 0, none⟩, q.cap, m⟩] ++ x.2.2.2, 41, true⟩ :: ⟨x.1.1, (t0 :: its).map It.mv ++ [It.mv ⟨some ⟨q.b, 0, none⟩, q.cap, m⟩] ++ x.1.2.2, 3, true⟩ :: (iblks 28 (t0 :: its) ++ (It.blk 28 ⟨some ⟨q.b, 0, none⟩, q.cap, m⟩ ++ R))) := by
     simp [Bk.blks, Bk.cs, Bk.rows, iblks_app, iblks, nilS, List.append_assoc]
    refine Eq.mpr (congrArg (fun L => Hp None w0 L w') e) ?_
    have h2 := Hp.segsD (A := [[_], [_], [_], [_], iblks 28 (t0 :: its), R]) (idx := [2, 1, 0, 4, 3, 5]) 6 [] (by simpa using h) rfl (by decide) rfl
    simpa [It.blk, It.v, It.mv] using h2

theorem room_planes_0 (w0 : World) (R : List Blk) (rb cap : Nat) (ad : Option Addr) (ps : List Pn) (w : World) (hp0 : Hp None w0 ((((Rm.no rb)).blks 60 41 28 ++ R)) w) :
  Calls Try.prog 57 #[(.pointer (some ⟨rb, 0, none⟩)), (.slice ad 0 cap)] w (Frm (σ := Rm × Nat) None w0 (fun x => x.1.Ok ∧ x.1.rb = rb ∧ RFor x.1.its ps ∧ x.1.its.length = 0) (fun x => .slice (some ⟨x.2, 0, none⟩) 0 (0 + 5)) (fun x => ⟨x.2, pcs (lpl x.1.its ps ++ List.replicate 5 zPn), 43, true⟩ :: (x.1.blks 60 41 28 ++ R))) := by
 refine enterF (w0 := w0) (M := None) (L := ((((Rm.no rb)).blks 60 41 28 ++ R))) (n := 29) (l := [(0, (.pointer (some ⟨rb, 0, none⟩))), (1, (.slice ad 0 cap))]) Try.func57 rfl rfl (Args.cons rfl (Args.cons rfl (Args.nil _))) hp0 ?_
 refine GC.seq (GC.region ?_)
 refine GL.sg rfl (by decide) ?_
 refine GL.nil (GE.thenN (GC.seq (GC.region ?_)))
 refine GL.mv rfl (by decide) ?_
 refine GL.val (v := (.int .i64 0)) (Ex.len rfl Try.underlying23) (by decide) ?_
 refine GL.mv rfl (by decide) ?_
 refine GL.val (v := (.int .i64 0)) (Ex.len rfl Try.underlying23) (by decide) ?_
 refine GL.val (v := (.int .i64 5)) (Ex.add rfl rfl (Z := 5) (by decide)) (by decide) ?_
 refine GL.step (Stp.makeSlice (a1 := 0) (c := 0 + 5) rfl rfl Try.underlying23 T.zr43 T.sz43 T.by43 rfl (Nat.le_add_right _ _) (by omega) (by omega) (by decide)) (fun bq1 _ => ?_)
 rw [made_pl']
 refine GL.sg rfl (by decide) ?_
 refine GL.nil (GE.thenN (GC.seq (GC.seq (GC.region ?_))))
 refine GL.sg rfl (by decide) ?_
 refine GL.nil (GE.thenN (GC.block ?_))
 refine GC.unroll 1 ?_
 refine GE.round (GC.seq (GC.seq (GC.region ?_)))
 refine GL.mv rfl (by decide) ?_
 refine GL.mv rfl (by decide) ?_
 refine GL.val (v := (.int .i64 0)) (Ex.len rfl Try.underlying23) (by decide) ?_
 refine GL.val (v := (.bool false)) (Ex.cast (Ex.lss rfl rfl) rfl) (by decide) ?_
 refine GL.nil (GE.thenN ?_)
 refine GC.cond rfl (fun hq2 => by cases hq2) (fun _ => ?_)
 refine GC.exit (GE.thenE (GE.thenE (GE.blockE (GE.thenN (GC.seq (GC.region ?_))))))
 refine GL.mv rfl (by decide) ?_
 refine GL.sg rfl (by decide) ?_
 refine GL.nil (GE.thenN (GC.ret ?_))
 refine GC.ret1 rfl (Rv.tmp rfl) (fun wN HN => ?_)
 exact HN.frm (Rm.no rb, bq1) ⟨Rm.no_ok rb, rfl, trivial, rfl⟩ (by rfl) (ulC ulR)

theorem room_planes_b (w0 : World) (R : List Blk) (rb b o n cap : Nat) (ps : List Pn) (w : World) (hps : Pns w0 b o ps) (hn : n = ps.length) (hnb : n ≤ 3600000000000) (hp0 : Hp None w0 ((((Rm.no rb)).blks 60 41 28 ++ R)) w) :
  Calls Try.prog 57 #[(.pointer (some ⟨rb, 0, none⟩)), (.slice (some ⟨b, o, none⟩) n cap)] w (Frm (σ := Rm × Nat) None w0 (fun x => x.1.Ok ∧ x.1.rb = rb ∧ RFor x.1.its ps ∧ x.1.its.length = n) (fun x => .slice (some ⟨x.2, 0, none⟩) n (n + 5)) (fun x => ⟨x.2, pcs (lpl x.1.its ps ++ List.replicate 5 zPn), 43, true⟩ :: (x.1.blks 60 41 28 ++ R))) := by
 refine enterF (w0 := w0) (M := None) (L := ((((Rm.no rb)).blks 60 41 28 ++ R))) (n := 29) (l := [(0, (.pointer (some ⟨rb, 0, none⟩))), (1, (.slice (some ⟨b, o, none⟩) n cap))]) Try.func57 rfl rfl (Args.cons rfl (Args.cons rfl (Args.nil _))) hp0 ?_
 refine GC.seq (GC.region ?_)
 refine GL.sg rfl (by decide) ?_
 refine GL.nil (GE.thenN (GC.seq (GC.region ?_)))
 refine GL.mv rfl (by decide) ?_
 refine GL.val (v := (.int .i64 ((n : Int)))) (Ex.len rfl Try.underlying23) (by decide) ?_
 refine GL.mv rfl (by decide) ?_
 refine GL.val (v := (.int .i64 ((n : Int)))) (Ex.len rfl Try.underlying23) (by decide) ?_
 refine GL.val (v := (.int .i64 (((n : Int)) + 5))) (Ex.add rfl rfl (Z := ((n : Int)) + 5) (w64 (by omega))) (by decide) ?_
 refine GL.step (Stp.makeSlice (a1 := n) (c := n + 5) rfl rfl Try.underlying23 T.zr43 T.sz43 T.by43 rfl (Nat.le_add_right _ _) (by omega) (by omega) (by decide)) (fun bq1 _ => ?_)
 rw [made_pl']
 refine GL.sg rfl (by decide) ?_
 refine GL.nil (GE.thenN (GC.seq (GC.seq (GC.region ?_))))
 refine GL.sg rfl (by decide) ?_
 refine GL.nil (GE.thenN (GC.block ?_))
 refine GC.loop (σ := Rm) (fun r => r.Ok ∧ r.rb = rb ∧ RFor r.its ps ∧ r.its.length ≤ n) (fun r => [(0, (.pointer (some ⟨rb, 0, none⟩))), (1, (.slice (some ⟨b, o, none⟩) n cap)), (5, (.slice (some ⟨bq1, 0, none⟩) n (n + 5))), (6, (.int .i64 (((r.its.length : Nat) : Int))))]) (fun r => (⟨bq1, pcs (lpl r.its ps ++ List.replicate (n + 5 - r.its.length) zPn), 43, true⟩ :: (r.blks 60 41 28 ++ R))) (fun r => n - r.its.length) ((Rm.no rb)) ⟨Rm.no_ok rb, rfl, trivial, Nat.zero_le _⟩ ((sub_cons rfl ((sub_cons rfl ((sub_cons rfl ((sub_cons rfl ((sub_nil _)))))))))) (ulC ulR) (fun r hp => ?_)
 have hpl := hp.2.2.2
 refine GC.seq (GC.seq (GC.region ?_))
 refine GL.mv rfl (by decide) ?_
 refine GL.mv rfl (by decide) ?_
 refine GL.val (v := (.int .i64 ((n : Int)))) (Ex.len rfl Try.underlying23) (by decide) ?_
 refine GL.val (v := (.bool (decide ((((r.its.length : Nat) : Int)) < ((n : Int)))))) (Ex.lss rfl rfl) (by decide) ?_
 refine GL.nil (GE.thenN ?_)
 refine GC.cond rfl (fun hq2 => ?_) (fun hq2 => ?_)
 ·replace hq2 := of_decide_eq_true hq2
  refine GC.skip (GE.thenN (GC.seq (GC.block (GC.region ?_))))
  refine GL.mv rfl (by decide) ?_
  refine GL.mv rfl (by decide) ?_
  refine GL.mv rfl (by decide) ?_
  refine GL.mv rfl (by decide) ?_
  refine GL.mv rfl (by decide) ?_
  refine GL.val (v := (.pointer (some ⟨b, o + r.its.length * 3, none⟩))) (Ex.cast (Ex.indexAddr rfl rfl Try.underlying23 T.sz43 (by omega) (by omega)) (by simp)) (by decide) ?_
  refine GL.val (v := (.agg #[(.int .i64 ((pAt ps r.its.length).W)), (.int .i64 ((pAt ps r.its.length).H)), (.slice (pAt ps r.its.length).ad ((pAt ps r.its.length).n) ((pAt ps r.its.length).cap))])) (Ex.loadAO rfl T.ag43 T.sz43 (Pns.ld (i := r.its.length) hps (by omega)) (fun x => x) rfl) (by decide) ?_
  refine GL.step (Stp.call (vs := [(.pointer (some ⟨rb, 0, none⟩)), (.agg #[(.int .i64 ((pAt ps r.its.length).W)), (.int .i64 ((pAt ps r.its.length).H)), (.slice (pAt ps r.its.length).ad ((pAt ps r.its.length).n) ((pAt ps r.its.length).cap))])]) rfl rfl T.own21 (by decide) (fun wc hw => (rm_plane w0 ([⟨bq1, pcs (lpl r.its ps ++ List.replicate (n + 5 - r.its.length) zPn), 43, true⟩] ++ R) rb (pAt ps r.its.length).W (pAt ps r.its.length).H r (pAt ps r.its.length).n (pAt ps r.its.length).cap (pAt ps r.its.length).ad (pAt ps r.its.length).xs wc (hps.ok _ (pAt_mem (by omega))).1 (hps.ok _ (pAt_mem (by omega))).2 hp.1 (by omega) hp.2.1 (by exact Hp.segsT (T := R) (A := [[⟨bq1, pcs (lpl r.its ps ++ List.replicate (n + 5 - r.its.length) zPn), 43, true⟩], r.blks 60 41 28]) (idx := [1, 0]) 2 [] hw rfl (by decide) rfl)).mono fun e w' ⟨x, he, hp, h⟩ => ⟨x, he, hp, (by exact Hp.segsT (T := R) (A := [x.1.blks 60 41 28, [⟨bq1, pcs (lpl r.its ps ++ List.replicate (n + 5 - r.its.length) zPn), 43, true⟩]]) (idx := [1, 0]) 2 [] h rfl (by decide) rfl)⟩)) (fun xq3 hq4 => ?_)
  refine GL.val (v := (.pointer (some ⟨bq1, r.its.length * 3, none⟩))) (Ex.cast (Ex.indexAddr rfl rfl Try.underlying23 T.sz43 (by omega) (by omega)) (by simp)) (by decide) ?_
  refine GL.step (Stp.storeL (i := 0) (cs := pcs (lpl r.its ps ++ List.replicate (n + 5 - r.its.length) zPn)) (vs := (lpn (pAt ps r.its.length) xq3.2).cs) (o := r.its.length * 3) (L1 := (⟨bq1, pcs (lpl xq3.1.its ps ++ List.replicate (n + 5 - xq3.1.its.length) zPn), 43, true⟩ :: (xq3.1.blks 60 41 28 ++ R))) rfl rfl rfl T.sz43 rfl (Nat.ble_eq_true_of_le (by rw [pcs_len, List.length_append, lpl_len, List.length_replicate]; show r.its.length * 3 + 3 ≤ _; omega)) rfl (by rw [lpl_store (by omega) hq4.2.2.1]; rfl)) (fun _ _ => ?_)
  refine GL.nil (GE.blockN (GE.thenN (GC.region ?_)))
  refine GL.mv rfl (by decide) ?_
  refine GL.val (v := (.int .i64 (((xq3.1.its.length : Nat) : Int)))) (Ex.add rfl rfl (Z := ((xq3.1.its.length : Nat) : Int)) (by rw [hq4.2.2.1, w64 (by omega)]; simp)) (by decide) ?_
  refine GL.sg rfl (by decide) ?_
  refine GL.nil (GE.thenN ?_)
  exact Head.mk (xq3.1) ⟨hq4.1, hq4.2.1, by rw [hq4.2.2.1]; exact RFor.add hp.2.2.1 (by omega) hq4.2.2.2.1 hq4.2.2.2.2, by rw [hq4.2.2.1]; simp; omega⟩ (by rw [hq4.2.2.1]; simp; omega) ((sub_cons rfl ((sub_cons rfl ((sub_cons rfl ((sub_cons rfl ((sub_nil _)))))))))) (ulC ulR)
 ·replace hq2 := of_decide_eq_false hq2
  refine GC.exit (GE.thenE (GE.thenE (GE.blockE (GE.thenN (GC.seq ?_)))))
  rw [show n + 5 - r.its.length = 5 from by omega]
  refine GC.region ?_
  refine GL.mv rfl (by decide) ?_
  refine GL.sg rfl (by decide) ?_
  refine GL.nil (GE.thenN (GC.ret ?_))
  refine GC.ret1 rfl (Rv.tmp rfl) (fun wN HN => ?_)
  exact HN.frm (r, bq1) ⟨hp.1, hp.2.1, hp.2.2.1, (show r.its.length = n by omega)⟩ (by rfl) (ulC ulR)

theorem room_planes (w0 : World) (R : List Blk) (rb n cap : Nat) (ad : Option Addr) (ps : List Pn) (w : World) (hps : PnsA w0 ad ps) (hn : n = ps.length) (hnb : n ≤ 3600000000000) (hp0 : Hp None w0 (((Rm.no rb)).blks 60 41 28 ++ R) w) :
  Calls Try.prog 57 #[(.pointer (some ⟨rb, 0, none⟩)), .slice ad n cap] w (Frm (σ := Rm × Nat) None w0 (fun x => x.1.Ok ∧ x.1.rb = rb ∧ RFor x.1.its ps ∧ x.1.its.length = n) (fun x => .slice (some ⟨x.2, 0, none⟩) n (n + 5)) (fun x => ⟨x.2, pcs (lpl x.1.its ps ++ List.replicate 5 zPn), 43, true⟩ :: (x.1.blks 60 41 28 ++ R))) := by
 by_cases h0 : n = 0
 ·subst h0; exact room_planes_0 w0 R rb cap ad ps w hp0
 ·obtain ⟨b, o, rfl, h⟩ := hps.at (by omega)
  exact room_planes_b w0 R rb b o n cap ps w h hn hnb hp0

theorem lend (w0 : World) (R : List Blk) (sp : Int) (rb n cap : Nat) (ad : Option Addr) (ps : List Pn) (w : World) (hps : PnsA w0 ad ps) (hn : n = ps.length) (hnb : n ≤ 3600000000000) (hp0 : Hp None w0 ((((Rm.no rb)).blks 60 41 28 ++ R)) w) :
  Calls Try.prog 20 #[(.pointer (some ⟨rb, 0, none⟩)), (.agg #[(.int .i64 sp), (.slice ad n cap)])] w (Frm (σ := Rm × Nat) None w0 (fun x => x.1.Ok ∧ x.1.rb = rb ∧ RFor x.1.its ps ∧ x.1.its.length = n) (fun x => (.agg #[(.int .i64 sp), (.slice (some ⟨x.2, 0, none⟩) n (n + 5))])) (fun x => (lentB 43 ps x ++ (x.1.blks 60 41 28 ++ R)))) := by
 refine enterF (w0 := w0) (M := None) (L := ((((Rm.no rb)).blks 60 41 28 ++ R))) (n := 12) (l := [(0, (.pointer (some ⟨rb, 0, none⟩))), (1, (.agg #[(.int .i64 sp), (.slice ad n cap)]))]) Try.func20 rfl rfl (Args.cons rfl (Args.cons rfl (Args.nil _))) hp0 ?_
 refine GC.seq (GC.region ?_)
 refine GL.step (Stp.box (cs := [(.int .i64 sp), (.slice ad n cap)]) rfl rfl (by decide)) (fun bq1 _ => ?_)
 refine GL.step (Stp.alloc T.zr25 (by decide)) (fun bq2 _ => ?_)
 refine GL.nil (GE.thenN (GC.seq ?_))
 refine GC.drawP [⟨bq2, [(.int .i64 0), (.slice none 0 0)], 25, true⟩, ⟨bq1, [(.int .i64 sp), (.slice ad n cap)], 25, true⟩] T.mixed (by kernel_rfl) (by kernel_rfl) (fuel := 7) rfl rfl ?_
 refine GH.tk 0 (v := (.pointer (some ⟨bq1, 0, none⟩))) rfl (by kernel_rfl) (fun _ _ _ h => h) (Ex.cast (Ex.fieldAddr rfl Try.underlying25 rfl T.sz3 (by decide)) rfl) (ulC (ulC ulN)) (by decide) ?_
 refine GH.tk 1 (v := (.int .i64 sp)) rfl (by kernel_rfl) (fun _ _ _ h => h) (Ex.load rfl T.ag3 (i := 1) rfl rfl) (ulC (ulC ulN)) (by decide) ?_
 refine GH.tk 2 (v := (.pointer (some ⟨rb, 0, none⟩))) rfl (by kernel_rfl) (fun _ _ _ h => h) (Ex.move rfl) (ulC (ulC ulN)) (by decide) ?_
 refine GH.tk 3 (v := (.pointer (some ⟨bq1, 1, none⟩))) rfl (by kernel_rfl) (fun _ _ _ h => h) (Ex.cast (Ex.fieldAddr rfl Try.underlying25 rfl T.sz23 (by decide)) rfl) (ulC (ulC ulN)) (by decide) ?_
 refine GH.tk 4 (v := (.slice ad n cap)) rfl (by kernel_rfl) (fun _ _ _ h => h) (Ex.load rfl T.ag23 (i := 1) rfl rfl) (ulC (ulC ulN)) (by decide) ?_
 refine GH.one 5 rfl (by kernel_rfl) (Stp.call (vs := [(.pointer (some ⟨rb, 0, none⟩)), (.slice ad n cap)]) rfl rfl T.own57 (by decide) (fun wc hw => (room_planes w0 ([⟨bq2, [(.int .i64 0), (.slice none 0 0)], 25, true⟩, ⟨bq1, [(.int .i64 sp), (.slice ad n cap)], 25, true⟩] ++ R) rb n cap ad ps wc hps hn hnb (by exact Hp.segsT (T := R) (A := [[⟨bq2, [(.int .i64 0), (.slice none 0 0)], 25, true⟩, ⟨bq1, [(.int .i64 sp), (.slice ad n cap)], 25, true⟩], ((Rm.no rb)).blks 60 41 28]) (idx := [1, 0]) 2 [] hw rfl (by decide) rfl)).mono fun e w' ⟨x, he, hp, h⟩ => ⟨x, he, hp, (by exact Hp.segsT (T := R) (A := [lentB 43 ps x, x.1.blks 60 41 28, [⟨bq2, [(.int .i64 0), (.slice none 0 0)], 25, true⟩, ⟨bq1, [(.int .i64 sp), (.slice ad n cap)], 25, true⟩]]) (idx := [2, 0, 1]) 3 [] h rfl (by decide) rfl)⟩)) (fun _ => (ulC (ulC ulN))) (fun xq3 hq4 => ?_)
 refine GH.tk 6 (v := (.agg #[(.int .i64 sp), (.slice (some ⟨xq3.2, 0, none⟩) n (n + 5))])) rfl (by kernel_rfl) (fun _ _ _ h => h) (Ex.build (vs := [(0, (.int .i64 sp)), (1, (.slice (some ⟨xq3.2, 0, none⟩) n (n + 5)))]) rfl (by first | rfl | kernel_rfl)) (ulC (ulC ulN)) (by decide) ?_
 refine GH.done (by kernel_rfl) ?_
 refine GE.thenN ?_
 refine GE.tail rfl (Stp.st0 (cs' := [(.int .i64 sp), (.slice (some ⟨xq3.2, 0, none⟩) n (n + 5))]) rfl rfl rfl T.sz25 rfl rfl rfl) (fun _ _ => ?_)
 refine GE.thenN (GC.ret ?_)
 refine GC.ret1 rfl (Rv.cellA rfl T.ag25 T.sz25 (L := _) (i := 0) rfl (vs := [(.int .i64 sp), (.slice (some ⟨xq3.2, 0, none⟩) n (n + 5))]) rfl rfl) (fun wN HN => ?_)
 exact HN.frm xq3 hq4 (by rfl) (ulS (ulS ulR))

theorem book_planes_0 (w0 : World) (R : List Blk) (kb : Nat) (m : Int) (bk : Bk) (w : World) (hk : bk.Ok) (hkb : bk.kb = kb) (hp0 : Hp None w0 ((bk.blks 57 41 3 28 ++ R)) w) :
  Calls Try.prog 63 #[(.pointer (some ⟨kb, 0, none⟩)), (.slice none 0 0), (.int .i64 m)] w (Frm (σ := Bk) None w0 (fun x => x.Ok ∧ x.kb = kb ∧ x.its.length = bk.its.length + 0) (fun _ => .tuple #[]) (fun x => x.blks 57 41 3 28 ++ R)) := by
 refine enterF (w0 := w0) (M := None) (L := ((bk.blks 57 41 3 28 ++ R))) (n := 24) (l := [(0, (.pointer (some ⟨kb, 0, none⟩))), (1, nilS), (2, (.int .i64 m))]) Try.func63 rfl rfl (Args.cons rfl (Args.cons rfl (Args.cons rfl (Args.nil _)))) hp0 ?_
 refine GC.seq (GC.region ?_)
 refine GL.sg rfl (by decide) ?_
 refine GL.nil (GE.thenN (GC.block ?_))
 refine GC.unroll 1 ?_
 refine GE.round (GC.seq (GC.seq (GC.region ?_)))
 refine GL.mv rfl (by decide) ?_
 refine GL.mv rfl (by decide) ?_
 refine GL.val (v := (.int .i64 0)) (Ex.len rfl Try.underlying23) (by decide) ?_
 refine GL.val (v := (.bool false)) (Ex.cast (Ex.lss rfl rfl) rfl) (by decide) ?_
 refine GL.nil (GE.thenN ?_)
 refine GC.cond rfl (fun hq1 => by cases hq1) (fun _ => ?_)
 refine GC.exit (GE.thenE (GE.thenE (GE.blockE ?_)))
 refine GC.end0 rfl (fun wN HN => ?_)
 exact HN.frm bk ⟨hk, hkb, rfl⟩ (by rfl) ulR

theorem book_planes_b (w0 : World) (R : List Blk) (kb : Nat) (m : Int) (bk : Bk) (a : Ac) (w : World) (hk : bk.Ok) (hkb : bk.kb = kb) (hq : ∀ q ∈ a.qs, q.Ok) (hm : 0 ≤ m ∧ m ≤ 1000000) (han : a.n ≤ 65536) (hl : bk.its.length + a.n ≤ 4000000000000) (hp0 : Hp None w0 (⟨a.b, pcs a.pl ++ a.sp, 43, true⟩ :: (bk.blks 57 41 3 28 ++ ((a.qs.map (Nq.blk 28)) ++ R))) w) :
  Calls Try.prog 63 #[(.pointer (some ⟨kb, 0, none⟩)), (.slice (some ⟨a.b, 0, none⟩) a.n a.cap), (.int .i64 m)] w (Frm (σ := Bk) None w0 (fun x => x.Ok ∧ x.kb = kb ∧ x.its.length = bk.its.length + a.n) (fun _ => .tuple #[]) (fun x => x.blks 57 41 3 28 ++ R)) := by
 refine enterF (w0 := w0) (M := None) (L := (⟨a.b, pcs a.pl ++ a.sp, 43, true⟩ :: (bk.blks 57 41 3 28 ++ ((a.qs.map (Nq.blk 28)) ++ R)))) (n := 24) (l := [(0, (.pointer (some ⟨kb, 0, none⟩))), (1, (.slice (some ⟨a.b, 0, none⟩) a.n a.cap)), (2, (.int .i64 m))]) Try.func63 rfl rfl (Args.cons rfl (Args.cons rfl (Args.cons rfl (Args.nil _)))) hp0 ?_
 refine GC.seq (GC.region ?_)
 refine GL.sg rfl (by decide) ?_
 refine GL.nil (GE.thenN (GC.block ?_))
 refine GC.loop (σ := Bk × Nat) (fun z => z.1.Ok ∧ z.1.kb = kb ∧ z.1.its.length = bk.its.length + z.2 ∧ z.2 ≤ a.n) (fun z => [(0, (.pointer (some ⟨kb, 0, none⟩))), (1, (.slice (some ⟨a.b, 0, none⟩) a.n a.cap)), (2, (.int .i64 m)), (6, (.int .i64 (((z.2 : Nat) : Int))))]) (fun z => (⟨a.b, pcs a.pl ++ a.sp, 43, true⟩ :: (z.1.blks 57 41 3 28 ++ (((a.qs.drop z.2).map (Nq.blk 28)) ++ R)))) (fun z => a.n - z.2) ((bk, 0)) ⟨hk, hkb, rfl, Nat.zero_le _⟩ ((sub_cons rfl ((sub_cons rfl ((sub_cons rfl ((sub_cons rfl ((sub_nil _)))))))))) (ulC ulR) (fun z hp => ?_)
 have hz1 := hp.2.2.1
 have hz2 := hp.2.2.2
 refine GC.seq (GC.seq (GC.region ?_))
 refine GL.mv rfl (by decide) ?_
 refine GL.mv rfl (by decide) ?_
 refine GL.val (v := (.int .i64 ((a.n : Int)))) (Ex.len rfl Try.underlying23) (by decide) ?_
 refine GL.val (v := (.bool (decide ((((z.2 : Nat) : Int)) < ((a.n : Int)))))) (Ex.lss rfl rfl) (by decide) ?_
 refine GL.nil (GE.thenN ?_)
 refine GC.cond rfl (fun hq1 => ?_) (fun hq1 => ?_)
 ·replace hq1 := of_decide_eq_true hq1
  refine GC.skip (GE.thenN (GC.seq (GC.block ?_)))
  refine GC.hp (L2 := (⟨a.b, pcs a.pl ++ a.sp, 43, true⟩ :: (z.1.blks 57 41 3 28 ++ (poB 28 (some (nqAt a z.2)) ++ (((a.qs.drop (z.2 + 1)).map (Nq.blk 28)) ++ R))))) (fun w h => by have h2 := h; rw [drop_blk 28 (show z.2 < a.n by omega), List.append_assoc] at h2; exact h2) ?_
  refine GC.region ?_
  refine GL.mv rfl (by decide) ?_
  refine GL.mv rfl (by decide) ?_
  refine GL.mv rfl (by decide) ?_
  refine GL.val (v := (.pointer (some ⟨a.b, z.2 * 3, none⟩))) (Ex.cast (Ex.indexAddr rfl rfl Try.underlying23 T.sz43 (by omega) (by omega)) (by simp)) (by decide) ?_
  refine GL.val (v := (.agg #[(.int .i64 ((nqAt a z.2).W)), (.int .i64 ((nqAt a z.2).H)), (.slice (some ⟨(nqAt a z.2).b, 0, none⟩) ((nqAt a z.2).xs.length) ((nqAt a z.2).cap))])) (Ex.loadA rfl T.ag43 T.sz43 (i := 0) rfl (nq_take (i := z.2) (by omega) a.sp) rfl) (by decide) ?_
  refine GL.mv rfl (by decide) ?_
  refine GL.mv rfl (by decide) ?_
  refine GL.val (v := (.int .i64 ((((z.2 : Nat) : Int)) + 1))) (Ex.add rfl rfl (Z := (((z.2 : Nat) : Int)) + 1) (w64 (by omega))) (by decide) ?_
  refine GL.val (v := (.int .i64 (1000 * ((((z.2 : Nat) : Int)) + 1)))) (Ex.mul rfl rfl (Z := 1000 * ((((z.2 : Nat) : Int)) + 1)) (w64 (by omega))) (by decide) ?_
  refine GL.val (v := (.int .i64 (m + (1000 * ((((z.2 : Nat) : Int)) + 1))))) (Ex.add rfl rfl (Z := m + (1000 * ((((z.2 : Nat) : Int)) + 1))) (w64 (by omega))) (by decide) ?_
  refine GL.step (Stp.call (vs := [(.pointer (some ⟨kb, 0, none⟩)), (.agg #[(.int .i64 ((nqAt a z.2).W)), (.int .i64 ((nqAt a z.2).H)), (.slice (some ⟨(nqAt a z.2).b, 0, none⟩) ((nqAt a z.2).xs.length) ((nqAt a z.2).cap))]), (.int .i64 (m + (1000 * ((((z.2 : Nat) : Int)) + 1))))]) rfl rfl T.own28 (by decide) (fun wc hw => (bk_plane w0 ([⟨a.b, pcs a.pl ++ a.sp, 43, true⟩] ++ (((a.qs.drop (z.2 + 1)).map (Nq.blk 28)) ++ R)) kb (nqAt a z.2).W (nqAt a z.2).H z.1 (some (nqAt a z.2)) (m + (1000 * ((((z.2 : Nat) : Int)) + 1))) wc (hq _ (nqAt_mem (by omega))) hp.1 (by omega) hp.2.1 (by exact Hp.segsT (T := R) (A := [[⟨a.b, pcs a.pl ++ a.sp, 43, true⟩], z.1.blks 57 41 3 28, poB 28 (some (nqAt a z.2)), ((a.qs.drop (z.2 + 1)).map (Nq.blk 28))]) (idx := [1, 2, 0, 3]) 4 [] hw rfl (by decide) rfl)).mono fun e w' ⟨x, he, hp, h⟩ => ⟨x, he, hp, (by exact Hp.segsT (T := R) (A := [x.blks 57 41 3 28, [⟨a.b, pcs a.pl ++ a.sp, 43, true⟩], ((a.qs.drop (z.2 + 1)).map (Nq.blk 28))]) (idx := [1, 0, 2]) 3 [] h rfl (by decide) rfl)⟩)) (fun xq2 hq3 => ?_)
  refine GL.nil (GE.blockN (GE.thenN (GC.region ?_)))
  refine GL.mv rfl (by decide) ?_
  refine GL.val (v := (.int .i64 (((z.2 + 1 : Nat) : Int)))) (Ex.add rfl rfl (Z := ((z.2 + 1 : Nat) : Int)) (by rw [w64 (by omega)]; rfl)) (by decide) ?_
  refine GL.sg rfl (by decide) ?_
  refine GL.nil (GE.thenN ?_)
  exact Head.mk ((xq2, z.2 + 1)) ⟨hq3.1, hq3.2.1, (by show xq2.its.length = _ + (z.2 + 1); rw [hq3.2.2]; simp; omega), (show z.2 + 1 ≤ a.n by omega)⟩ (by show a.n - (z.2 + 1) < _; omega) ((sub_cons rfl ((sub_cons rfl ((sub_cons rfl ((sub_cons rfl ((sub_nil _)))))))))) (ulC ulR)
 ·replace hq1 := of_decide_eq_false hq1
  refine GC.exit (GE.thenE (GE.thenE (GE.blockE ?_)))
  refine GC.end0 rfl (fun wN HN => ?_)
  have H2 := HN.sub (ulS ulR)
  exact Hp.frm (by exact Hp.segsT (T := R) (A := [z.1.blks 57 41 3 28, ((a.qs.drop z.2).map (Nq.blk 28))]) (idx := [0]) 2 [1] H2 rfl (by decide) rfl) z.1 ⟨hp.1, hp.2.1, by omega⟩ (by rfl) (List.Sublist.refl _)

theorem book_planes (w0 : World) (R : List Blk) (kb : Nat) (m : Int) (bk : Bk) (a : Ac) (w : World) (hk : bk.Ok) (hkb : bk.kb = kb) (hq : ∀ q ∈ a.qs, q.Ok) (hm : 0 ≤ m ∧ m ≤ 1000000) (han : a.n ≤ 65536) (hl : bk.its.length + a.n ≤ 4000000000000) (hp0 : Hp None w0 (bk.blks 57 41 3 28 ++ (a.blks 43 28 ++ R)) w) :
  Calls Try.prog 63 #[(.pointer (some ⟨kb, 0, none⟩)), .slice a.ad a.n a.cp, .int .i64 m] w (Frm (σ := Bk) None w0 (fun x => x.Ok ∧ x.kb = kb ∧ x.its.length = bk.its.length + a.n) (fun _ => .tuple #[]) (fun x => x.blks 57 41 3 28 ++ R)) := by
 by_cases h0 : a.qs = []
 ·obtain ⟨e1, e2, e3, _, e5, _⟩ := Ac.nn h0
  rw [e5] at hp0
  rw [e1, e2, e3]
  exact book_planes_0 w0 R kb m bk w hk hkb hp0
 ·obtain ⟨e1, e2, e3⟩ := Ac.sm h0
  unfold Ac.blks at hp0
  rw [e3, List.append_nil, List.append_assoc] at hp0
  rw [e1, e2]
  exact book_planes_b w0 R kb m bk a w hk hkb hq hm han hl (by exact Hp.segsT (T := R) (A := [bk.blks 57 41 3 28, [_], a.qs.map (Nq.blk 28)]) (idx := [1, 0, 2]) 3 [] hp0 rfl (by decide) rfl)

theorem num (e : Int) (w : World) (he : 0 ≤ e ∧ e ≤ 1000) :
  Calls Try.prog 8 #[(.int .i64 e)] w (Ret w (fun _ : Unit => True) (fun _ => (.int .i64 e)) (fun _ => [])) := by
 refine enter (M := None) (L := []) (n := 4) (l := [(0, (.int .i64 e))]) Try.func8 rfl rfl (Args.cons rfl (Args.nil _)) (Hp.start _ _) ?_
 refine GC.seq (GC.region ?_)
 refine GL.sg rfl (by decide) ?_
 refine GL.nil (GE.thenN (GC.seq (GC.region ?_)))
 refine GL.mv rfl (by decide) ?_
 refine GL.sg rfl (by decide) ?_
 refine GL.nil (GE.thenN (GC.ret ?_))
 refine GC.ret1 rfl (Rv.tmp rfl) (fun wN HN => ?_)
 exact HN.ret () trivial rfl (List.nil_sublist _) rfl

theorem told (w0 : World) (R : List Blk) (kb : Nat) (m sp e : Int) (bk : Bk) (a b : Ac) (w : World) (hk : bk.Ok) (hkb : bk.kb = kb) (hqa : ∀ q ∈ a.qs, q.Ok) (hd : a.ds = b.ds) (ha : ∀ q ∈ a.qs, q.xs.length ≤ 65536) (hb : ∀ q ∈ b.qs, q.xs.length ≤ 65536) (he : 0 ≤ e ∧ e ≤ 1000) (hm : 0 ≤ m ∧ m ≤ 1000000) (han : a.n ≤ 65536) (hl : bk.its.length + a.n ≤ 4000000000000) (hp0 : Hp None w0 ((bk.blks 57 41 3 28 ++ (a.blks 43 28 ++ (b.blks 43 28 ++ R)))) w) :
  Calls Try.prog 25 #[(.pointer (some ⟨kb, 0, none⟩)), (.int .i64 m), (.agg #[(.int .i64 sp), (.slice a.ad a.n a.cp)]), (.int .i64 e), (.agg #[(.int .i64 sp), (.slice b.ad b.n b.cp)]), (.int .i64 e)] w (Frm (σ := Bk) None w0 (fun x => x.Ok ∧ x.kb = kb ∧ x.its.length = bk.its.length + a.n) (fun _ => .bool true) (fun x => x.blks 57 41 3 28 ++ R)) := by
 refine enterF (w0 := w0) (M := None) (L := ((bk.blks 57 41 3 28 ++ (a.blks 43 28 ++ (b.blks 43 28 ++ R))))) (n := 28) (l := [(0, (.pointer (some ⟨kb, 0, none⟩))), (1, (.int .i64 m)), (2, (.agg #[(.int .i64 sp), (.slice a.ad a.n a.cp)])), (3, (.int .i64 e)), (4, (.agg #[(.int .i64 sp), (.slice b.ad b.n b.cp)])), (5, (.int .i64 e))]) Try.func25 rfl rfl (Args.cons rfl (Args.cons rfl (Args.cons rfl (Args.cons rfl (Args.cons rfl (Args.cons rfl (Args.nil _))))))) hp0 ?_
 refine GC.seq (GC.region ?_)
 refine GL.step (Stp.box (cs := [(.int .i64 sp), (.slice a.ad a.n a.cp)]) rfl rfl (by decide)) (fun bq1 _ => ?_)
 refine GL.step (Stp.box (cs := [(.int .i64 sp), (.slice b.ad b.n b.cp)]) rfl rfl (by decide)) (fun bq2 _ => ?_)
 refine GL.sg rfl (by decide) ?_
 refine GL.nil (GE.thenN (GC.seq (GC.seq (GC.region ?_))))
 refine GL.mv rfl (by decide) ?_
 refine GL.step (Stp.callR (vs := [(.int .i64 e)]) rfl rfl T.own8 (by decide) (fun wc hw => num e wc he)) (fun xq3 hq4 => ?_)
 refine GL.mv rfl (by decide) ?_
 refine GL.val (v := (.bool false)) (Ex.cast (Ex.neq rfl rfl) (congrArg Value.bool (decide_eq_false (by exact fun h => h rfl)))) (by decide) ?_
 refine GL.mv rfl (by decide) ?_
 refine GL.stepG (tj := 17) rfl rfl (Ex.wp (v := (.agg #[(.int .i64 sp), (.slice a.ad a.n a.cp)])) (Ex.loadA rfl T.ag25 T.sz25 (i := 1) rfl (vs := [(.int .i64 sp), (.slice a.ad a.n a.cp)]) rfl rfl) (by decide)) (fun _ _ => ?_)
 refine GL.stepG (tj := 17) rfl rfl (Ex.wp (v := (.agg #[(.int .i64 sp), (.slice b.ad b.n b.cp)])) (Ex.loadA rfl T.ag25 T.sz25 (i := 0) rfl (vs := [(.int .i64 sp), (.slice b.ad b.n b.cp)]) rfl rfl) (by decide)) (fun _ _ => ?_)
 refine GL.stepG (tj := 17) rfl rfl (Stp.callR (σ := Unit) (p := fun rz => True) (v := fun rz => (.bool true)) (N := fun rz => []) (vs := [(.agg #[(.int .i64 sp), (.slice a.ad a.n a.cp)]), (.agg #[(.int .i64 sp), (.slice b.ad b.n b.cp)])]) rfl rfl T.own19 (by decide) (fun wc hw => (by rw [show b.n = a.n from (by rw [← Ac.ds_len, ← hd, Ac.ds_len])]; exact pic_eq sp a.ad b.ad a.n a.cp b.cp a.pl b.pl wc (Ac.pl_len a).symm (by omega) (by rw [Ac.pl_d, Ac.pl_d]; exact hd) (Ac.r (a := a) (Tp := 43) (Tu := 28) (fun k hk => (hw.2.1 k (List.mem_cons_of_mem _ (List.mem_cons_of_mem _ (List.mem_append_right _ (List.mem_append_left _ hk))))).1) ha) (Ac.r (a := b) (Tp := 43) (Tu := 28) (fun k hk => (hw.2.1 k (List.mem_cons_of_mem _ (List.mem_cons_of_mem _ (List.mem_append_right _ (List.mem_append_right _ (List.mem_append_left _ hk)))))).1) hb)))) (fun xq5 hq6 => ?_)
 refine GL.stepG (tj := 17) rfl rfl (Ex.wp (v := (.bool false)) (Ex.cast (Ex.not rfl) rfl) (by decide)) (fun _ _ => ?_)
 refine GL.val (v := (.bool false)) (Ex.pickF rfl rfl) (by decide) ?_
 refine GL.nil (GE.thenN ?_)
 refine GC.cond rfl (fun hq7 => by cases hq7) (fun _ => ?_)
 refine GC.skip (GE.thenN (GC.seq (GC.region ?_)))
 refine GL.mv rfl (by decide) ?_
 refine GL.val (v := (.pointer (some ⟨bq1, 1, none⟩))) (Ex.cast (Ex.fieldAddr rfl Try.underlying25 rfl T.sz23 (by decide)) rfl) (by decide) ?_
 refine GL.val (Ex.load rfl T.ag23 (i := 1) rfl rfl) (by decide) ?_
 refine GL.mv rfl (by decide) ?_
 refine GL.step (Stp.call (vs := [(.pointer (some ⟨kb, 0, none⟩)), (.slice a.ad a.n a.cp), (.int .i64 m)]) rfl rfl T.own63 (by decide) (fun wc hw => (book_planes w0 ([⟨bq2, [(.int .i64 sp), (.slice b.ad b.n b.cp)], 25, true⟩, ⟨bq1, [(.int .i64 sp), (.slice a.ad a.n a.cp)], 25, true⟩] ++ (b.blks 43 28 ++ R)) kb m bk a wc hk hkb hqa hm han hl (by exact Hp.segsT (T := R) (A := [[⟨bq2, [(.int .i64 sp), (.slice b.ad b.n b.cp)], 25, true⟩, ⟨bq1, [(.int .i64 sp), (.slice a.ad a.n a.cp)], 25, true⟩], bk.blks 57 41 3 28, a.blks 43 28, b.blks 43 28]) (idx := [1, 2, 0, 3]) 4 [] hw rfl (by decide) rfl)).mono fun e w' ⟨x, he, hp, h⟩ => ⟨x, he, hp, (by exact Hp.segsT (T := R) (A := [x.blks 57 41 3 28, [⟨bq2, [(.int .i64 sp), (.slice b.ad b.n b.cp)], 25, true⟩, ⟨bq1, [(.int .i64 sp), (.slice a.ad a.n a.cp)], 25, true⟩], b.blks 43 28]) (idx := [1, 0, 2]) 3 [] h rfl (by decide) rfl)⟩)) (fun xq8 hq9 => ?_)
 refine GL.nil (GE.thenN (GC.seq (GC.region ?_)))
 refine GL.sg rfl (by decide) ?_
 refine GL.nil (GE.thenN (GC.ret ?_))
 refine GC.ret1 rfl (Rv.tmp rfl) (fun wN HN => ?_)
 have H2 := HN.sub (ulS (ulS ulR))
 exact Hp.frm (by exact Hp.segsT (T := R) (A := [xq8.blks 57 41 3 28, b.blks 43 28]) (idx := [0]) 2 [1] H2 rfl (by decide) rfl) xq8 hq9 (by rfl) (List.Sublist.refl _)

theorem rm_hold_0 (rb : Nat) (w : World) (hh : Has w [⟨rb, [(.slice none 0 0), (.slice none 0 0), (.slice none 0 0), (.slice none 0 0), (.slice none 0 0), (.slice none 0 0), (.slice none 0 0), (.slice none 0 0)], 60, false⟩]) :
  Calls Try.prog 32 #[(.pointer (some ⟨rb, 0, none⟩))] w (Ret w (fun _ : Unit => True) (fun _ => .bool true) (fun _ => [])) := by
 refine enter (M := None) (L := [⟨rb, [(.slice none 0 0), (.slice none 0 0), (.slice none 0 0), (.slice none 0 0), (.slice none 0 0), (.slice none 0 0), (.slice none 0 0), (.slice none 0 0)], 60, false⟩]) (n := 179) (l := [(0, (.pointer (some ⟨rb, 0, none⟩)))]) Try.func32 rfl rfl (Args.cons rfl (Args.nil _)) (Hp.reads hh rfl) ?_
 refine GC.seq (GC.region ?_)
 refine GL.sg rfl (by decide) ?_
 refine GL.nil (GE.thenN (GC.seq (GC.seq (GC.region ?_))))
 refine GL.sg rfl (by decide) ?_
 refine GL.nil (GE.thenN (GC.block ?_))
 refine GC.unroll 1 ?_
 refine GE.round (GC.seq (GC.seq (GC.region ?_)))
 refine GL.mv rfl (by decide) ?_
 refine GL.mv rfl (by decide) ?_
 refine GL.val (v := (.pointer (some ⟨rb, 0, none⟩))) (Ex.nilCheck rfl) (by decide) ?_
 refine GL.val (v := (.pointer (some ⟨rb, 0, none⟩))) (Ex.cast (Ex.fieldAddr rfl Try.underlying60 rfl T.sz50 (by decide)) rfl) (by decide) ?_
 refine GL.val (Ex.load rfl T.ag50 (i := 0) rfl rfl) (by decide) ?_
 refine GL.val (v := (.int .i64 0)) (Ex.len rfl Try.underlying50) (by decide) ?_
 refine GL.val (v := (.bool false)) (Ex.cast (Ex.lss rfl rfl) rfl) (by decide) ?_
 refine GL.nil (GE.thenN ?_)
 refine GC.cond rfl (fun hq1 => by cases hq1) (fun _ => ?_)
 refine GC.exit (GE.thenE (GE.thenE (GE.blockE (GE.thenN (GC.seq (GC.seq (GC.region ?_)))))))
 refine GL.sg rfl (by decide) ?_
 refine GL.nil (GE.thenN (GC.block ?_))
 refine GC.unroll 1 ?_
 refine GE.round (GC.seq (GC.seq (GC.region ?_)))
 refine GL.mv rfl (by decide) ?_
 refine GL.mv rfl (by decide) ?_
 refine GL.val (v := (.pointer (some ⟨rb, 0, none⟩))) (Ex.nilCheck rfl) (by decide) ?_
 refine GL.val (v := (.pointer (some ⟨rb, 2, none⟩))) (Ex.cast (Ex.fieldAddr rfl Try.underlying60 rfl T.sz51 (by decide)) rfl) (by decide) ?_
 refine GL.val (Ex.load rfl T.ag51 (i := 0) rfl rfl) (by decide) ?_
 refine GL.val (v := (.int .i64 0)) (Ex.len rfl Try.underlying51) (by decide) ?_
 refine GL.val (v := (.bool false)) (Ex.cast (Ex.lss rfl rfl) rfl) (by decide) ?_
 refine GL.nil (GE.thenN ?_)
 refine GC.cond rfl (fun hq2 => by cases hq2) (fun _ => ?_)
 refine GC.exit (GE.thenE (GE.thenE (GE.blockE (GE.thenN (GC.seq (GC.seq (GC.region ?_)))))))
 refine GL.sg rfl (by decide) ?_
 refine GL.nil (GE.thenN (GC.block ?_))
 refine GC.unroll 1 ?_
 refine GE.round (GC.seq (GC.seq (GC.region ?_)))
 refine GL.mv rfl (by decide) ?_
 refine GL.mv rfl (by decide) ?_
 refine GL.val (v := (.pointer (some ⟨rb, 0, none⟩))) (Ex.nilCheck rfl) (by decide) ?_
 refine GL.val (v := (.pointer (some ⟨rb, 4, none⟩))) (Ex.cast (Ex.fieldAddr rfl Try.underlying60 rfl T.sz52 (by decide)) rfl) (by decide) ?_
 refine GL.val (Ex.load rfl T.ag52 (i := 0) rfl rfl) (by decide) ?_
 refine GL.val (v := (.int .i64 0)) (Ex.len rfl Try.underlying52) (by decide) ?_
 refine GL.val (v := (.bool false)) (Ex.cast (Ex.lss rfl rfl) rfl) (by decide) ?_
 refine GL.nil (GE.thenN ?_)
 refine GC.cond rfl (fun hq3 => by cases hq3) (fun _ => ?_)
 refine GC.exit (GE.thenE (GE.thenE (GE.blockE (GE.thenN (GC.seq (GC.seq (GC.region ?_)))))))
 refine GL.sg rfl (by decide) ?_
 refine GL.nil (GE.thenN (GC.block ?_))
 refine GC.unroll 1 ?_
 refine GE.round (GC.seq (GC.seq (GC.region ?_)))
 refine GL.mv rfl (by decide) ?_
 refine GL.mv rfl (by decide) ?_
 refine GL.val (v := (.pointer (some ⟨rb, 0, none⟩))) (Ex.nilCheck rfl) (by decide) ?_
 refine GL.val (v := (.pointer (some ⟨rb, 6, none⟩))) (Ex.cast (Ex.fieldAddr rfl Try.underlying60 rfl T.sz53 (by decide)) rfl) (by decide) ?_
 refine GL.val (Ex.load rfl T.ag53 (i := 0) rfl rfl) (by decide) ?_
 refine GL.val (v := (.int .i64 0)) (Ex.len rfl Try.underlying53) (by decide) ?_
 refine GL.val (v := (.bool false)) (Ex.cast (Ex.lss rfl rfl) rfl) (by decide) ?_
 refine GL.nil (GE.thenN ?_)
 refine GC.cond rfl (fun hq4 => by cases hq4) (fun _ => ?_)
 refine GC.exit (GE.thenE (GE.thenE (GE.blockE (GE.thenN (GC.seq (GC.region ?_))))))
 refine GL.sg rfl (by decide) ?_
 refine GL.nil (GE.thenN (GC.ret ?_))
 refine GC.ret1 rfl (Rv.tmp rfl) (fun wN HN => ?_)
 exact HN.ret () trivial rfl (List.nil_sublist _) rfl

theorem rm_hold_b (rb n1 b1 c1 b2 c2 : Nat) (its : List RIt) (sp1 sp2 : List Value) (w : World) (hn1 : its.length = n1) (hn2 : n1 ≤ 4000000000000) (hit : ∀ t ∈ its, RIt.Rd w t) (hh : Has w [⟨rb, [(.slice (some ⟨b1, 0, none⟩) n1 c1), (.slice (some ⟨b2, 0, none⟩) n1 c2), (.slice none 0 0), (.slice none 0 0), (.slice none 0 0), (.slice none 0 0), (.slice none 0 0), (.slice none 0 0)], 60, false⟩, ⟨b1, its.map RIt.v1 ++ sp1, 41, false⟩, ⟨b2, its.map RIt.v2 ++ sp2, 41, false⟩]) :
  Calls Try.prog 32 #[(.pointer (some ⟨rb, 0, none⟩))] w (Ret w (fun _ : Unit => True) (fun _ => .bool true) (fun _ => [])) := by
 refine enter (M := None) (L := [⟨rb, [(.slice (some ⟨b1, 0, none⟩) n1 c1), (.slice (some ⟨b2, 0, none⟩) n1 c2), (.slice none 0 0), (.slice none 0 0), (.slice none 0 0), (.slice none 0 0), (.slice none 0 0), (.slice none 0 0)], 60, false⟩, ⟨b1, its.map RIt.v1 ++ sp1, 41, false⟩, ⟨b2, its.map RIt.v2 ++ sp2, 41, false⟩]) (n := 179) (l := [(0, (.pointer (some ⟨rb, 0, none⟩)))]) Try.func32 rfl rfl (Args.cons rfl (Args.nil _)) (Hp.reads hh rfl) ?_
 refine GC.seq (GC.region ?_)
 refine GL.sg rfl (by decide) ?_
 refine GL.nil (GE.thenN (GC.seq (GC.seq (GC.region ?_))))
 refine GL.sg rfl (by decide) ?_
 refine GL.nil (GE.thenN (GC.block ?_))
 refine GC.loop (σ := Nat) (fun n => n ≤ n1) (fun n => [(0, (.pointer (some ⟨rb, 0, none⟩))), (3, (.int .i64 (((n : Nat) : Int))))]) (fun n => [⟨rb, [(.slice (some ⟨b1, 0, none⟩) n1 c1), (.slice (some ⟨b2, 0, none⟩) n1 c2), (.slice none 0 0), (.slice none 0 0), (.slice none 0 0), (.slice none 0 0), (.slice none 0 0), (.slice none 0 0)], 60, false⟩, ⟨b1, its.map RIt.v1 ++ sp1, 41, false⟩, ⟨b2, its.map RIt.v2 ++ sp2, 41, false⟩]) (fun n => n1 - n) (0) (Nat.zero_le _) ((sub_cons rfl ((sub_cons rfl ((sub_nil _)))))) (ulC (ulC (ulC ulN))) (fun n hp => ?_)
 refine GC.seq (GC.seq (GC.region ?_))
 refine GL.mv rfl (by decide) ?_
 refine GL.mv rfl (by decide) ?_
 refine GL.val (v := (.pointer (some ⟨rb, 0, none⟩))) (Ex.nilCheck rfl) (by decide) ?_
 refine GL.val (v := (.pointer (some ⟨rb, 0, none⟩))) (Ex.cast (Ex.fieldAddr rfl Try.underlying60 rfl T.sz50 (by decide)) rfl) (by decide) ?_
 refine GL.val (Ex.load rfl T.ag50 (i := 0) rfl rfl) (by decide) ?_
 refine GL.val (v := (.int .i64 ((n1 : Int)))) (Ex.len rfl Try.underlying50) (by decide) ?_
 refine GL.val (v := (.bool (decide ((((n : Nat) : Int)) < ((n1 : Int)))))) (Ex.lss rfl rfl) (by decide) ?_
 refine GL.nil (GE.thenN ?_)
 refine GC.cond rfl (fun hq1 => ?_) (fun hq1 => ?_)
 ·replace hq1 := of_decide_eq_true hq1
  refine GC.skip (GE.thenN (GC.seq (GC.block (GC.seq ?_))))
  have hnl : n < its.length := by omega
  have hio := hit _ (ritAt_mem hnl)
  have hin := hio.1.2
  refine GC.region ?_
  refine GL.sg rfl (by decide) ?_
  refine GL.nil (GE.thenN (GC.block ?_))
  refine GC.loop (σ := Nat) (fun k => k ≤ (ritAt its n).n + 5) (fun k => [(0, (.pointer (some ⟨rb, 0, none⟩))), (3, (.int .i64 (((n : Nat) : Int)))), (4, (.int .i64 (((k : Nat) : Int))))]) (fun k => [⟨rb, [(.slice (some ⟨b1, 0, none⟩) n1 c1), (.slice (some ⟨b2, 0, none⟩) n1 c2), (.slice none 0 0), (.slice none 0 0), (.slice none 0 0), (.slice none 0 0), (.slice none 0 0), (.slice none 0 0)], 60, false⟩, ⟨b1, its.map RIt.v1 ++ sp1, 41, false⟩, ⟨b2, its.map RIt.v2 ++ sp2, 41, false⟩]) (fun k => (ritAt its n).n + 5 - k) (0) (Nat.zero_le _) ((sub_cons rfl ((sub_cons rfl ((sub_cons rfl ((sub_nil _)))))))) (ulC (ulC (ulC ulN))) (fun k hp => ?_)
  refine GC.seq (GC.seq (GC.region ?_))
  refine GL.mv rfl (by decide) ?_
  refine GL.mv rfl (by decide) ?_
  refine GL.val (v := (.pointer (some ⟨rb, 0, none⟩))) (Ex.nilCheck rfl) (by decide) ?_
  refine GL.val (v := (.pointer (some ⟨rb, 0, none⟩))) (Ex.cast (Ex.fieldAddr rfl Try.underlying60 rfl T.sz50 (by decide)) rfl) (by decide) ?_
  refine GL.val (Ex.load rfl T.ag50 (i := 0) rfl rfl) (by decide) ?_
  refine GL.mv rfl (by decide) ?_
  refine GL.val (v := (.pointer (some ⟨b1, n, none⟩))) (Ex.cast (Ex.indexAddr rfl rfl Try.underlying50 T.sz41 (by omega) (by omega)) (by simp)) (by decide) ?_
  refine GL.val (Ex.load rfl T.ag41 (i := 1) rfl (rit_v1 hnl sp1)) (by decide) ?_
  refine GL.val (v := (.int .i64 ((((ritAt its n).n + 5) : Int)))) (Ex.len rfl Try.underlying41) (by decide) ?_
  refine GL.val (v := (.bool (decide ((((k : Nat) : Int)) < ((((ritAt its n).n + 5) : Int)))))) (Ex.lss rfl rfl) (by decide) ?_
  refine GL.nil (GE.thenN ?_)
  refine GC.cond rfl (fun hq2 => ?_) (fun hq2 => ?_)
  ·replace hq2 := of_decide_eq_true hq2
   refine GC.skip (GE.thenN (GC.seq (GC.block (GC.seq ?_))))
   refine GC.draw [⟨rb, [(.slice (some ⟨b1, 0, none⟩) n1 c1), (.slice (some ⟨b2, 0, none⟩) n1 c2), (.slice none 0 0), (.slice none 0 0), (.slice none 0 0), (.slice none 0 0), (.slice none 0 0), (.slice none 0 0)], 60, false⟩, ⟨b1, its.map RIt.v1 ++ sp1, 41, false⟩, ⟨b2, its.map RIt.v2 ++ sp2, 41, false⟩] T.mixed (fuel := 21) rfl rfl ?_
   refine GH.tk 0 (v := (.pointer (some ⟨rb, 0, none⟩))) rfl (by kernel_rfl) (fun _ _ _ h => h) (Ex.move rfl) (ulC (ulC (ulC ulN))) (by decide) ?_
   refine GH.tk 4 (v := (.int .i64 (((n : Nat) : Int)))) rfl (by kernel_rfl) (fun _ _ _ h => h) (Ex.move rfl) (ulC (ulC (ulC ulN))) (by decide) ?_
   refine GH.tk 7 (v := (.int .i64 (((k : Nat) : Int)))) rfl (by kernel_rfl) (fun _ _ _ h => h) (Ex.move rfl) (ulC (ulC (ulC ulN))) (by decide) ?_
   refine GH.tk 10 (v := (.pointer (some ⟨rb, 0, none⟩))) rfl (by kernel_rfl) (fun _ _ _ h => h) (Ex.move rfl) (ulC (ulC (ulC ulN))) (by decide) ?_
   refine GH.tk 14 (v := (.int .i64 (((n : Nat) : Int)))) rfl (by kernel_rfl) (fun _ _ _ h => h) (Ex.move rfl) (ulC (ulC (ulC ulN))) (by decide) ?_
   refine GH.tk 17 (v := (.int .i64 (((k : Nat) : Int)))) rfl (by kernel_rfl) (fun _ _ _ h => h) (Ex.move rfl) (ulC (ulC (ulC ulN))) (by decide) ?_
   refine GH.many (rs := [1, 11]) (by kernel_rfl) (by simp) ?_
   refine GHs.cons rfl (Ex.wp (v := (.pointer (some ⟨rb, 0, none⟩))) (Ex.nilCheck rfl) (by decide)) (fun _ => (ulC (ulC (ulC ulN)))) (fun _ _ => ?_) ?_
   ·refine GH.tk 2 (v := (.pointer (some ⟨rb, 0, none⟩))) rfl (by kernel_rfl) (fun _ _ _ h => h) (Ex.cast (Ex.fieldAddr rfl Try.underlying60 rfl T.sz50 (by decide)) rfl) (ulC (ulC (ulC ulN))) (by decide) ?_
    refine GH.tk 3 (v := (.slice (some ⟨b1, 0, none⟩) n1 c1)) rfl (by kernel_rfl) (fun _ _ _ h => h) (Ex.load rfl T.ag50 (i := 0) rfl rfl) (ulC (ulC (ulC ulN))) (by decide) ?_
    refine GH.tk 5 (v := (.pointer (some ⟨b1, n, none⟩))) rfl (by kernel_rfl) (fun _ _ _ h => h) (Ex.cast (Ex.indexAddr rfl rfl Try.underlying50 T.sz41 (by omega) (by omega)) (by simp)) (ulC (ulC (ulC ulN))) (by decide) ?_
    refine GH.tk 6 (v := (.slice (some ⟨(ritAt its n).a, 0, none⟩) ((ritAt its n).n + 5) ((ritAt its n).n + 5))) rfl (by kernel_rfl) (fun _ _ _ h => h) (Ex.load rfl T.ag41 (i := 1) rfl (rit_v1 hnl sp1)) (ulC (ulC (ulC ulN))) (by decide) ?_
    refine GH.tk 8 (v := (.pointer (some ⟨(ritAt its n).a, k, none⟩))) rfl (by kernel_rfl) (fun _ _ _ h => h) (Ex.cast (Ex.indexAddr rfl rfl Try.underlying41 T.sz28 (by omega) (by omega)) (by simp)) (ulC (ulC (ulC ulN))) (by decide) ?_
    refine GH.tk 9 (v := (.int .u32 ((roomL (ritAt its n).xs).getD k 0))) rfl (by kernel_rfl) (fun _ _ _ h => h) (Ex.loadO rfl T.ag28 (by have h := Rd.at (k := k) hio.2.1 (by rw [roomL_len, hio.1.1]; omega); rwa [Nat.zero_add] at h) (fun x => x)) (ulC (ulC (ulC ulN))) (by decide) ?_
    refine GH.one 11 rfl (by kernel_rfl) (Ex.wp (v := (.pointer (some ⟨rb, 0, none⟩))) (Ex.nilCheck rfl) (by decide)) (fun _ => (ulC (ulC (ulC ulN)))) (fun _ _ => ?_)
    refine GH.tk 12 (v := (.pointer (some ⟨rb, 1, none⟩))) rfl (by kernel_rfl) (fun _ _ _ h => h) (Ex.cast (Ex.fieldAddr rfl Try.underlying60 rfl T.sz50 (by decide)) rfl) (ulC (ulC (ulC ulN))) (by decide) ?_
    refine GH.tk 13 (v := (.slice (some ⟨b2, 0, none⟩) n1 c2)) rfl (by kernel_rfl) (fun _ _ _ h => h) (Ex.load rfl T.ag50 (i := 0) rfl rfl) (ulC (ulC (ulC ulN))) (by decide) ?_
    refine GH.tk 15 (v := (.pointer (some ⟨b2, n, none⟩))) rfl (by kernel_rfl) (fun _ _ _ h => h) (Ex.cast (Ex.indexAddr rfl rfl Try.underlying50 T.sz41 (by omega) (by omega)) (by simp)) (ulC (ulC (ulC ulN))) (by decide) ?_
    refine GH.tk 16 (v := (.slice (some ⟨(ritAt its n).c, 0, none⟩) ((ritAt its n).n + 5) ((ritAt its n).d))) rfl (by kernel_rfl) (fun _ _ _ h => h) (Ex.load rfl T.ag41 (i := 2) rfl (rit_v2 hnl sp2)) (ulC (ulC (ulC ulN))) (by decide) ?_
    refine GH.tk 18 (v := (.pointer (some ⟨(ritAt its n).c, k, none⟩))) rfl (by kernel_rfl) (fun _ _ _ h => h) (Ex.cast (Ex.indexAddr rfl rfl Try.underlying41 T.sz28 (by omega) (by omega)) (by simp)) (ulC (ulC (ulC ulN))) (by decide) ?_
    refine GH.tk 19 (v := (.int .u32 ((roomL (ritAt its n).xs).getD k 0))) rfl (by kernel_rfl) (fun _ _ _ h => h) (Ex.loadO rfl T.ag28 (by have h := Rd.at (k := k) hio.2.2 (by rw [roomL_len, hio.1.1]; omega); rwa [Nat.zero_add] at h) (fun x => x)) (ulC (ulC (ulC ulN))) (by decide) ?_
    refine GH.tk 20 (v := (.bool false)) rfl (by kernel_rfl) (fun _ _ _ h => h) (Ex.cast (Ex.neq rfl rfl) (congrArg Value.bool (decide_eq_false (by exact fun h => h rfl)))) (ulC (ulC (ulC ulN))) (by decide) ?_
    refine GH.done (by kernel_rfl) ?_
    refine GE.thenN ?_
    refine GC.cond rfl (fun hq3 => by cases hq3) (fun _ => ?_)
    refine GC.skip (GE.blockN (GE.thenN (GC.region ?_)))
    refine GL.mv rfl (by decide) ?_
    refine GL.val (v := (.int .i64 (((k + 1 : Nat) : Int)))) (Ex.add rfl rfl (Z := ((k + 1 : Nat) : Int)) (by rw [w64 (by omega)]; rfl)) (by decide) ?_
    refine GL.sg rfl (by decide) ?_
    refine GL.nil (GE.thenN ?_)
    exact Head.mk (k + 1) (by omega) (by omega) ((sub_cons rfl ((sub_cons rfl ((sub_cons rfl ((sub_nil _)))))))) (ulC (ulC (ulC ulN)))
   refine GHs.cons rfl (Ex.wp (v := (.pointer (some ⟨rb, 0, none⟩))) (Ex.nilCheck rfl) (by decide)) (fun _ => (ulC (ulC (ulC ulN)))) (fun _ _ => ?_) ?_
   ·refine GH.tk 12 (v := (.pointer (some ⟨rb, 1, none⟩))) rfl (by kernel_rfl) (fun _ _ _ h => h) (Ex.cast (Ex.fieldAddr rfl Try.underlying60 rfl T.sz50 (by decide)) rfl) (ulC (ulC (ulC ulN))) (by decide) ?_
    refine GH.tk 13 (v := (.slice (some ⟨b2, 0, none⟩) n1 c2)) rfl (by kernel_rfl) (fun _ _ _ h => h) (Ex.load rfl T.ag50 (i := 0) rfl rfl) (ulC (ulC (ulC ulN))) (by decide) ?_
    refine GH.tk 15 (v := (.pointer (some ⟨b2, n, none⟩))) rfl (by kernel_rfl) (fun _ _ _ h => h) (Ex.cast (Ex.indexAddr rfl rfl Try.underlying50 T.sz41 (by omega) (by omega)) (by simp)) (ulC (ulC (ulC ulN))) (by decide) ?_
    refine GH.tk 16 (v := (.slice (some ⟨(ritAt its n).c, 0, none⟩) ((ritAt its n).n + 5) ((ritAt its n).d))) rfl (by kernel_rfl) (fun _ _ _ h => h) (Ex.load rfl T.ag41 (i := 2) rfl (rit_v2 hnl sp2)) (ulC (ulC (ulC ulN))) (by decide) ?_
    refine GH.tk 18 (v := (.pointer (some ⟨(ritAt its n).c, k, none⟩))) rfl (by kernel_rfl) (fun _ _ _ h => h) (Ex.cast (Ex.indexAddr rfl rfl Try.underlying41 T.sz28 (by omega) (by omega)) (by simp)) (ulC (ulC (ulC ulN))) (by decide) ?_
    refine GH.tk 19 (v := (.int .u32 ((roomL (ritAt its n).xs).getD k 0))) rfl (by kernel_rfl) (fun _ _ _ h => h) (Ex.loadO rfl T.ag28 (by have h := Rd.at (k := k) hio.2.2 (by rw [roomL_len, hio.1.1]; omega); rwa [Nat.zero_add] at h) (fun x => x)) (ulC (ulC (ulC ulN))) (by decide) ?_
    refine GH.one 1 rfl (by kernel_rfl) (Ex.wp (v := (.pointer (some ⟨rb, 0, none⟩))) (Ex.nilCheck rfl) (by decide)) (fun _ => (ulC (ulC (ulC ulN)))) (fun _ _ => ?_)
    refine GH.tk 2 (v := (.pointer (some ⟨rb, 0, none⟩))) rfl (by kernel_rfl) (fun _ _ _ h => h) (Ex.cast (Ex.fieldAddr rfl Try.underlying60 rfl T.sz50 (by decide)) rfl) (ulC (ulC (ulC ulN))) (by decide) ?_
    refine GH.tk 3 (v := (.slice (some ⟨b1, 0, none⟩) n1 c1)) rfl (by kernel_rfl) (fun _ _ _ h => h) (Ex.load rfl T.ag50 (i := 0) rfl rfl) (ulC (ulC (ulC ulN))) (by decide) ?_
    refine GH.tk 5 (v := (.pointer (some ⟨b1, n, none⟩))) rfl (by kernel_rfl) (fun _ _ _ h => h) (Ex.cast (Ex.indexAddr rfl rfl Try.underlying50 T.sz41 (by omega) (by omega)) (by simp)) (ulC (ulC (ulC ulN))) (by decide) ?_
    refine GH.tk 6 (v := (.slice (some ⟨(ritAt its n).a, 0, none⟩) ((ritAt its n).n + 5) ((ritAt its n).n + 5))) rfl (by kernel_rfl) (fun _ _ _ h => h) (Ex.load rfl T.ag41 (i := 1) rfl (rit_v1 hnl sp1)) (ulC (ulC (ulC ulN))) (by decide) ?_
    refine GH.tk 8 (v := (.pointer (some ⟨(ritAt its n).a, k, none⟩))) rfl (by kernel_rfl) (fun _ _ _ h => h) (Ex.cast (Ex.indexAddr rfl rfl Try.underlying41 T.sz28 (by omega) (by omega)) (by simp)) (ulC (ulC (ulC ulN))) (by decide) ?_
    refine GH.tk 9 (v := (.int .u32 ((roomL (ritAt its n).xs).getD k 0))) rfl (by kernel_rfl) (fun _ _ _ h => h) (Ex.loadO rfl T.ag28 (by have h := Rd.at (k := k) hio.2.1 (by rw [roomL_len, hio.1.1]; omega); rwa [Nat.zero_add] at h) (fun x => x)) (ulC (ulC (ulC ulN))) (by decide) ?_
    refine GH.tk 20 (v := (.bool false)) rfl (by kernel_rfl) (fun _ _ _ h => h) (Ex.cast (Ex.neq rfl rfl) (congrArg Value.bool (decide_eq_false (by exact fun h => h rfl)))) (ulC (ulC (ulC ulN))) (by decide) ?_
    refine GH.done (by kernel_rfl) ?_
    refine GE.thenN ?_
    refine GC.cond rfl (fun hq4 => by cases hq4) (fun _ => ?_)
    refine GC.skip (GE.blockN (GE.thenN (GC.region ?_)))
    refine GL.mv rfl (by decide) ?_
    refine GL.val (v := (.int .i64 (((k + 1 : Nat) : Int)))) (Ex.add rfl rfl (Z := ((k + 1 : Nat) : Int)) (by rw [w64 (by omega)]; rfl)) (by decide) ?_
    refine GL.sg rfl (by decide) ?_
    refine GL.nil (GE.thenN ?_)
    exact Head.mk (k + 1) (by omega) (by omega) ((sub_cons rfl ((sub_cons rfl ((sub_cons rfl ((sub_nil _)))))))) (ulC (ulC (ulC ulN)))
   exact GHs.nil
  ·replace hq2 := of_decide_eq_false hq2
   refine GC.exit (GE.thenE (GE.thenE (GE.blockE (GE.blockN (GE.thenN (GC.region ?_))))))
   refine GL.mv rfl (by decide) ?_
   refine GL.val (v := (.int .i64 (((n + 1 : Nat) : Int)))) (Ex.add rfl rfl (Z := ((n + 1 : Nat) : Int)) (by rw [w64 (by omega)]; rfl)) (by decide) ?_
   refine GL.sg rfl (by decide) ?_
   refine GL.nil (GE.thenN ?_)
   exact Head.mk (n + 1) (by omega) (by omega) ((sub_cons rfl ((sub_cons rfl ((sub_nil _)))))) (ulC (ulC (ulC ulN)))
 ·replace hq1 := of_decide_eq_false hq1
  refine GC.exit (GE.thenE (GE.thenE (GE.blockE (GE.thenN (GC.seq (GC.seq (GC.region ?_)))))))
  refine GL.sg rfl (by decide) ?_
  refine GL.nil (GE.thenN (GC.block ?_))
  refine GC.unroll 1 ?_
  refine GE.round (GC.seq (GC.seq (GC.region ?_)))
  refine GL.mv rfl (by decide) ?_
  refine GL.mv rfl (by decide) ?_
  refine GL.val (v := (.pointer (some ⟨rb, 0, none⟩))) (Ex.nilCheck rfl) (by decide) ?_
  refine GL.val (v := (.pointer (some ⟨rb, 2, none⟩))) (Ex.cast (Ex.fieldAddr rfl Try.underlying60 rfl T.sz51 (by decide)) rfl) (by decide) ?_
  refine GL.val (Ex.load rfl T.ag51 (i := 0) rfl rfl) (by decide) ?_
  refine GL.val (v := (.int .i64 0)) (Ex.len rfl Try.underlying51) (by decide) ?_
  refine GL.val (v := (.bool false)) (Ex.cast (Ex.lss rfl rfl) rfl) (by decide) ?_
  refine GL.nil (GE.thenN ?_)
  refine GC.cond rfl (fun hq5 => by cases hq5) (fun _ => ?_)
  refine GC.exit (GE.thenE (GE.thenE (GE.blockE (GE.thenN (GC.seq (GC.seq (GC.region ?_)))))))
  refine GL.sg rfl (by decide) ?_
  refine GL.nil (GE.thenN (GC.block ?_))
  refine GC.unroll 1 ?_
  refine GE.round (GC.seq (GC.seq (GC.region ?_)))
  refine GL.mv rfl (by decide) ?_
  refine GL.mv rfl (by decide) ?_
  refine GL.val (v := (.pointer (some ⟨rb, 0, none⟩))) (Ex.nilCheck rfl) (by decide) ?_
  refine GL.val (v := (.pointer (some ⟨rb, 4, none⟩))) (Ex.cast (Ex.fieldAddr rfl Try.underlying60 rfl T.sz52 (by decide)) rfl) (by decide) ?_
  refine GL.val (Ex.load rfl T.ag52 (i := 0) rfl rfl) (by decide) ?_
  refine GL.val (v := (.int .i64 0)) (Ex.len rfl Try.underlying52) (by decide) ?_
  refine GL.val (v := (.bool false)) (Ex.cast (Ex.lss rfl rfl) rfl) (by decide) ?_
  refine GL.nil (GE.thenN ?_)
  refine GC.cond rfl (fun hq6 => by cases hq6) (fun _ => ?_)
  refine GC.exit (GE.thenE (GE.thenE (GE.blockE (GE.thenN (GC.seq (GC.seq (GC.region ?_)))))))
  refine GL.sg rfl (by decide) ?_
  refine GL.nil (GE.thenN (GC.block ?_))
  refine GC.unroll 1 ?_
  refine GE.round (GC.seq (GC.seq (GC.region ?_)))
  refine GL.mv rfl (by decide) ?_
  refine GL.mv rfl (by decide) ?_
  refine GL.val (v := (.pointer (some ⟨rb, 0, none⟩))) (Ex.nilCheck rfl) (by decide) ?_
  refine GL.val (v := (.pointer (some ⟨rb, 6, none⟩))) (Ex.cast (Ex.fieldAddr rfl Try.underlying60 rfl T.sz53 (by decide)) rfl) (by decide) ?_
  refine GL.val (Ex.load rfl T.ag53 (i := 0) rfl rfl) (by decide) ?_
  refine GL.val (v := (.int .i64 0)) (Ex.len rfl Try.underlying53) (by decide) ?_
  refine GL.val (v := (.bool false)) (Ex.cast (Ex.lss rfl rfl) rfl) (by decide) ?_
  refine GL.nil (GE.thenN ?_)
  refine GC.cond rfl (fun hq7 => by cases hq7) (fun _ => ?_)
  refine GC.exit (GE.thenE (GE.thenE (GE.blockE (GE.thenN (GC.seq (GC.region ?_))))))
  refine GL.sg rfl (by decide) ?_
  refine GL.nil (GE.thenN (GC.ret ?_))
  refine GC.ret1 rfl (Rv.tmp rfl) (fun wN HN => ?_)
  exact HN.ret () trivial rfl (List.nil_sublist _) rfl

theorem rm_hold (r : Rm) (w : World) (rb0 : Nat) (h0 : r.rb = rb0) (hr : r.Ok) (hn : r.its.length ≤ 4000000000000) (hh : ∀ k ∈ r.blks 60 41 28, w.heap[k.b]? = some (.cells k.cs.toArray k.T (0, 0))) : Calls Try.prog 32 #[(.pointer (some ⟨rb0, 0, none⟩))] w (Ret w (fun _ : Unit => True) (fun _ => .bool true) (fun _ => [])) := by
 subst h0
 obtain ⟨rb, its, b1, c1, s1, b2, c2, s2⟩ := r
 cases its with
 | nil => exact rm_hold_0 rb w (Has.cons (hh _ (List.mem_cons_self ..)) (Has.nil _))
 | cons t0 its =>
  refine rm_hold_b rb (t0 :: its).length b1 c1 b2 c2 (t0 :: its) s1 s2 w rfl hn (fun t ht => ⟨hr.2 t ht, ?_, ?_⟩) (Has.cons (hh _ (List.mem_cons_self ..)) (Has.cons (hh ⟨b1, _, 41, true⟩ (List.mem_cons_of_mem _ (List.mem_append_left _ (List.mem_cons_self ..)))) (Has.cons (hh ⟨b2, _, 41, true⟩ (List.mem_cons_of_mem _ (List.mem_append_left _ (List.mem_cons_of_mem _ (List.mem_cons_self ..))))) (Has.nil _))))
  ·have h := Rd.of_heap (hh ⟨t.a, (roomL t.xs).map u32, 28, true⟩ (List.mem_cons_of_mem _ (List.mem_append_right _ (rblks_mem ht (List.mem_cons_of_mem _ (List.mem_cons_self ..))))))
   exact h
  ·have h := Rd.of_heap (hh ⟨t.c, (roomL t.xs).map u32 ++ t.sp, 28, true⟩ (List.mem_cons_of_mem _ (List.mem_append_right _ (rblks_mem ht (List.mem_cons_self ..)))))
   exact fun j v hv => h j v (by show ((roomL t.xs).map u32 ++ t.sp)[j]? = _; have hv' : ((roomL t.xs).map u32)[j]? = some v := hv; rw [List.getElem?_append_left (List.getElem?_eq_some_iff.1 hv').1]; exact hv')
theorem bk_hold (r : Bk) (w : World) (kb0 : Nat) (h0 : r.kb = kb0) (hr : r.Ok) (hn : r.its.length ≤ 4000000000000) (hne : 0 < r.its.length) (hh : ∀ k ∈ r.blks 57 41 3 28, w.heap[k.b]? = some (.cells k.cs.toArray k.T (0, 0))) : Calls Try.prog 31 #[(.pointer (some ⟨kb0, 0, none⟩))] w (Ret w (fun _ : Unit => True) (fun _ => .bool true) (fun _ => [])) := by
 subst h0
 obtain ⟨kb, its, b1, c1, s1, b2, c2, s2⟩ := r
 cases its with
 | nil => exact absurd hne (Nat.lt_irrefl _)
 | cons t0 its =>
  refine book_hold kb (t0 :: its).length b1 c1 b2 c2 (t0 :: its) s1 s2 w rfl hn (fun t ht => ?_) (Has.cons (hh _ (List.mem_cons_self ..)) (Has.cons (hh ⟨b1, _, 41, true⟩ (List.mem_cons_of_mem _ (List.mem_append_left _ (List.mem_cons_self ..)))) (Has.cons (hh ⟨b2, _, 3, true⟩ (List.mem_cons_of_mem _ (List.mem_append_left _ (List.mem_cons_of_mem _ (List.mem_cons_self ..))))) (Has.nil _))))
  obtain ⟨o1, o2⟩ := hr.2 t ht
  refine ⟨o1, o2.imp id ?_⟩
  rintro ⟨b, e⟩
  refine ⟨b, e, Rd.of_heap (T := 28) (hh ⟨b, (mks t.m t.cap).map u32, 28, true⟩ (List.mem_cons_of_mem _ (List.mem_append_right _ (iblks_mem ht ?_))))⟩
  unfold It.blk; rw [e]; exact List.mem_cons_self ..

theorem chplane (W H : Int) (b o n cap : Nat) (xs : List Int) (fid : FuncId) (fst caps : Array Value) (f : Int → Int) (w : World) (hx : xs.length = n) (h0 : 0 < n) (hb : n ≤ 35184372087808) (hr : Rd w b o (xs.map u32)) (hf : FnS Try.prog w fid fst caps xs f) :
  Calls Try.prog 79 #[(.agg #[(.func (.func fid) fst caps)]), (.agg #[(.int .i64 W), (.int .i64 H), (.slice (some ⟨b, o, none⟩) n cap)])] w (RetP w (W, H, xs.map f) 28) := by
 refine enter (M := None) (L := []) (n := 35) (l := [(0, (.agg #[(.func (.func fid) fst caps)])), (1, (.agg #[(.int .i64 W), (.int .i64 H), (.slice (some ⟨b, o, none⟩) n cap)]))]) Try.func79 rfl rfl (Args.cons rfl (Args.cons rfl (Args.nil _))) (Hp.start _ _) ?_
 refine GC.seq (GC.region ?_)
 refine GL.step (Stp.box (cs := [(.func (.func fid) fst caps)]) rfl rfl (by decide)) (fun bq1 _ => ?_)
 refine GL.step (Stp.box (cs := [(.int .i64 W), (.int .i64 H), (.slice (some ⟨b, o, none⟩) n cap)]) rfl rfl (by decide)) (fun bq2 _ => ?_)
 refine GL.step (Stp.alloc T.zr43 (by decide)) (fun bq3 _ => ?_)
 refine GL.nil (GE.thenN (GC.seq ?_))
 refine GC.join (σ := Nat × Nat) (fun j => True) (fun j => [(0, (.agg #[(.func (.func fid) fst caps)])), (1, (.agg #[(.int .i64 W), (.int .i64 H), (.slice (some ⟨b, o, none⟩) n cap)])), (2, (.pointer (some ⟨bq1, 0, none⟩))), (3, (.pointer (some ⟨bq2, 0, none⟩))), (4, (.pointer (some ⟨bq3, 0, none⟩))), (5, (.pointer (some ⟨j.1, 0, none⟩)))]) (fun j => [⟨j.1, [(.int .i64 W), (.int .i64 H), (.slice (some ⟨j.2, 0, none⟩) 0 n)], 43, true⟩, ⟨j.2, mpC f xs 0, 28, true⟩, ⟨bq3, [(.int .i64 0), (.int .i64 0), (.slice none 0 0)], 43, true⟩, ⟨bq2, [(.int .i64 W), (.int .i64 H), (.slice (some ⟨b, o, none⟩) n cap)], 43, true⟩, ⟨bq1, [(.func (.func fid) fst caps)], 131, true⟩]) ?_ (fun j8 hj => ?_)
 ·refine GC.drawP [⟨bq3, [(.int .i64 0), (.int .i64 0), (.slice none 0 0)], 43, true⟩, ⟨bq2, [(.int .i64 W), (.int .i64 H), (.slice (some ⟨b, o, none⟩) n cap)], 43, true⟩, ⟨bq1, [(.func (.func fid) fst caps)], 131, true⟩] T.mixed (by kernel_rfl) (by kernel_rfl) (fuel := 10) rfl rfl ?_
  refine GH.tk 0 (v := (.pointer (some ⟨bq2, 0, none⟩))) rfl (by kernel_rfl) (fun _ _ _ h => h) (Ex.cast (Ex.fieldAddr rfl Try.underlying43 rfl T.sz3 (by decide)) rfl) (ulC (ulC (ulC ulN))) (by decide) ?_
  refine GH.tk 1 (v := (.int .i64 W)) rfl (by kernel_rfl) (fun _ _ _ h => h) (Ex.load rfl T.ag3 (i := 1) rfl rfl) (ulC (ulC (ulC ulN))) (by decide) ?_
  refine GH.tk 2 (v := (.pointer (some ⟨bq2, 1, none⟩))) rfl (by kernel_rfl) (fun _ _ _ h => h) (Ex.cast (Ex.fieldAddr rfl Try.underlying43 rfl T.sz3 (by decide)) rfl) (ulC (ulC (ulC ulN))) (by decide) ?_
  refine GH.tk 3 (v := (.int .i64 H)) rfl (by kernel_rfl) (fun _ _ _ h => h) (Ex.load rfl T.ag3 (i := 1) rfl rfl) (ulC (ulC (ulC ulN))) (by decide) ?_
  refine GH.tk 4 (v := (.pointer (some ⟨bq2, 2, none⟩))) rfl (by kernel_rfl) (fun _ _ _ h => h) (Ex.cast (Ex.fieldAddr rfl Try.underlying43 rfl T.sz41 (by decide)) rfl) (ulC (ulC (ulC ulN))) (by decide) ?_
  refine GH.tk 5 (v := (.slice (some ⟨b, o, none⟩) n cap)) rfl (by kernel_rfl) (fun _ _ _ h => h) (Ex.load rfl T.ag41 (i := 1) rfl rfl) (ulC (ulC (ulC ulN))) (by decide) ?_
  refine GH.tk 6 (v := (.int .i64 ((n : Int)))) rfl (by kernel_rfl) (fun _ _ _ h => h) (Ex.len rfl Try.underlying41) (ulC (ulC (ulC ulN))) (by decide) ?_
  refine GH.many (rs := [7, 9]) (by kernel_rfl) (by simp) ?_
  refine GHs.cons rfl (Stp.makeSlice (a1 := 0) (c := n) rfl rfl Try.underlying41 T.zr28 T.sz28 T.by28 rfl (Nat.zero_le _) (by omega) (by omega) (by decide)) (fun _ => (ulS (ulC (ulC (ulC ulN))))) (fun bq9 _ => ?_) ?_
  ·rw [madeCells_one, ← hx, ← mpC_zero f xs, hx]
   refine GH.tk 8 (v := (.agg #[(.int .i64 W), (.int .i64 H), (.slice (some ⟨bq9, 0, none⟩) 0 n)])) rfl (by kernel_rfl) (fun _ _ _ h => h) (Ex.build (vs := [(0, (.int .i64 W)), (1, (.int .i64 H)), (2, (.slice (some ⟨bq9, 0, none⟩) 0 n))]) rfl (by first | rfl | kernel_rfl)) (ulS (ulC (ulC (ulC ulN)))) (by decide) ?_
   refine GH.one 9 rfl (by kernel_rfl) (Stp.alloc T.zr43 (by decide)) (fun _ => (ulS (ulS (ulC (ulC (ulC ulN)))))) (fun bq10 _ => ?_)
   refine GH.done (by kernel_rfl) ?_
   refine GE.thenN ?_
   refine GE.tail rfl (Stp.st0 (cs' := [(.int .i64 W), (.int .i64 H), (.slice (some ⟨bq9, 0, none⟩) 0 n)]) rfl rfl rfl T.sz43 rfl rfl rfl) (fun _ _ => ?_)
   refine GE.thenN ?_
   exact St.mk ((bq10, bq9)) trivial (idx := [0, 1, 2, 3, 4]) ((sub_cons rfl ((sub_cons rfl ((sub_cons rfl ((sub_cons rfl ((sub_cons rfl ((sub_cons rfl ((sub_nil _)))))))))))))) (by decide) rfl
  refine GHs.cons rfl (Stp.alloc T.zr43 (by decide)) (fun _ => (ulS (ulC (ulC (ulC ulN))))) (fun bq11 _ => ?_) ?_
  ·refine GH.one 7 rfl (by kernel_rfl) (Stp.makeSlice (a1 := 0) (c := n) rfl rfl Try.underlying41 T.zr28 T.sz28 T.by28 rfl (Nat.zero_le _) (by omega) (by omega) (by decide)) (fun _ => (ulS (ulS (ulC (ulC (ulC ulN)))))) (fun bq12 _ => ?_)
   rw [madeCells_one, ← hx, ← mpC_zero f xs, hx]
   refine GH.tk 8 (v := (.agg #[(.int .i64 W), (.int .i64 H), (.slice (some ⟨bq12, 0, none⟩) 0 n)])) rfl (by kernel_rfl) (fun _ _ _ h => h) (Ex.build (vs := [(0, (.int .i64 W)), (1, (.int .i64 H)), (2, (.slice (some ⟨bq12, 0, none⟩) 0 n))]) rfl (by first | rfl | kernel_rfl)) (ulS (ulS (ulC (ulC (ulC ulN))))) (by decide) ?_
   refine GH.done (by kernel_rfl) ?_
   refine GE.thenN ?_
   refine GE.tail rfl (Stp.st1 (cs' := [(.int .i64 W), (.int .i64 H), (.slice (some ⟨bq12, 0, none⟩) 0 n)]) rfl rfl rfl T.sz43 rfl rfl rfl) (fun _ _ => ?_)
   refine GE.thenN ?_
   exact St.mk ((bq11, bq12)) trivial (idx := [1, 0, 2, 3, 4]) ((sub_cons rfl ((sub_cons rfl ((sub_cons rfl ((sub_cons rfl ((sub_cons rfl ((sub_cons rfl ((sub_nil _)))))))))))))) (by decide) rfl
  exact GHs.nil
 refine GE.thenN (GC.seq (GC.seq (GC.region ?_)))
 refine GL.val (v := (.pointer (some ⟨bq2, 2, none⟩))) (Ex.cast (Ex.fieldAddr rfl Try.underlying43 rfl T.sz41 (by decide)) rfl) (by decide) ?_
 refine GL.val (Ex.load rfl T.ag41 (i := 3) rfl rfl) (by decide) ?_
 refine GL.val (v := (.int .i64 ((n : Int)))) (Ex.len rfl Try.underlying41) (by decide) ?_
 refine GL.mv rfl (by decide) ?_
 refine GL.nil (GE.thenN (GC.block ?_))
 refine GC.loop (σ := Nat) (fun i => i ≤ n) (fun i => [(2, (.pointer (some ⟨bq1, 0, none⟩))), (3, (.pointer (some ⟨bq2, 0, none⟩))), (4, (.pointer (some ⟨bq3, 0, none⟩))), (5, (.pointer (some ⟨j8.1, 0, none⟩))), (18, (.slice (some ⟨b, o, none⟩) n cap)), (19, (.int .i64 ((n : Int)))), (20, (.int .i64 (((i : Nat) : Int))))]) (fun i => [⟨j8.1, [(.int .i64 W), (.int .i64 H), (.slice (some ⟨j8.2, 0, none⟩) i n)], 43, true⟩, ⟨j8.2, mpC f xs i, 28, true⟩, ⟨bq3, [(.int .i64 0), (.int .i64 0), (.slice none 0 0)], 43, true⟩, ⟨bq2, [(.int .i64 W), (.int .i64 H), (.slice (some ⟨b, o, none⟩) n cap)], 43, true⟩, ⟨bq1, [(.func (.func fid) fst caps)], 131, true⟩]) (fun i => n - i) (0) (Nat.zero_le _) ((sub_cons rfl ((sub_cons rfl ((sub_cons rfl ((sub_cons rfl ((sub_cons rfl ((sub_cons rfl ((sub_cons rfl ((sub_nil _)))))))))))))))) (ulC (ulC (ulC (ulC (ulC ulN))))) (fun i hp => ?_)
 refine GC.seq (GC.region ?_)
 refine GL.val (v := (.bool (decide ((((i : Nat) : Int)) < ((n : Int)))))) (Ex.lss rfl rfl) (by decide) ?_
 refine GL.nil (GE.thenN (GC.seq ?_))
 refine GC.cond rfl (fun hq13 => ?_) (fun hq13 => ?_)
 ·replace hq13 := of_decide_eq_true hq13
  refine GC.skip (GE.thenN (GC.seq (GC.block (GC.seq (GC.region ?_)))))
  refine GL.val (v := (.pointer (some ⟨b, o + i, none⟩))) (Ex.cast (Ex.indexAddr rfl rfl Try.underlying41 T.sz28 (by omega) (by omega)) (by simp)) (by decide) ?_
  refine GL.val (v := (.int .u32 ((xs.getD i 0)))) (Ex.loadO rfl T.ag28 (Rd.at hr (by omega)) (fun x => x)) (by decide) ?_
  refine GL.sg rfl (by decide) ?_
  refine GL.nil (GE.thenN ?_)
  refine GC.join (σ := Unit) (fun j => True) (fun j => [(2, (.pointer (some ⟨bq1, 0, none⟩))), (3, (.pointer (some ⟨bq2, 0, none⟩))), (4, (.pointer (some ⟨bq3, 0, none⟩))), (5, (.pointer (some ⟨j8.1, 0, none⟩))), (7, (.int .u32 ((xs.getD i 0)))), (18, (.slice (some ⟨b, o, none⟩) n cap)), (19, (.int .i64 ((n : Int)))), (20, (.int .i64 (((i : Nat) : Int)))), (21, (.bool (decide ((((i : Nat) : Int)) < ((n : Int)))))), (22, (.pointer (some ⟨b, o + i, none⟩))), (23, (.int .u32 ((xs.getD i 0))))]) (fun j => [⟨j8.1, [(.int .i64 W), (.int .i64 H), (.slice (some ⟨j8.2, 0, none⟩) (i + 1) n)], 43, true⟩, ⟨j8.2, mpC f xs (i + 1), 28, true⟩, ⟨bq3, [(.int .i64 0), (.int .i64 0), (.slice none 0 0)], 43, true⟩, ⟨bq2, [(.int .i64 W), (.int .i64 H), (.slice (some ⟨b, o, none⟩) n cap)], 43, true⟩, ⟨bq1, [(.func (.func fid) fst caps)], 131, true⟩]) ?_ (fun j21 hj => ?_)
  ·refine GC.drawP [⟨bq3, [(.int .i64 0), (.int .i64 0), (.slice none 0 0)], 43, true⟩, ⟨bq2, [(.int .i64 W), (.int .i64 H), (.slice (some ⟨b, o, none⟩) n cap)], 43, true⟩, ⟨bq1, [(.func (.func fid) fst caps)], 131, true⟩] T.mixed (by kernel_rfl) (by kernel_rfl) (fuel := 9) rfl rfl ?_
   refine GH.tk 0 (v := (.pointer (some ⟨j8.1, 2, none⟩))) rfl (by kernel_rfl) (fun _ _ _ h => h) (Ex.cast (Ex.fieldAddr rfl Try.underlying43 rfl T.sz41 (by decide)) rfl) (ulS (ulS (ulC (ulC (ulC ulN))))) (by decide) ?_
   refine GH.tk 2 (v := (.pointer (some ⟨bq1, 0, none⟩))) rfl (by kernel_rfl) (fun _ _ _ h => h) (Ex.cast (Ex.fieldAddr rfl Try.underlying131 rfl T.sz89 (by decide)) rfl) (ulS (ulS (ulC (ulC (ulC ulN))))) (by decide) ?_
   refine GH.tk 3 (v := (.func (.func fid) fst caps)) rfl (by kernel_rfl) (fun _ _ _ h => h) (Ex.load rfl T.ag89 (i := 2) rfl rfl) (ulS (ulS (ulC (ulC (ulC ulN))))) (by decide) ?_
   refine GH.tk 4 (v := (.int .u32 ((xs.getD i 0)))) rfl (by kernel_rfl) (fun _ _ _ h => h) (Ex.move rfl) (ulS (ulS (ulC (ulC (ulC ulN))))) (by decide) ?_
   refine GH.many (rs := [1, 5]) (by kernel_rfl) (by simp) ?_
   refine GHs.cons rfl (Ex.wp (v := (.slice (some ⟨j8.2, 0, none⟩) i n)) (Ex.load rfl T.ag41 (i := 0) rfl rfl) (by decide)) (fun _ => (ulS (ulS (ulC (ulC (ulC ulN)))))) (fun _ _ => ?_) ?_
   ·refine GH.one 5 rfl (by kernel_rfl) (Stp.callRB (vs := [(.int .u32 ((xs.getD i 0)))]) rfl rfl hf.1 (by decide) (fun wc hw => hf.2 _ (getD_mem (by omega)) wc hw.1)) (fun _ => (ulS (ulS (ulC (ulC (ulC ulN)))))) (fun xq22 hq23 => ?_)
    refine GH.one 6 rfl (by kernel_rfl) (Stp.buildSlice (cs := [(.int .u32 ((f (xs.getD i 0))))]) (vs := [(0, (.int .u32 ((f (xs.getD i 0)))))]) Try.underlying41 T.zr28 T.sz28 rfl (by decide) (by decide) (by first | rfl | kernel_rfl) (by decide)) (fun _ => (ulS (ulS (ulS (ulC (ulC (ulC ulN))))))) (fun bq24 _ => ?_)
    refine GH.one 7 rfl (by kernel_rfl) (Stp.appendFits (i := 2) (vs := [.int .u32 (f (xs.getD i 0))]) (L1 := [⟨bq24, [(.int .u32 ((f (xs.getD i 0))))], 28, true⟩, ⟨j8.1, [(.int .i64 W), (.int .i64 H), (.slice (some ⟨j8.2, 0, none⟩) i n)], 43, true⟩, ⟨j8.2, mpC f xs (i + 1), 28, true⟩, ⟨bq3, [(.int .i64 0), (.int .i64 0), (.slice none 0 0)], 43, true⟩, ⟨bq2, [(.int .i64 W), (.int .i64 H), (.slice (some ⟨b, o, none⟩) n cap)], 43, true⟩, ⟨bq1, [(.func (.func fid) fst caps)], 131, true⟩]) rfl rfl Try.underlying41 T.sz28 rfl (fun w hw => hw.rdOf (i := 0) rfl 0) rfl rfl (len' := i + 1) rfl (by omega) (by rw [mpC_len _ _ _ (by omega)]; simp; omega) (by rw [Nat.mul_one, mpC_step _ _ _ (by omega)]; rfl) (by decide)) (fun _ => (ulS (ulS (ulS (ulC (ulC (ulC ulN))))))) (fun _ _ => ?_)
    refine GH.tk 8 (v := (.pointer (some ⟨j8.1, 2, none⟩))) rfl (by kernel_rfl) (fun _ _ _ h => h) (Ex.cast (Ex.fieldAddr rfl Try.underlying43 rfl T.sz41 (by decide)) rfl) (ulS (ulS (ulS (ulC (ulC (ulC ulN)))))) (by decide) ?_
    refine GH.done (by kernel_rfl) ?_
    refine GE.thenN ?_
    refine GE.tail rfl (Stp.st1 (cs' := [(.int .i64 W), (.int .i64 H), (.slice (some ⟨j8.2, 0, none⟩) (i + 1) n)]) rfl rfl rfl T.sz41 rfl rfl rfl) (fun _ _ => ?_)
    refine GE.thenN ?_
    exact St.mk (()) trivial (idx := [1, 2, 3, 4, 5]) ((sub_cons rfl ((sub_cons rfl ((sub_cons rfl ((sub_cons rfl ((sub_cons rfl ((sub_cons rfl ((sub_cons rfl ((sub_cons rfl ((sub_cons rfl ((sub_cons rfl ((sub_cons rfl ((sub_nil _)))))))))))))))))))))))) (by decide) rfl
   refine GHs.cons rfl (Stp.callRB (vs := [(.int .u32 ((xs.getD i 0)))]) rfl rfl hf.1 (by decide) (fun wc hw => hf.2 _ (getD_mem (by omega)) wc hw.1)) (fun _ => (ulS (ulS (ulC (ulC (ulC ulN)))))) (fun xq25 hq26 => ?_) ?_
   ·refine GH.many (rs := [1, 6]) (by kernel_rfl) (by simp) ?_
    refine GHs.cons rfl (Ex.wp (v := (.slice (some ⟨j8.2, 0, none⟩) i n)) (Ex.load rfl T.ag41 (i := 0) rfl rfl) (by decide)) (fun _ => (ulS (ulS (ulC (ulC (ulC ulN)))))) (fun _ _ => ?_) ?_
    ·refine GH.one 6 rfl (by kernel_rfl) (Stp.buildSlice (cs := [(.int .u32 ((f (xs.getD i 0))))]) (vs := [(0, (.int .u32 ((f (xs.getD i 0)))))]) Try.underlying41 T.zr28 T.sz28 rfl (by decide) (by decide) (by first | rfl | kernel_rfl) (by decide)) (fun _ => (ulS (ulS (ulS (ulC (ulC (ulC ulN))))))) (fun bq27 _ => ?_)
     refine GH.one 7 rfl (by kernel_rfl) (Stp.appendFits (i := 2) (vs := [.int .u32 (f (xs.getD i 0))]) (L1 := [⟨bq27, [(.int .u32 ((f (xs.getD i 0))))], 28, true⟩, ⟨j8.1, [(.int .i64 W), (.int .i64 H), (.slice (some ⟨j8.2, 0, none⟩) i n)], 43, true⟩, ⟨j8.2, mpC f xs (i + 1), 28, true⟩, ⟨bq3, [(.int .i64 0), (.int .i64 0), (.slice none 0 0)], 43, true⟩, ⟨bq2, [(.int .i64 W), (.int .i64 H), (.slice (some ⟨b, o, none⟩) n cap)], 43, true⟩, ⟨bq1, [(.func (.func fid) fst caps)], 131, true⟩]) rfl rfl Try.underlying41 T.sz28 rfl (fun w hw => hw.rdOf (i := 0) rfl 0) rfl rfl (len' := i + 1) rfl (by omega) (by rw [mpC_len _ _ _ (by omega)]; simp; omega) (by rw [Nat.mul_one, mpC_step _ _ _ (by omega)]; rfl) (by decide)) (fun _ => (ulS (ulS (ulS (ulC (ulC (ulC ulN))))))) (fun _ _ => ?_)
     refine GH.tk 8 (v := (.pointer (some ⟨j8.1, 2, none⟩))) rfl (by kernel_rfl) (fun _ _ _ h => h) (Ex.cast (Ex.fieldAddr rfl Try.underlying43 rfl T.sz41 (by decide)) rfl) (ulS (ulS (ulS (ulC (ulC (ulC ulN)))))) (by decide) ?_
     refine GH.done (by kernel_rfl) ?_
     refine GE.thenN ?_
     refine GE.tail rfl (Stp.st1 (cs' := [(.int .i64 W), (.int .i64 H), (.slice (some ⟨j8.2, 0, none⟩) (i + 1) n)]) rfl rfl rfl T.sz41 rfl rfl rfl) (fun _ _ => ?_)
     refine GE.thenN ?_
     exact St.mk (()) trivial (idx := [1, 2, 3, 4, 5]) ((sub_cons rfl ((sub_cons rfl ((sub_cons rfl ((sub_cons rfl ((sub_cons rfl ((sub_cons rfl ((sub_cons rfl ((sub_cons rfl ((sub_cons rfl ((sub_cons rfl ((sub_cons rfl ((sub_nil _)))))))))))))))))))))))) (by decide) rfl
    refine GHs.cons rfl (Stp.buildSlice (cs := [(.int .u32 ((f (xs.getD i 0))))]) (vs := [(0, (.int .u32 ((f (xs.getD i 0)))))]) Try.underlying41 T.zr28 T.sz28 rfl (by decide) (by decide) (by first | rfl | kernel_rfl) (by decide)) (fun _ => (ulS (ulS (ulS (ulC (ulC (ulC ulN))))))) (fun bq28 _ => ?_) ?_
    ·refine GH.one 1 rfl (by kernel_rfl) (Ex.wp (v := (.slice (some ⟨j8.2, 0, none⟩) i n)) (Ex.load rfl T.ag41 (i := 1) rfl rfl) (by decide)) (fun _ => (ulS (ulS (ulS (ulC (ulC (ulC ulN))))))) (fun _ _ => ?_)
     refine GH.one 7 rfl (by kernel_rfl) (Stp.appendFits (i := 2) (vs := [.int .u32 (f (xs.getD i 0))]) (L1 := [⟨bq28, [(.int .u32 ((f (xs.getD i 0))))], 28, true⟩, ⟨j8.1, [(.int .i64 W), (.int .i64 H), (.slice (some ⟨j8.2, 0, none⟩) i n)], 43, true⟩, ⟨j8.2, mpC f xs (i + 1), 28, true⟩, ⟨bq3, [(.int .i64 0), (.int .i64 0), (.slice none 0 0)], 43, true⟩, ⟨bq2, [(.int .i64 W), (.int .i64 H), (.slice (some ⟨b, o, none⟩) n cap)], 43, true⟩, ⟨bq1, [(.func (.func fid) fst caps)], 131, true⟩]) rfl rfl Try.underlying41 T.sz28 rfl (fun w hw => hw.rdOf (i := 0) rfl 0) rfl rfl (len' := i + 1) rfl (by omega) (by rw [mpC_len _ _ _ (by omega)]; simp; omega) (by rw [Nat.mul_one, mpC_step _ _ _ (by omega)]; rfl) (by decide)) (fun _ => (ulS (ulS (ulS (ulC (ulC (ulC ulN))))))) (fun _ _ => ?_)
     refine GH.tk 8 (v := (.pointer (some ⟨j8.1, 2, none⟩))) rfl (by kernel_rfl) (fun _ _ _ h => h) (Ex.cast (Ex.fieldAddr rfl Try.underlying43 rfl T.sz41 (by decide)) rfl) (ulS (ulS (ulS (ulC (ulC (ulC ulN)))))) (by decide) ?_
     refine GH.done (by kernel_rfl) ?_
     refine GE.thenN ?_
     refine GE.tail rfl (Stp.st1 (cs' := [(.int .i64 W), (.int .i64 H), (.slice (some ⟨j8.2, 0, none⟩) (i + 1) n)]) rfl rfl rfl T.sz41 rfl rfl rfl) (fun _ _ => ?_)
     refine GE.thenN ?_
     exact St.mk (()) trivial (idx := [1, 2, 3, 4, 5]) ((sub_cons rfl ((sub_cons rfl ((sub_cons rfl ((sub_cons rfl ((sub_cons rfl ((sub_cons rfl ((sub_cons rfl ((sub_cons rfl ((sub_cons rfl ((sub_cons rfl ((sub_cons rfl ((sub_nil _)))))))))))))))))))))))) (by decide) rfl
    exact GHs.nil
   exact GHs.nil
  refine GE.blockN (GE.thenN (GC.region ?_))
  refine GL.val (v := (.int .i64 (((i + 1 : Nat) : Int)))) (Ex.add rfl rfl (Z := ((i + 1 : Nat) : Int)) (by rw [w64 (by omega)]; rfl)) (by decide) ?_
  refine GL.mv rfl (by decide) ?_
  refine GL.nil (GE.thenN ?_)
  exact Head.mk (i + 1) (by omega) (by omega) ((sub_cons rfl ((sub_cons rfl ((sub_cons rfl ((sub_cons rfl ((sub_cons rfl ((sub_cons rfl ((sub_cons rfl ((sub_nil _)))))))))))))))) (ulC (ulC (ulC (ulC (ulC ulN)))))
 ·replace hq13 := of_decide_eq_false hq13
  refine GC.exit (GE.thenE (GE.thenE (GE.blockE (GE.thenN (GC.seq ?_)))))
  rw [show i = n from by omega, ← hx, mpC_full, hx]
  refine GC.region ?_
  refine GL.val (v := (.agg #[(.int .i64 W), (.int .i64 H), (.slice (some ⟨j8.2, 0, none⟩) n n)])) (Ex.loadA rfl T.ag43 T.sz43 (i := 0) rfl (vs := [(.int .i64 W), (.int .i64 H), (.slice (some ⟨j8.2, 0, none⟩) n n)]) rfl rfl) (by decide) ?_
  refine GL.step (Stp.st2 (cs' := [(.int .i64 W), (.int .i64 H), (.slice (some ⟨j8.2, 0, none⟩) n n)]) rfl rfl rfl T.sz43 rfl rfl rfl) (fun _ _ => ?_)
  refine GL.nil (GE.thenN (GC.ret ?_))
  refine GC.ret1 rfl (Rv.cellA rfl T.ag43 T.sz43 (L := _) (i := 2) rfl (vs := [(.int .i64 W), (.int .i64 H), (.slice (some ⟨j8.2, 0, none⟩) n n)]) rfl rfl) (fun wN HN => ?_)
  exact HN.ret (j8.2, n, ([] : List Value)) ⟨by simp [hx], (show n ≤ 9223372036854775807 by omega)⟩ (by simp [hx]) (by rw [List.append_nil]; exact (ulS (ulC (ulS (ulS (ulS ulN)))))) (by rfl)

theorem chplane_p (p : Pn) (W H : Nat) (fid : FuncId) (fst caps : Array Value) (f : Int → Int) (w : World) (hok : okP W H) (h : p.W = (W : Int) ∧ p.H = (H : Int) ∧ p.n = W * H) (hp : p.Ok w) (hf : FnS Try.prog w fid fst caps p.xs f) : Calls Try.prog 79 #[(.agg #[(.func (.func fid) fst caps)]), .agg #[.int .i64 p.W, .int .i64 p.H, .slice p.ad p.n p.cap]] w (RetP w (p.W, p.H, p.xs.map f) 28) := by
 obtain ⟨pw, ph, ad, n, cap, xs⟩ := p
 obtain ⟨h1, h2, h3⟩ := h
 obtain ⟨hl, hb⟩ := hp
 dsimp only at h1 h2 h3 hl hb
 subst h1 h2 h3
 have hq := Nat.mul_pos (show 0 < W from hok.1) (show 0 < H from hok.2.1)
 rcases hl.2.2.2 with q | ⟨b, o, rfl, hr⟩
 ·omega
 ·exact chplane W H b o (W * H) cap xs fid fst caps f w hl.1 hq hb hr hf

theorem map1_all (i W H bn bd : Nat) (k : Int) (p : Pn) (fid : FuncId) (fst caps : Array Value) (f : Int → Int) (w : World) (hh : Has w [⟨bn, [(.int .i64 k)], 3, false⟩, ⟨bd, [(.func (.func 79) #[(.agg #[(.func (.func fid) fst caps)])] #[])], 62, false⟩]) (hok : okP W H) (h : p.W = (W : Int) ∧ p.H = (H : Int) ∧ p.n = W * H) (hp : p.Ok w) (hf : FnS Try.prog w fid fst caps p.xs f) (hk : k = -1) :
  Calls Try.prog 80 #[(.int .i64 (((i : Nat) : Int))), (.agg #[(.int .i64 p.W), (.int .i64 p.H), (.slice p.ad p.n p.cap)]), (.pointer (some ⟨bn, 0, none⟩)), (.pointer (some ⟨bd, 0, none⟩))] w (RetE w (p.W, p.H, p.xs.map f) 28) := by
 refine enter (M := None) (L := [⟨bn, [(.int .i64 k)], 3, false⟩, ⟨bd, [(.func (.func 79) #[(.agg #[(.func (.func fid) fst caps)])] #[])], 62, false⟩]) (n := 20) (l := [(0, (.int .i64 (((i : Nat) : Int)))), (1, (.agg #[(.int .i64 p.W), (.int .i64 p.H), (.slice p.ad p.n p.cap)])), (2, (.pointer (some ⟨bn, 0, none⟩))), (3, (.pointer (some ⟨bd, 0, none⟩)))]) Try.func80 rfl rfl (Args.cons rfl (Args.cons rfl (Args.cons rfl (Args.cons rfl (Args.nil _))))) (Hp.reads hh rfl) ?_
 refine GC.seq (GC.region ?_)
 refine GL.step (Stp.box (cs := [(.int .i64 p.W), (.int .i64 p.H), (.slice p.ad p.n p.cap)]) rfl rfl (by decide)) (fun bq1 _ => ?_)
 refine GL.step (Stp.alloc T.zr43 (by decide)) (fun bq2 _ => ?_)
 refine GL.sg rfl (by decide) ?_
 refine GL.nil (GE.thenN (GC.seq (GC.seq (GC.region ?_))))
 refine GL.val (Ex.load rfl T.ag3 (i := 2) rfl rfl) (by decide) ?_
 refine GL.val (v := (.bool false)) (Ex.cast (Ex.neq rfl rfl) (congrArg Value.bool (decide_eq_false (by exact fun h => h hk)))) (by decide) ?_
 refine GL.mv rfl (by decide) ?_
 refine GL.skipG (tj := 10) rfl rfl rfl (by decide) ?_
 refine GL.skipG (tj := 10) rfl rfl rfl (by decide) ?_
 refine GL.skipG (tj := 10) rfl rfl rfl (by decide) ?_
 refine GL.val (v := (.bool false)) (Ex.pickF rfl rfl) (by decide) ?_
 refine GL.nil (GE.thenN ?_)
 refine GC.cond rfl (fun hq3 => by cases hq3) (fun _ => ?_)
 refine GC.skip (GE.thenN (GC.seq (GC.region ?_)))
 refine GL.val (Ex.load rfl T.ag62 (i := 3) rfl rfl) (by decide) ?_
 refine GL.val (v := (.agg #[(.int .i64 p.W), (.int .i64 p.H), (.slice p.ad p.n p.cap)])) (Ex.loadA rfl T.ag43 T.sz43 (i := 1) rfl (vs := [(.int .i64 p.W), (.int .i64 p.H), (.slice p.ad p.n p.cap)]) rfl rfl) (by decide) ?_
 refine GL.step (Stp.callRB (σ := Nat × Nat × List Value) (p := fun rz => ((p.W, p.H, p.xs.map f).2.2.map u32 ++ rz.2.2).length = rz.2.1 * 1 ∧ rz.2.1 ≤ 9223372036854775807) (v := fun rz => (.agg #[(.int .i64 ((p.W, p.H, p.xs.map f).1)), (.int .i64 ((p.W, p.H, p.xs.map f).2.1)), (.slice (some ⟨rz.1, 0, none⟩) ((p.W, p.H, p.xs.map f).2.2.length) rz.2.1)])) (N := fun rz => [⟨rz.1, (p.W, p.H, p.xs.map f).2.2.map u32 ++ rz.2.2, 28, true⟩]) (vs := [(.agg #[(.int .i64 p.W), (.int .i64 p.H), (.slice p.ad p.n p.cap)])]) rfl rfl T.own79 (by decide) (fun wc hw => (by exact chplane_p p W H fid fst caps f wc hok h (hp.later hw.1) (hf.later hw.1)))) (fun xq4 hq5 => ?_)
 refine GL.step (Stp.st1 (cs' := [(.int .i64 ((p.W, p.H, p.xs.map f).1)), (.int .i64 ((p.W, p.H, p.xs.map f).2.1)), (.slice (some ⟨xq4.1, 0, none⟩) ((p.W, p.H, p.xs.map f).2.2.length) xq4.2.1)]) rfl rfl rfl T.sz43 rfl rfl rfl) (fun _ _ => ?_)
 refine GL.sg rfl (by decide) ?_
 refine GL.nil (GE.thenN (GC.ret ?_))
 refine GC.ret2 rfl (Rv.cellA rfl T.ag43 T.sz43 (L := _) (i := 1) rfl (vs := [(.int .i64 ((p.W, p.H, p.xs.map f).1)), (.int .i64 ((p.W, p.H, p.xs.map f).2.1)), (.slice (some ⟨xq4.1, 0, none⟩) ((p.W, p.H, p.xs.map f).2.2.length) xq4.2.1)]) rfl rfl) (Rv.tmp rfl) (fun wN HN => ?_)
 exact HN.ret xq4 hq5 rfl (ulC (ulS (ulS (ulS (ulS ulN))))) rfl

theorem map_all (sp : Int) (b o n cap : Nat) (ps : List Pn) (W H : Nat) (fid : FuncId) (fst caps : Array Value) (f : Int → Int) (w : World) (hps : Pns w b o ps) (hn : n = ps.length) (hok : OkPic sp ps W H) (hf : ∀ p ∈ ps, FnS Try.prog w fid fst caps p.xs f) :
  Calls Try.prog 46 #[(.agg #[(.int .i64 sp), (.slice (some ⟨b, o, none⟩) n cap)]), (.int .i64 (-1)), (.func (.func fid) fst caps)] w (Ret w (fun r : Ac => r.qs ≠ [] ∧ r.ds = ((List.range n).map (mpG f ((-1)) ps)) ∧ r.Ok ∧ ∀ q ∈ r.qs, q.Ok) (fun r => .tuple #[(.agg #[(.int .i64 sp), (.slice r.ad r.n r.cp)]), .int .i64 0]) (fun r => r.blks 43 28)) := by
 refine enter (M := None) (L := []) (n := 33) (l := [(0, (.agg #[(.int .i64 sp), (.slice (some ⟨b, o, none⟩) n cap)])), (1, (.int .i64 (-1))), (2, (.func (.func fid) fst caps))]) Try.func46 rfl rfl (Args.cons rfl (Args.cons rfl (Args.cons rfl (Args.nil _)))) (Hp.start _ _) ?_
 refine GC.seq (GC.region ?_)
 refine GL.step (Stp.box (cs := [(.int .i64 sp), (.slice (some ⟨b, o, none⟩) n cap)]) rfl rfl (by decide)) (fun bq1 _ => ?_)
 refine GL.step (Stp.box (cs := [(.int .i64 (-1))]) rfl rfl (by decide)) (fun bq2 _ => ?_)
 refine GL.step (Stp.alloc T.zr25 (by decide)) (fun bq3 _ => ?_)
 refine GL.sg rfl (by decide) ?_
 refine GL.nil (GE.thenN (GC.seq (GC.seq (GC.region ?_))))
 refine GL.val (v := (.agg #[(.int .i64 sp), (.slice (some ⟨b, o, none⟩) n cap)])) (Ex.loadA rfl T.ag25 T.sz25 (i := 2) rfl (vs := [(.int .i64 sp), (.slice (some ⟨b, o, none⟩) n cap)]) rfl rfl) (by decide) ?_
 refine GL.step (Stp.callR (σ := Unit) (p := fun rz => True) (v := fun rz => (.int .i64 0)) (N := fun rz => []) (vs := [(.agg #[(.int .i64 sp), (.slice (some ⟨b, o, none⟩) n cap)])]) rfl rfl T.own9 (by decide) (fun wc hw => (by have h := chk_p sp b o n cap ps wc (hps.later hw.1) hn (by have := hok.n4; omega); rw [hok.chk] at h; exact h))) (fun xq4 hq5 => ?_)
 refine GL.sg rfl (by decide) ?_
 refine GL.nil (GE.thenN (GC.seq (GC.region ?_)))
 refine GL.mv rfl (by decide) ?_
 refine GL.val (v := (.bool false)) (Ex.cast (Ex.neq rfl rfl) rfl) (by decide) ?_
 refine GL.nil (GE.thenN ?_)
 refine GC.cond rfl (fun hq6 => by cases hq6) (fun _ => ?_)
 refine GC.skip (GE.thenN (GC.seq (GC.seq (GC.region ?_))))
 refine GL.val (Ex.load rfl T.ag3 (i := 1) rfl rfl) (by decide) ?_
 refine GL.val (v := (.bool false)) (Ex.cast (Ex.neq rfl rfl) rfl) (by decide) ?_
 refine GL.mv rfl (by decide) ?_
 refine GL.skipG (tj := 18) rfl rfl rfl (by decide) ?_
 refine GL.skipG (tj := 18) rfl rfl rfl (by decide) ?_
 refine GL.skipG (tj := 18) rfl rfl rfl (by decide) ?_
 refine GL.skipG (tj := 18) rfl rfl rfl (by decide) ?_
 refine GL.val (v := (.bool false)) (Ex.pickF rfl rfl) (by decide) ?_
 refine GL.nil (GE.thenN ?_)
 refine GC.cond rfl (fun hq7 => by cases hq7) (fun _ => ?_)
 refine GC.skip (GE.thenN (GC.seq (GC.region ?_)))
 refine GL.mv rfl (by decide) ?_
 refine GL.val (v := (.agg #[(.func (.func fid) fst caps)])) (Ex.build (vs := [(0, (.func (.func fid) fst caps))]) rfl (by first | rfl | kernel_rfl)) (by decide) ?_
 refine GL.val (v := (.func (.func 79) #[(.agg #[(.func (.func fid) fst caps)])] #[])) (Ex.funcB (bs := [(.agg #[(.func (.func fid) fst caps)])]) (cs := []) (fun _ hF => hF.evals _ _ rfl) (fun _ hF => hF.evals _ _ rfl)) (by decide) ?_
 refine GL.step (Stp.alloc T.zr62 (by decide)) (fun bq8 _ => ?_)
 refine GL.step (Stp.st0 (cs' := [(.func (.func 79) #[(.agg #[(.func (.func fid) fst caps)])] #[])]) rfl rfl rfl T.sz62 rfl rfl rfl) (fun _ _ => ?_)
 refine GL.nil (GE.thenN (GC.seq (GC.region ?_)))
 refine GL.val (v := (.agg #[(.int .i64 sp), (.slice (some ⟨b, o, none⟩) n cap)])) (Ex.loadA rfl T.ag25 T.sz25 (i := 3) rfl (vs := [(.int .i64 sp), (.slice (some ⟨b, o, none⟩) n cap)]) rfl rfl) (by decide) ?_
 refine GL.val (v := (.func (.func 80) #[] #[(.pointer (some ⟨bq2, 0, none⟩)), (.pointer (some ⟨bq8, 0, none⟩))])) (Ex.func (cs := [(.pointer (some ⟨bq2, 0, none⟩)), (.pointer (some ⟨bq8, 0, none⟩))]) rfl (fun _ hF => hF.evals _ _ rfl)) (by decide) ?_
 refine GL.step (Stp.call (vs := [(.agg #[(.int .i64 sp), (.slice (some ⟨b, o, none⟩) n cap)]), (.func (.func 80) #[] #[(.pointer (some ⟨bq2, 0, none⟩)), (.pointer (some ⟨bq8, 0, none⟩))])]) rfl rfl T.own36 (by decide) (fun wc hw => (Ret.frm (L' := fun x => (⟨bq8, [(.func (.func 79) #[(.agg #[(.func (.func fid) fst caps)])] #[])], 62, true⟩ :: ⟨bq3, [(.int .i64 0), (.slice none 0 0)], 25, true⟩ :: ⟨bq2, [(.int .i64 (-1))], 3, true⟩ :: ⟨bq1, [(.int .i64 sp), (.slice (some ⟨b, o, none⟩) n cap)], 25, true⟩ :: (x.blks 43 28 ++ []))) hw (every_ok sp b o n cap ps W H 80 #[.pointer (some ⟨bq2, 0, none⟩), .pointer (some ⟨bq8, 0, none⟩)] (mpG f ((-1)) ps) wc (hps.later hw.1) hn hok ⟨T.own80, fun i hi w' hk' => by
  have hh := ((Has.cons (hw.hasOf (i := 2) rfl) (Has.cons (hw.hasOf (i := 0) rfl) (Has.nil _)) : Has wc [⟨bq2, [.int .i64 (-1)], 3, false⟩, ⟨bq8, [(.func (.func 79) #[(.agg #[(.func (.func fid) fst caps)])] #[])], 62, false⟩]).later hk')
  rw [show mpG f (-1) ps i = _ from if_pos (Or.inl rfl)]; exact map1_all i W H bq2 bq8 (-1) (pAt ps i) fid fst caps f w' hh hok.ok (hok.at hi) ((hps.ok _ (pAt_mem hi)).later (hw.1.trans hk' (fun _ _ h => h))) ((hf _ (pAt_mem hi)).later (hw.1.trans hk' (fun _ _ h => h))) rfl⟩) (fun x w' _ h => by exact Hp.segsD (A := [x.blks 43 28, [⟨bq8, [(.func (.func 79) #[(.agg #[(.func (.func fid) fst caps)])] #[])], 62, true⟩, ⟨bq3, [(.int .i64 0), (.slice none 0 0)], 25, true⟩, ⟨bq2, [(.int .i64 (-1))], 3, true⟩, ⟨bq1, [(.int .i64 sp), (.slice (some ⟨b, o, none⟩) n cap)], 25, true⟩]]) (idx := [1, 0]) 2 [] h rfl (by decide) rfl)))) (fun xq9 hq10 => ?_)
 refine GL.val (Ex.extract rfl rfl) (by decide) ?_
 refine GL.val (Ex.extract rfl rfl) (by decide) ?_
 refine GL.step (Stp.st1 (cs' := [(.int .i64 sp), (.slice xq9.ad xq9.n xq9.cp)]) rfl rfl rfl T.sz25 rfl rfl rfl) (fun _ _ => ?_)
 refine GL.sg rfl (by decide) ?_
 refine GL.nil (GE.thenN (GC.ret ?_))
 refine GC.ret2 rfl (Rv.cellA rfl T.ag25 T.sz25 (L := _) (i := 1) rfl (vs := [(.int .i64 sp), (.slice xq9.ad xq9.n xq9.cp)]) rfl rfl) (Rv.tmp rfl) (fun wN HN => ?_)
 exact HN.ret xq9 hq10 rfl (by rw [List.append_nil]; exact ((ulS (ulS (ulS (ulS ulR)))))) (Ac.blks_own _ _ _)

theorem affine_at (a b_ s r : Int) (w : World) (hf : ∀ w', Keep None w w' → Calls Try.prog 81 #[.int .u32 s, .int .u32 a, .int .u32 b_] w' (Ret w' (fun _ : Unit => True) (fun _ => .int .u32 r) (fun _ => []))) :
  Calls Try.prog 47 #[(.agg #[(.int .u32 a), (.int .u32 b_)]), (.int .u32 s)] w (Ret w (fun _ : Unit => True) (fun _ => .int .u32 r) (fun _ => [])) := by
 refine enter (M := None) (L := []) (n := 11) (l := [(0, (.agg #[(.int .u32 a), (.int .u32 b_)])), (1, (.int .u32 s))]) Try.func47 rfl rfl (Args.cons rfl (Args.cons rfl (Args.nil _))) (Hp.start _ _) ?_
 refine GC.seq (GC.region ?_)
 refine GL.step (Stp.box (cs := [(.int .u32 a), (.int .u32 b_)]) rfl rfl (by decide)) (fun bq1 _ => ?_)
 refine GL.sg rfl (by decide) ?_
 refine GL.nil (GE.thenN (GC.seq (GC.region ?_)))
 refine GL.mv rfl (by decide) ?_
 refine GL.val (v := (.pointer (some ⟨bq1, 0, none⟩))) (Ex.cast (Ex.fieldAddr rfl Try.underlying91 rfl T.sz28 (by decide)) rfl) (by decide) ?_
 refine GL.val (Ex.load rfl T.ag28 (i := 0) rfl rfl) (by decide) ?_
 refine GL.val (v := (.pointer (some ⟨bq1, 1, none⟩))) (Ex.cast (Ex.fieldAddr rfl Try.underlying91 rfl T.sz28 (by decide)) rfl) (by decide) ?_
 refine GL.val (Ex.load rfl T.ag28 (i := 0) rfl rfl) (by decide) ?_
 refine GL.step (Stp.callR (vs := [(.int .u32 s), (.int .u32 a), (.int .u32 b_)]) rfl rfl T.own81 (by decide) (fun wc hw => hf wc hw.1)) (fun xq2 hq3 => ?_)
 refine GL.sg rfl (by decide) ?_
 refine GL.nil (GE.thenN (GC.ret ?_))
 refine GC.ret1 rfl (Rv.tmp rfl) (fun wN HN => ?_)
 exact HN.ret () trivial rfl (List.nil_sublist _) rfl

end Go.Proofs.Ytiikkhbmhojbaaa.C
