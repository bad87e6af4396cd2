/- PlaneMoves: what its code does, walked. -/
import Derived.Test.YtileciohbhoehaaKMoves2
namespace Go.Proofs.Ytileciohbhoehaa.C
open Go Go.RowKit Sx
set_option linter.unusedVariables false
set_option maxRecDepth 100000 in
set_option maxHeartbeats 1000000 in
theorem book_s01 (w0 : World) (R : List Blk) (kb : Nat) (m : Int) (b n cap : Nat) (cs : List Value) (w : World) (hcap : cs.length = cap) (hb : cap ≤ 9223372036854775806) (hp0 : Hp None w0 (⟨kb, [(.slice none 0 0), (.slice none 0 0), (.slice none 0 0), (.slice none 0 0), (.slice none 0 0), (.slice none 0 0), (.slice none 0 0), (.slice none 0 0)], 41, true⟩ :: ⟨b, cs, 72, true⟩ :: R) w) :
    Calls Try.prog 56 #[(.pointer (some ⟨kb, 0, none⟩)), (.slice (some ⟨b, 0, none⟩) n cap), (.int .i64 m)] w (Frm (σ := (Nat × Nat × List Value) × (Nat × Nat × List Value)) None w0 (fun x => ([(Value.slice (some ⟨b, 0, none⟩) cap cap)] ++ x.2.2.2 : List Value).length = x.2.2.1 * 1 ∧ ([(Value.int .i64 m)] ++ x.1.2.2 : List Value).length = x.1.2.1 * 1) (fun x => .tuple #[]) (fun x => (⟨x.1.1, [(Value.int .i64 m)] ++ x.1.2.2, 3, true⟩ :: ⟨x.2.1, [(Value.slice (some ⟨b, 0, none⟩) cap cap)] ++ x.2.2.2, 30, true⟩ :: ⟨kb, [(.slice (some ⟨x.2.1, 0, none⟩) 1 x.2.2.1), (.slice none 0 0), (.slice none 0 0), (.slice none 0 0), (.slice (some ⟨x.1.1, 0, none⟩) 1 x.1.2.1), (.slice none 0 0), (.slice none 0 0), (.slice none 0 0)], 41, true⟩ :: ⟨b, (mks m cap).map u32, 72, true⟩ :: R))) := by
  refine enterF (w0 := w0) (M := None) (L := (⟨kb, [(.slice none 0 0), (.slice none 0 0), (.slice none 0 0), (.slice none 0 0), (.slice none 0 0), (.slice none 0 0), (.slice none 0 0), (.slice none 0 0)], 41, true⟩ :: ⟨b, cs, 72, true⟩ :: R)) (n := 46) (l := [(0, (.pointer (some ⟨kb, 0, none⟩))), (1, (.slice (some ⟨b, 0, none⟩) n cap)), (2, (.int .i64 m))]) Try.func56 rfl rfl (Args.cons rfl (Args.cons rfl (Args.cons rfl (Args.nil _)))) hp0 ?_
  refine GC.seq ?_
  refine GC.region ?_
  refine GL.val (v := (.slice (some ⟨b, 0, none⟩) n cap)) (Ex.move rfl) (by decide) ?_
  refine GL.val (v := (.slice (some ⟨b, 0, none⟩) n cap)) (Ex.move rfl) (by decide) ?_
  refine GL.val (v := (.int .i64 ((cap : Int)))) (Ex.cap rfl Try.underlying30) (by decide) ?_
  refine GL.val (v := (.slice (some ⟨b, 0, none⟩) cap cap)) (Ex.sliceH (m := cap) rfl rfl Try.underlying30 T.sz72 rfl (Nat.le_refl _)) (by decide) ?_
  refine GL.val (v := (.slice (some ⟨b, 0, none⟩) cap cap)) (Ex.assign rfl) (by decide) ?_
  refine GL.nil ?_
  refine GE.thenN ?_
  refine GC.seq ?_
  refine GC.seq ?_
  rw [show cs = mkC m cs 0 from (mkC_zero m cs).symm]
  refine GC.region ?_
  refine GL.val (v := (.int .i64 0)) (Ex.assign rfl) (by decide) ?_
  refine GL.nil ?_
  refine GE.thenN ?_
  refine GC.block ?_
  refine GC.loop (σ := Nat) (fun k => k ≤ cap) (fun k => [(0, (.pointer (some ⟨kb, 0, none⟩))), (1, (.slice (some ⟨b, 0, none⟩) cap cap)), (2, (.int .i64 m)), (6, (.int .i64 (((k : Nat) : Int))))]) (fun k => (⟨kb, [(.slice none 0 0), (.slice none 0 0), (.slice none 0 0), (.slice none 0 0), (.slice none 0 0), (.slice none 0 0), (.slice none 0 0), (.slice none 0 0)], 41, true⟩ :: ⟨b, mkC m cs k, 72, true⟩ :: R)) (fun k => cap - k) (0) (Nat.zero_le _) ((sub_cons rfl ((sub_cons rfl ((sub_cons rfl ((sub_cons rfl ((sub_nil _)))))))))) (ulC (ulC ulR)) (fun k hp => ?_)
  refine GC.seq ?_
  refine GC.seq ?_
  refine GC.region ?_
  refine GL.val (v := (.int .i64 (((k : Nat) : Int)))) (Ex.move rfl) (by decide) ?_
  refine GL.val (v := (.slice (some ⟨b, 0, none⟩) cap cap)) (Ex.move rfl) (by decide) ?_
  refine GL.val (v := (.int .i64 ((cap : Int)))) (Ex.len rfl Try.underlying30) (by decide) ?_
  refine GL.val (v := (.bool (decide ((((k : Nat) : Int)) < ((cap : Int)))))) (Ex.lss rfl rfl) (by decide) ?_
  refine GL.nil ?_
  refine GE.thenN ?_
  refine GC.cond rfl (fun hq1 => ?_) (fun hq1 => ?_)
  · replace hq1 := of_decide_eq_true hq1
    refine GC.skip ?_
    refine GE.thenN ?_
    refine GC.seq ?_
    refine GC.block ?_
    refine GC.region ?_
    refine GL.val (v := (.slice (some ⟨b, 0, none⟩) cap cap)) (Ex.move rfl) (by decide) ?_
    refine GL.val (v := (.int .i64 (((k : Nat) : Int)))) (Ex.move rfl) (by decide) ?_
    refine GL.val (v := (.int .i64 m)) (Ex.move rfl) (by decide) ?_
    refine GL.val (v := (.int .i64 (((k : Nat) : Int)))) (Ex.move rfl) (by decide) ?_
    refine GL.step (Stp.callR (σ := Unit) (p := fun rz => True) (v := fun rz => (.int .i64 (mkI m (((k : Nat) : Int))))) (N := fun rz => []) (vs := [(.int .i64 m), (.int .i64 (((k : Nat) : Int)))]) rfl rfl T.own57 (by decide) (fun wc hw => bkmark m (((k : Nat) : Int)) wc)) (fun xq2 hq3 => ?_)
    refine GL.val (v := (.int .u32 (mk m k))) (Ex.conv rfl Try.underlying3 Try.underlying72 (Z := mk m k) (by rw [wu32]; rfl)) (by decide) ?_
    refine GL.val (v := (.pointer (some ⟨b, k, none⟩))) (Ex.cast (Ex.indexAddr rfl rfl Try.underlying30 T.sz72 (by omega) (by omega)) (by simp)) (by decide) ?_
    refine GL.step (Stp.storeL (i := 1) (cs := mkC m cs k) (vs := [.int .u32 (mk m k)]) (o := k) (L1 := (⟨kb, [(.slice none 0 0), (.slice none 0 0), (.slice none 0 0), (.slice none 0 0), (.slice none 0 0), (.slice none 0 0), (.slice none 0 0), (.slice none 0 0)], 41, true⟩ :: ⟨b, mkC m cs (k + 1), 72, true⟩ :: R)) rfl rfl rfl T.sz72 rfl (Nat.ble_eq_true_of_le (by rw [mkC_len _ _ _ (by omega)]; simp; omega)) rfl (by rw [mkC_store (by omega)]; rfl)) (fun _ _ => ?_)
    refine GL.nil ?_
    refine GE.blockN ?_
    refine GE.thenN ?_
    refine GC.region ?_
    refine GL.val (v := (.int .i64 (((k : Nat) : Int)))) (Ex.move rfl) (by decide) ?_
    refine GL.val (v := (.int .i64 (((k + 1 : Nat) : Int)))) (Ex.add rfl rfl (Z := ((k + 1 : Nat) : Int)) (by rw [w64 (by omega)]; rfl)) (by decide) ?_
    refine GL.val (v := (.int .i64 (((k + 1 : Nat) : Int)))) (Ex.assign rfl) (by decide) ?_
    refine GL.nil ?_
    refine GE.thenN ?_
    exact Head.mk (k + 1) (by omega) (by omega) ((sub_cons rfl ((sub_cons rfl ((sub_cons rfl ((sub_cons rfl ((sub_nil _)))))))))) (ulC (ulC ulR))
  · replace hq1 := of_decide_eq_false hq1
    refine GC.exit ?_
    refine GE.thenE ?_
    refine GE.thenE ?_
    refine GE.blockE ?_
    refine GE.thenN ?_
    refine GC.seq ?_
    rw [mkC_full m cs k (by omega), show k = cap from by omega]
    refine GC.region ?_
    refine GL.val (v := (.pointer (some ⟨kb, 0, none⟩))) (Ex.move rfl) (by decide) ?_
    refine GL.val (v := (.pointer (some ⟨kb, 0, none⟩))) (Ex.move rfl) (by decide) ?_
    refine GL.val (v := (.pointer (some ⟨kb, 0, none⟩))) (Ex.nilCheck rfl) (by decide) ?_
    refine GL.val (v := (.pointer (some ⟨kb, 0, none⟩))) (Ex.cast (Ex.fieldAddr rfl Try.underlying41 rfl T.sz34 (by decide)) rfl) (by decide) ?_
    refine GL.val (v := (.slice none 0 0)) (Ex.load rfl T.ag34 (i := 0) rfl rfl) (by decide) ?_
    refine GL.val (v := (.slice (some ⟨b, 0, none⟩) cap cap)) (Ex.move rfl) (by decide) ?_
    refine GL.step (Stp.buildSlice (cs := [(.slice (some ⟨b, 0, none⟩) cap cap)]) (vs := [(0, (.slice (some ⟨b, 0, none⟩) cap cap))]) Try.underlying34 T.zr30 T.sz30 rfl (by decide) (by decide) (by first | rfl | kernel_rfl) (by decide)) (fun bq4 _ => ?_)
    refine GL.step (Stp.appendNil (vs := [(.slice (some ⟨b, 0, none⟩) cap cap)]) rfl rfl Try.underlying34 T.sz30 T.zr30 rfl T.by30 (fun wz hz => hz.rdOf (i := 0) rfl 0) rfl (by decide) (by decide) (by decide) (by decide)) (fun xq5 hq6 => ?_)
    refine GL.val (v := (.pointer (some ⟨kb, 0, none⟩))) (Ex.nilCheck rfl) (by decide) ?_
    refine GL.val (v := (.pointer (some ⟨kb, 0, none⟩))) (Ex.cast (Ex.fieldAddr rfl Try.underlying41 rfl T.sz34 (by decide)) rfl) (by decide) ?_
    refine GL.step (Stp.storeL (i := 2) (L1 := (⟨xq5.1, [(.slice (some ⟨b, 0, none⟩) cap cap)] ++ xq5.2.2, 30, true⟩ :: ⟨bq4, [(.slice (some ⟨b, 0, none⟩) cap cap)], 30, true⟩ :: ⟨kb, [(.slice (some ⟨xq5.1, 0, none⟩) 1 xq5.2.1), (.slice none 0 0), (.slice none 0 0), (.slice none 0 0), (.slice none 0 0), (.slice none 0 0), (.slice none 0 0), (.slice none 0 0)], 41, true⟩ :: ⟨b, (mks m cap).map u32, 72, true⟩ :: R)) rfl rfl rfl T.sz34 rfl rfl rfl rfl) (fun _ _ => ?_)
    refine GL.nil ?_
    refine GE.thenN ?_
    refine GC.draw (⟨xq5.1, [(.slice (some ⟨b, 0, none⟩) cap cap)] ++ xq5.2.2, 30, true⟩ :: ⟨bq4, [(.slice (some ⟨b, 0, none⟩) cap cap)], 30, true⟩ :: ⟨b, (mks m cap).map u32, 72, true⟩ :: R) T.mixed (fuel := 13) rfl rfl ?_
    refine GH.take 0 (v := (.pointer (some ⟨kb, 0, none⟩))) rfl (by kernel_rfl) (by kernel_rfl) (by kernel_rfl) (fun _ _ _ h => h) (Ex.move rfl) (ulC (ulC (ulS (ulC ulR)))) (by decide) ?_
    refine GH.take 1 (v := (.pointer (some ⟨kb, 0, none⟩))) rfl (by kernel_rfl) (by kernel_rfl) (by kernel_rfl) (fun _ _ _ h => h) (Ex.move rfl) (ulC (ulC (ulS (ulC ulR)))) (by decide) ?_
    refine GH.take 6 (v := (.int .i64 m)) rfl (by kernel_rfl) (by kernel_rfl) (by kernel_rfl) (fun _ _ _ h => h) (Ex.move rfl) (ulC (ulC (ulS (ulC ulR)))) (by decide) ?_
    refine GH.many (rs := [2, 7, 9]) (by kernel_rfl) (by simp) ?_
    refine GHs.cons rfl (Ex.wp (v := (.pointer (some ⟨kb, 0, none⟩))) (Ex.nilCheck rfl) (by decide)) (fun _ => (ulC (ulC (ulS (ulC ulR))))) (fun _ _ => ?_) ?_
    · refine GH.take 3 (v := (.pointer (some ⟨kb, 4, none⟩))) rfl (by kernel_rfl) (by kernel_rfl) (by kernel_rfl) (fun _ _ _ h => h) (Ex.cast (Ex.fieldAddr rfl Try.underlying41 rfl T.sz39 (by decide)) rfl) (ulC (ulC (ulS (ulC ulR)))) (by decide) ?_
      refine GH.take 4 (v := (.pointer (some ⟨kb, 4, none⟩))) rfl (by kernel_rfl) (by kernel_rfl) (by kernel_rfl) (fun _ _ _ h => h) (Ex.cast (Ex.indexArr (m := 4) rfl rfl Try.underlying39 T.sz38 (by decide) (by decide)) rfl) (ulC (ulC (ulS (ulC ulR)))) (by decide) ?_
      refine GH.many (rs := [5, 7, 9]) (by kernel_rfl) (by simp) ?_
      refine GHs.cons rfl (Ex.wp (v := (.slice none 0 0)) (Ex.load rfl T.ag38 (i := 2) rfl rfl) (by decide)) (fun _ => (ulC (ulC (ulS (ulC ulR))))) (fun _ _ => ?_) ?_
      · refine GH.many (rs := [7, 9]) (by kernel_rfl) (by simp) ?_
        refine GHs.cons rfl (Stp.buildSlice (cs := [(.int .i64 m)]) (vs := [(0, (.int .i64 m))]) Try.underlying38 T.zr3 T.sz3 rfl (by decide) (by decide) (by first | rfl | kernel_rfl) (by decide)) (fun _ => (ulS (ulC (ulC (ulS (ulC ulR)))))) (fun bq7 _ => ?_) ?_
        · refine GH.many (rs := [8, 9]) (by kernel_rfl) (by simp) ?_
          refine GHs.cons rfl (Stp.appendNil (vs := [(.int .i64 m)]) rfl rfl Try.underlying38 T.sz3 T.zr3 rfl T.by3 (fun wz hz => hz.rdOf (i := 0) rfl 0) rfl (by decide) (by decide) (by decide) (by decide)) (fun _ => (ulS (ulS (ulC (ulC (ulS (ulC ulR))))))) (fun xq8 hq9 => ?_) ?_
          · refine GH.one 9 rfl (by kernel_rfl) (Ex.wp (v := (.pointer (some ⟨kb, 0, none⟩))) (Ex.nilCheck rfl) (by decide)) (fun _ => (ulS (ulS (ulC (ulC (ulS (ulC ulR))))))) (fun _ _ => ?_)
            refine GH.take 10 (v := (.pointer (some ⟨kb, 4, none⟩))) rfl (by kernel_rfl) (by kernel_rfl) (by kernel_rfl) (fun _ _ _ h => h) (Ex.cast (Ex.fieldAddr rfl Try.underlying41 rfl T.sz39 (by decide)) rfl) (ulS (ulS (ulC (ulC (ulS (ulC ulR)))))) (by decide) ?_
            refine GH.take 11 (v := (.pointer (some ⟨kb, 4, none⟩))) rfl (by kernel_rfl) (by kernel_rfl) (by kernel_rfl) (fun _ _ _ h => h) (Ex.cast (Ex.indexArr (m := 4) rfl rfl Try.underlying39 T.sz38 (by decide) (by decide)) rfl) (ulS (ulS (ulC (ulC (ulS (ulC ulR)))))) (by decide) ?_
            refine GH.one 12 rfl (by kernel_rfl) (Stp.storeL (i := 4) (L1 := (⟨xq8.1, [(.int .i64 m)] ++ xq8.2.2, 3, true⟩ :: ⟨bq7, [(.int .i64 m)], 3, true⟩ :: ⟨xq5.1, [(.slice (some ⟨b, 0, none⟩) cap cap)] ++ xq5.2.2, 30, true⟩ :: ⟨bq4, [(.slice (some ⟨b, 0, none⟩) cap cap)], 30, true⟩ :: ⟨kb, [(.slice (some ⟨xq5.1, 0, none⟩) 1 xq5.2.1), (.slice none 0 0), (.slice none 0 0), (.slice none 0 0), (.slice (some ⟨xq8.1, 0, none⟩) 1 xq8.2.1), (.slice none 0 0), (.slice none 0 0), (.slice none 0 0)], 41, true⟩ :: ⟨b, (mks m cap).map u32, 72, true⟩ :: R)) rfl rfl rfl T.sz38 rfl rfl rfl rfl) (fun _ => (ulS (ulS (ulC (ulC (ulS (ulC ulR))))))) (fun _ _ => ?_)
            refine GH.done (by kernel_rfl) ?_
            refine GC.end0 rfl (fun wN HN => ?_)
            exact HN.frm (xq8, xq5) ⟨hq6.1, hq9.1⟩ (by rfl) (ulC (ulS (ulC (ulS (ulC (ulC ulR))))))
          refine GHs.cons rfl (Ex.wp (v := (.pointer (some ⟨kb, 0, none⟩))) (Ex.nilCheck rfl) (by decide)) (fun _ => (ulS (ulC (ulC (ulS (ulC ulR)))))) (fun _ _ => ?_) ?_
          · refine GH.take 10 (v := (.pointer (some ⟨kb, 4, none⟩))) rfl (by kernel_rfl) (by kernel_rfl) (by kernel_rfl) (fun _ _ _ h => h) (Ex.cast (Ex.fieldAddr rfl Try.underlying41 rfl T.sz39 (by decide)) rfl) (ulS (ulC (ulC (ulS (ulC ulR))))) (by decide) ?_
            refine GH.one 8 rfl (by kernel_rfl) (Stp.appendNil (vs := [(.int .i64 m)]) rfl rfl Try.underlying38 T.sz3 T.zr3 rfl T.by3 (fun wz hz => hz.rdOf (i := 0) rfl 0) rfl (by decide) (by decide) (by decide) (by decide)) (fun _ => (ulS (ulS (ulC (ulC (ulS (ulC ulR))))))) (fun xq10 hq11 => ?_)
            refine GH.take 11 (v := (.pointer (some ⟨kb, 4, none⟩))) rfl (by kernel_rfl) (by kernel_rfl) (by kernel_rfl) (fun _ _ _ h => h) (Ex.cast (Ex.indexArr (m := 4) rfl rfl Try.underlying39 T.sz38 (by decide) (by decide)) rfl) (ulS (ulS (ulC (ulC (ulS (ulC ulR)))))) (by decide) ?_
            refine GH.one 12 rfl (by kernel_rfl) (Stp.storeL (i := 4) (L1 := (⟨xq10.1, [(.int .i64 m)] ++ xq10.2.2, 3, true⟩ :: ⟨bq7, [(.int .i64 m)], 3, true⟩ :: ⟨xq5.1, [(.slice (some ⟨b, 0, none⟩) cap cap)] ++ xq5.2.2, 30, true⟩ :: ⟨bq4, [(.slice (some ⟨b, 0, none⟩) cap cap)], 30, true⟩ :: ⟨kb, [(.slice (some ⟨xq5.1, 0, none⟩) 1 xq5.2.1), (.slice none 0 0), (.slice none 0 0), (.slice none 0 0), (.slice (some ⟨xq10.1, 0, none⟩) 1 xq10.2.1), (.slice none 0 0), (.slice none 0 0), (.slice none 0 0)], 41, true⟩ :: ⟨b, (mks m cap).map u32, 72, true⟩ :: R)) rfl rfl rfl T.sz38 rfl rfl rfl rfl) (fun _ => (ulS (ulS (ulC (ulC (ulS (ulC ulR))))))) (fun _ _ => ?_)
            refine GH.done (by kernel_rfl) ?_
            refine GC.end0 rfl (fun wN HN => ?_)
            exact HN.frm (xq10, xq5) ⟨hq6.1, hq11.1⟩ (by rfl) (ulC (ulS (ulC (ulS (ulC (ulC ulR))))))
          exact GHs.nil
        refine GHs.cons rfl (Ex.wp (v := (.pointer (some ⟨kb, 0, none⟩))) (Ex.nilCheck rfl) (by decide)) (fun _ => (ulC (ulC (ulS (ulC ulR))))) (fun _ _ => ?_) ?_
        · refine GH.take 10 (v := (.pointer (some ⟨kb, 4, none⟩))) rfl (by kernel_rfl) (by kernel_rfl) (by kernel_rfl) (fun _ _ _ h => h) (Ex.cast (Ex.fieldAddr rfl Try.underlying41 rfl T.sz39 (by decide)) rfl) (ulC (ulC (ulS (ulC ulR)))) (by decide) ?_
          refine GH.one 7 rfl (by kernel_rfl) (Stp.buildSlice (cs := [(.int .i64 m)]) (vs := [(0, (.int .i64 m))]) Try.underlying38 T.zr3 T.sz3 rfl (by decide) (by decide) (by first | rfl | kernel_rfl) (by decide)) (fun _ => (ulS (ulC (ulC (ulS (ulC ulR)))))) (fun bq12 _ => ?_)
          refine GH.one 8 rfl (by kernel_rfl) (Stp.appendNil (vs := [(.int .i64 m)]) rfl rfl Try.underlying38 T.sz3 T.zr3 rfl T.by3 (fun wz hz => hz.rdOf (i := 0) rfl 0) rfl (by decide) (by decide) (by decide) (by decide)) (fun _ => (ulS (ulS (ulC (ulC (ulS (ulC ulR))))))) (fun xq13 hq14 => ?_)
          refine GH.take 11 (v := (.pointer (some ⟨kb, 4, none⟩))) rfl (by kernel_rfl) (by kernel_rfl) (by kernel_rfl) (fun _ _ _ h => h) (Ex.cast (Ex.indexArr (m := 4) rfl rfl Try.underlying39 T.sz38 (by decide) (by decide)) rfl) (ulS (ulS (ulC (ulC (ulS (ulC ulR)))))) (by decide) ?_
          refine GH.one 12 rfl (by kernel_rfl) (Stp.storeL (i := 4) (L1 := (⟨xq13.1, [(.int .i64 m)] ++ xq13.2.2, 3, true⟩ :: ⟨bq12, [(.int .i64 m)], 3, true⟩ :: ⟨xq5.1, [(.slice (some ⟨b, 0, none⟩) cap cap)] ++ xq5.2.2, 30, true⟩ :: ⟨bq4, [(.slice (some ⟨b, 0, none⟩) cap cap)], 30, true⟩ :: ⟨kb, [(.slice (some ⟨xq5.1, 0, none⟩) 1 xq5.2.1), (.slice none 0 0), (.slice none 0 0), (.slice none 0 0), (.slice (some ⟨xq13.1, 0, none⟩) 1 xq13.2.1), (.slice none 0 0), (.slice none 0 0), (.slice none 0 0)], 41, true⟩ :: ⟨b, (mks m cap).map u32, 72, true⟩ :: R)) rfl rfl rfl T.sz38 rfl rfl rfl rfl) (fun _ => (ulS (ulS (ulC (ulC (ulS (ulC ulR))))))) (fun _ _ => ?_)
          refine GH.done (by kernel_rfl) ?_
          refine GC.end0 rfl (fun wN HN => ?_)
          exact HN.frm (xq13, xq5) ⟨hq6.1, hq14.1⟩ (by rfl) (ulC (ulS (ulC (ulS (ulC (ulC ulR))))))
        exact GHs.nil
      refine GHs.cons rfl (Stp.buildSlice (cs := [(.int .i64 m)]) (vs := [(0, (.int .i64 m))]) Try.underlying38 T.zr3 T.sz3 rfl (by decide) (by decide) (by first | rfl | kernel_rfl) (by decide)) (fun _ => (ulS (ulC (ulC (ulS (ulC ulR)))))) (fun bq15 _ => ?_) ?_
      · refine GH.many (rs := [5, 9]) (by kernel_rfl) (by simp) ?_
        refine GHs.cons rfl (Ex.wp (v := (.slice none 0 0)) (Ex.load rfl T.ag38 (i := 3) rfl rfl) (by decide)) (fun _ => (ulS (ulC (ulC (ulS (ulC ulR)))))) (fun _ _ => ?_) ?_
        · refine GH.many (rs := [8, 9]) (by kernel_rfl) (by simp) ?_
          refine GHs.cons rfl (Stp.appendNil (vs := [(.int .i64 m)]) rfl rfl Try.underlying38 T.sz3 T.zr3 rfl T.by3 (fun wz hz => hz.rdOf (i := 0) rfl 0) rfl (by decide) (by decide) (by decide) (by decide)) (fun _ => (ulS (ulS (ulC (ulC (ulS (ulC ulR))))))) (fun xq16 hq17 => ?_) ?_
          · refine GH.one 9 rfl (by kernel_rfl) (Ex.wp (v := (.pointer (some ⟨kb, 0, none⟩))) (Ex.nilCheck rfl) (by decide)) (fun _ => (ulS (ulS (ulC (ulC (ulS (ulC ulR))))))) (fun _ _ => ?_)
            refine GH.take 10 (v := (.pointer (some ⟨kb, 4, none⟩))) rfl (by kernel_rfl) (by kernel_rfl) (by kernel_rfl) (fun _ _ _ h => h) (Ex.cast (Ex.fieldAddr rfl Try.underlying41 rfl T.sz39 (by decide)) rfl) (ulS (ulS (ulC (ulC (ulS (ulC ulR)))))) (by decide) ?_
            refine GH.take 11 (v := (.pointer (some ⟨kb, 4, none⟩))) rfl (by kernel_rfl) (by kernel_rfl) (by kernel_rfl) (fun _ _ _ h => h) (Ex.cast (Ex.indexArr (m := 4) rfl rfl Try.underlying39 T.sz38 (by decide) (by decide)) rfl) (ulS (ulS (ulC (ulC (ulS (ulC ulR)))))) (by decide) ?_
            refine GH.one 12 rfl (by kernel_rfl) (Stp.storeL (i := 4) (L1 := (⟨xq16.1, [(.int .i64 m)] ++ xq16.2.2, 3, true⟩ :: ⟨bq15, [(.int .i64 m)], 3, true⟩ :: ⟨xq5.1, [(.slice (some ⟨b, 0, none⟩) cap cap)] ++ xq5.2.2, 30, true⟩ :: ⟨bq4, [(.slice (some ⟨b, 0, none⟩) cap cap)], 30, true⟩ :: ⟨kb, [(.slice (some ⟨xq5.1, 0, none⟩) 1 xq5.2.1), (.slice none 0 0), (.slice none 0 0), (.slice none 0 0), (.slice (some ⟨xq16.1, 0, none⟩) 1 xq16.2.1), (.slice none 0 0), (.slice none 0 0), (.slice none 0 0)], 41, true⟩ :: ⟨b, (mks m cap).map u32, 72, true⟩ :: R)) rfl rfl rfl T.sz38 rfl rfl rfl rfl) (fun _ => (ulS (ulS (ulC (ulC (ulS (ulC ulR))))))) (fun _ _ => ?_)
            refine GH.done (by kernel_rfl) ?_
            refine GC.end0 rfl (fun wN HN => ?_)
            exact HN.frm (xq16, xq5) ⟨hq6.1, hq17.1⟩ (by rfl) (ulC (ulS (ulC (ulS (ulC (ulC ulR))))))
          refine GHs.cons rfl (Ex.wp (v := (.pointer (some ⟨kb, 0, none⟩))) (Ex.nilCheck rfl) (by decide)) (fun _ => (ulS (ulC (ulC (ulS (ulC ulR)))))) (fun _ _ => ?_) ?_
          · refine GH.take 10 (v := (.pointer (some ⟨kb, 4, none⟩))) rfl (by kernel_rfl) (by kernel_rfl) (by kernel_rfl) (fun _ _ _ h => h) (Ex.cast (Ex.fieldAddr rfl Try.underlying41 rfl T.sz39 (by decide)) rfl) (ulS (ulC (ulC (ulS (ulC ulR))))) (by decide) ?_
            refine GH.one 8 rfl (by kernel_rfl) (Stp.appendNil (vs := [(.int .i64 m)]) rfl rfl Try.underlying38 T.sz3 T.zr3 rfl T.by3 (fun wz hz => hz.rdOf (i := 0) rfl 0) rfl (by decide) (by decide) (by decide) (by decide)) (fun _ => (ulS (ulS (ulC (ulC (ulS (ulC ulR))))))) (fun xq18 hq19 => ?_)
            refine GH.take 11 (v := (.pointer (some ⟨kb, 4, none⟩))) rfl (by kernel_rfl) (by kernel_rfl) (by kernel_rfl) (fun _ _ _ h => h) (Ex.cast (Ex.indexArr (m := 4) rfl rfl Try.underlying39 T.sz38 (by decide) (by decide)) rfl) (ulS (ulS (ulC (ulC (ulS (ulC ulR)))))) (by decide) ?_
            refine GH.one 12 rfl (by kernel_rfl) (Stp.storeL (i := 4) (L1 := (⟨xq18.1, [(.int .i64 m)] ++ xq18.2.2, 3, true⟩ :: ⟨bq15, [(.int .i64 m)], 3, true⟩ :: ⟨xq5.1, [(.slice (some ⟨b, 0, none⟩) cap cap)] ++ xq5.2.2, 30, true⟩ :: ⟨bq4, [(.slice (some ⟨b, 0, none⟩) cap cap)], 30, true⟩ :: ⟨kb, [(.slice (some ⟨xq5.1, 0, none⟩) 1 xq5.2.1), (.slice none 0 0), (.slice none 0 0), (.slice none 0 0), (.slice (some ⟨xq18.1, 0, none⟩) 1 xq18.2.1), (.slice none 0 0), (.slice none 0 0), (.slice none 0 0)], 41, true⟩ :: ⟨b, (mks m cap).map u32, 72, true⟩ :: R)) rfl rfl rfl T.sz38 rfl rfl rfl rfl) (fun _ => (ulS (ulS (ulC (ulC (ulS (ulC ulR))))))) (fun _ _ => ?_)
            refine GH.done (by kernel_rfl) ?_
            refine GC.end0 rfl (fun wN HN => ?_)
            exact HN.frm (xq18, xq5) ⟨hq6.1, hq19.1⟩ (by rfl) (ulC (ulS (ulC (ulS (ulC (ulC ulR))))))
          exact GHs.nil
        refine GHs.cons rfl (Ex.wp (v := (.pointer (some ⟨kb, 0, none⟩))) (Ex.nilCheck rfl) (by decide)) (fun _ => (ulS (ulC (ulC (ulS (ulC ulR)))))) (fun _ _ => ?_) ?_
        · refine GH.take 10 (v := (.pointer (some ⟨kb, 4, none⟩))) rfl (by kernel_rfl) (by kernel_rfl) (by kernel_rfl) (fun _ _ _ h => h) (Ex.cast (Ex.fieldAddr rfl Try.underlying41 rfl T.sz39 (by decide)) rfl) (ulS (ulC (ulC (ulS (ulC ulR))))) (by decide) ?_
          refine GH.one 5 rfl (by kernel_rfl) (Ex.wp (v := (.slice none 0 0)) (Ex.load rfl T.ag38 (i := 3) rfl rfl) (by decide)) (fun _ => (ulS (ulC (ulC (ulS (ulC ulR)))))) (fun _ _ => ?_)
          refine GH.one 8 rfl (by kernel_rfl) (Stp.appendNil (vs := [(.int .i64 m)]) rfl rfl Try.underlying38 T.sz3 T.zr3 rfl T.by3 (fun wz hz => hz.rdOf (i := 0) rfl 0) rfl (by decide) (by decide) (by decide) (by decide)) (fun _ => (ulS (ulS (ulC (ulC (ulS (ulC ulR))))))) (fun xq20 hq21 => ?_)
          refine GH.take 11 (v := (.pointer (some ⟨kb, 4, none⟩))) rfl (by kernel_rfl) (by kernel_rfl) (by kernel_rfl) (fun _ _ _ h => h) (Ex.cast (Ex.indexArr (m := 4) rfl rfl Try.underlying39 T.sz38 (by decide) (by decide)) rfl) (ulS (ulS (ulC (ulC (ulS (ulC ulR)))))) (by decide) ?_
          refine GH.one 12 rfl (by kernel_rfl) (Stp.storeL (i := 4) (L1 := (⟨xq20.1, [(.int .i64 m)] ++ xq20.2.2, 3, true⟩ :: ⟨bq15, [(.int .i64 m)], 3, true⟩ :: ⟨xq5.1, [(.slice (some ⟨b, 0, none⟩) cap cap)] ++ xq5.2.2, 30, true⟩ :: ⟨bq4, [(.slice (some ⟨b, 0, none⟩) cap cap)], 30, true⟩ :: ⟨kb, [(.slice (some ⟨xq5.1, 0, none⟩) 1 xq5.2.1), (.slice none 0 0), (.slice none 0 0), (.slice none 0 0), (.slice (some ⟨xq20.1, 0, none⟩) 1 xq20.2.1), (.slice none 0 0), (.slice none 0 0), (.slice none 0 0)], 41, true⟩ :: ⟨b, (mks m cap).map u32, 72, true⟩ :: R)) rfl rfl rfl T.sz38 rfl rfl rfl rfl) (fun _ => (ulS (ulS (ulC (ulC (ulS (ulC ulR))))))) (fun _ _ => ?_)
          refine GH.done (by kernel_rfl) ?_
          refine GC.end0 rfl (fun wN HN => ?_)
          exact HN.frm (xq20, xq5) ⟨hq6.1, hq21.1⟩ (by rfl) (ulC (ulS (ulC (ulS (ulC (ulC ulR))))))
        exact GHs.nil
      refine GHs.cons rfl (Ex.wp (v := (.pointer (some ⟨kb, 0, none⟩))) (Ex.nilCheck rfl) (by decide)) (fun _ => (ulC (ulC (ulS (ulC ulR))))) (fun _ _ => ?_) ?_
      · refine GH.take 10 (v := (.pointer (some ⟨kb, 4, none⟩))) rfl (by kernel_rfl) (by kernel_rfl) (by kernel_rfl) (fun _ _ _ h => h) (Ex.cast (Ex.fieldAddr rfl Try.underlying41 rfl T.sz39 (by decide)) rfl) (ulC (ulC (ulS (ulC ulR)))) (by decide) ?_
        refine GH.many (rs := [5, 7]) (by kernel_rfl) (by simp) ?_
        refine GHs.cons rfl (Ex.wp (v := (.slice none 0 0)) (Ex.load rfl T.ag38 (i := 2) rfl rfl) (by decide)) (fun _ => (ulC (ulC (ulS (ulC ulR))))) (fun _ _ => ?_) ?_
        · refine GH.one 7 rfl (by kernel_rfl) (Stp.buildSlice (cs := [(.int .i64 m)]) (vs := [(0, (.int .i64 m))]) Try.underlying38 T.zr3 T.sz3 rfl (by decide) (by decide) (by first | rfl | kernel_rfl) (by decide)) (fun _ => (ulS (ulC (ulC (ulS (ulC ulR)))))) (fun bq22 _ => ?_)
          refine GH.one 8 rfl (by kernel_rfl) (Stp.appendNil (vs := [(.int .i64 m)]) rfl rfl Try.underlying38 T.sz3 T.zr3 rfl T.by3 (fun wz hz => hz.rdOf (i := 0) rfl 0) rfl (by decide) (by decide) (by decide) (by decide)) (fun _ => (ulS (ulS (ulC (ulC (ulS (ulC ulR))))))) (fun xq23 hq24 => ?_)
          refine GH.take 11 (v := (.pointer (some ⟨kb, 4, none⟩))) rfl (by kernel_rfl) (by kernel_rfl) (by kernel_rfl) (fun _ _ _ h => h) (Ex.cast (Ex.indexArr (m := 4) rfl rfl Try.underlying39 T.sz38 (by decide) (by decide)) rfl) (ulS (ulS (ulC (ulC (ulS (ulC ulR)))))) (by decide) ?_
          refine GH.one 12 rfl (by kernel_rfl) (Stp.storeL (i := 4) (L1 := (⟨xq23.1, [(.int .i64 m)] ++ xq23.2.2, 3, true⟩ :: ⟨bq22, [(.int .i64 m)], 3, true⟩ :: ⟨xq5.1, [(.slice (some ⟨b, 0, none⟩) cap cap)] ++ xq5.2.2, 30, true⟩ :: ⟨bq4, [(.slice (some ⟨b, 0, none⟩) cap cap)], 30, true⟩ :: ⟨kb, [(.slice (some ⟨xq5.1, 0, none⟩) 1 xq5.2.1), (.slice none 0 0), (.slice none 0 0), (.slice none 0 0), (.slice (some ⟨xq23.1, 0, none⟩) 1 xq23.2.1), (.slice none 0 0), (.slice none 0 0), (.slice none 0 0)], 41, true⟩ :: ⟨b, (mks m cap).map u32, 72, true⟩ :: R)) rfl rfl rfl T.sz38 rfl rfl rfl rfl) (fun _ => (ulS (ulS (ulC (ulC (ulS (ulC ulR))))))) (fun _ _ => ?_)
          refine GH.done (by kernel_rfl) ?_
          refine GC.end0 rfl (fun wN HN => ?_)
          exact HN.frm (xq23, xq5) ⟨hq6.1, hq24.1⟩ (by rfl) (ulC (ulS (ulC (ulS (ulC (ulC ulR))))))
        refine GHs.cons rfl (Stp.buildSlice (cs := [(.int .i64 m)]) (vs := [(0, (.int .i64 m))]) Try.underlying38 T.zr3 T.sz3 rfl (by decide) (by decide) (by first | rfl | kernel_rfl) (by decide)) (fun _ => (ulS (ulC (ulC (ulS (ulC ulR)))))) (fun bq25 _ => ?_) ?_
        · refine GH.one 5 rfl (by kernel_rfl) (Ex.wp (v := (.slice none 0 0)) (Ex.load rfl T.ag38 (i := 3) rfl rfl) (by decide)) (fun _ => (ulS (ulC (ulC (ulS (ulC ulR)))))) (fun _ _ => ?_)
          refine GH.one 8 rfl (by kernel_rfl) (Stp.appendNil (vs := [(.int .i64 m)]) rfl rfl Try.underlying38 T.sz3 T.zr3 rfl T.by3 (fun wz hz => hz.rdOf (i := 0) rfl 0) rfl (by decide) (by decide) (by decide) (by decide)) (fun _ => (ulS (ulS (ulC (ulC (ulS (ulC ulR))))))) (fun xq26 hq27 => ?_)
          refine GH.take 11 (v := (.pointer (some ⟨kb, 4, none⟩))) rfl (by kernel_rfl) (by kernel_rfl) (by kernel_rfl) (fun _ _ _ h => h) (Ex.cast (Ex.indexArr (m := 4) rfl rfl Try.underlying39 T.sz38 (by decide) (by decide)) rfl) (ulS (ulS (ulC (ulC (ulS (ulC ulR)))))) (by decide) ?_
          refine GH.one 12 rfl (by kernel_rfl) (Stp.storeL (i := 4) (L1 := (⟨xq26.1, [(.int .i64 m)] ++ xq26.2.2, 3, true⟩ :: ⟨bq25, [(.int .i64 m)], 3, true⟩ :: ⟨xq5.1, [(.slice (some ⟨b, 0, none⟩) cap cap)] ++ xq5.2.2, 30, true⟩ :: ⟨bq4, [(.slice (some ⟨b, 0, none⟩) cap cap)], 30, true⟩ :: ⟨kb, [(.slice (some ⟨xq5.1, 0, none⟩) 1 xq5.2.1), (.slice none 0 0), (.slice none 0 0), (.slice none 0 0), (.slice (some ⟨xq26.1, 0, none⟩) 1 xq26.2.1), (.slice none 0 0), (.slice none 0 0), (.slice none 0 0)], 41, true⟩ :: ⟨b, (mks m cap).map u32, 72, true⟩ :: R)) rfl rfl rfl T.sz38 rfl rfl rfl rfl) (fun _ => (ulS (ulS (ulC (ulC (ulS (ulC ulR))))))) (fun _ _ => ?_)
          refine GH.done (by kernel_rfl) ?_
          refine GC.end0 rfl (fun wN HN => ?_)
          exact HN.frm (xq26, xq5) ⟨hq6.1, hq27.1⟩ (by rfl) (ulC (ulS (ulC (ulS (ulC (ulC ulR))))))
        exact GHs.nil
      exact GHs.nil
    refine GHs.cons rfl (Stp.buildSlice (cs := [(.int .i64 m)]) (vs := [(0, (.int .i64 m))]) Try.underlying38 T.zr3 T.sz3 rfl (by decide) (by decide) (by first | rfl | kernel_rfl) (by decide)) (fun _ => (ulS (ulC (ulC (ulS (ulC ulR)))))) (fun bq28 _ => ?_) ?_
    · refine GH.many (rs := [2, 9]) (by kernel_rfl) (by simp) ?_
      refine GHs.cons rfl (Ex.wp (v := (.pointer (some ⟨kb, 0, none⟩))) (Ex.nilCheck rfl) (by decide)) (fun _ => (ulS (ulC (ulC (ulS (ulC ulR)))))) (fun _ _ => ?_) ?_
      · refine GH.take 3 (v := (.pointer (some ⟨kb, 4, none⟩))) rfl (by kernel_rfl) (by kernel_rfl) (by kernel_rfl) (fun _ _ _ h => h) (Ex.cast (Ex.fieldAddr rfl Try.underlying41 rfl T.sz39 (by decide)) rfl) (ulS (ulC (ulC (ulS (ulC ulR))))) (by decide) ?_
        refine GH.take 4 (v := (.pointer (some ⟨kb, 4, none⟩))) rfl (by kernel_rfl) (by kernel_rfl) (by kernel_rfl) (fun _ _ _ h => h) (Ex.cast (Ex.indexArr (m := 4) rfl rfl Try.underlying39 T.sz38 (by decide) (by decide)) rfl) (ulS (ulC (ulC (ulS (ulC ulR))))) (by decide) ?_
        refine GH.many (rs := [5, 9]) (by kernel_rfl) (by simp) ?_
        refine GHs.cons rfl (Ex.wp (v := (.slice none 0 0)) (Ex.load rfl T.ag38 (i := 3) rfl rfl) (by decide)) (fun _ => (ulS (ulC (ulC (ulS (ulC ulR)))))) (fun _ _ => ?_) ?_
        · refine GH.many (rs := [8, 9]) (by kernel_rfl) (by simp) ?_
          refine GHs.cons rfl (Stp.appendNil (vs := [(.int .i64 m)]) rfl rfl Try.underlying38 T.sz3 T.zr3 rfl T.by3 (fun wz hz => hz.rdOf (i := 0) rfl 0) rfl (by decide) (by decide) (by decide) (by decide)) (fun _ => (ulS (ulS (ulC (ulC (ulS (ulC ulR))))))) (fun xq29 hq30 => ?_) ?_
          · refine GH.one 9 rfl (by kernel_rfl) (Ex.wp (v := (.pointer (some ⟨kb, 0, none⟩))) (Ex.nilCheck rfl) (by decide)) (fun _ => (ulS (ulS (ulC (ulC (ulS (ulC ulR))))))) (fun _ _ => ?_)
            refine GH.take 10 (v := (.pointer (some ⟨kb, 4, none⟩))) rfl (by kernel_rfl) (by kernel_rfl) (by kernel_rfl) (fun _ _ _ h => h) (Ex.cast (Ex.fieldAddr rfl Try.underlying41 rfl T.sz39 (by decide)) rfl) (ulS (ulS (ulC (ulC (ulS (ulC ulR)))))) (by decide) ?_
            refine GH.take 11 (v := (.pointer (some ⟨kb, 4, none⟩))) rfl (by kernel_rfl) (by kernel_rfl) (by kernel_rfl) (fun _ _ _ h => h) (Ex.cast (Ex.indexArr (m := 4) rfl rfl Try.underlying39 T.sz38 (by decide) (by decide)) rfl) (ulS (ulS (ulC (ulC (ulS (ulC ulR)))))) (by decide) ?_
            refine GH.one 12 rfl (by kernel_rfl) (Stp.storeL (i := 4) (L1 := (⟨xq29.1, [(.int .i64 m)] ++ xq29.2.2, 3, true⟩ :: ⟨bq28, [(.int .i64 m)], 3, true⟩ :: ⟨xq5.1, [(.slice (some ⟨b, 0, none⟩) cap cap)] ++ xq5.2.2, 30, true⟩ :: ⟨bq4, [(.slice (some ⟨b, 0, none⟩) cap cap)], 30, true⟩ :: ⟨kb, [(.slice (some ⟨xq5.1, 0, none⟩) 1 xq5.2.1), (.slice none 0 0), (.slice none 0 0), (.slice none 0 0), (.slice (some ⟨xq29.1, 0, none⟩) 1 xq29.2.1), (.slice none 0 0), (.slice none 0 0), (.slice none 0 0)], 41, true⟩ :: ⟨b, (mks m cap).map u32, 72, true⟩ :: R)) rfl rfl rfl T.sz38 rfl rfl rfl rfl) (fun _ => (ulS (ulS (ulC (ulC (ulS (ulC ulR))))))) (fun _ _ => ?_)
            refine GH.done (by kernel_rfl) ?_
            refine GC.end0 rfl (fun wN HN => ?_)
            exact HN.frm (xq29, xq5) ⟨hq6.1, hq30.1⟩ (by rfl) (ulC (ulS (ulC (ulS (ulC (ulC ulR))))))
          refine GHs.cons rfl (Ex.wp (v := (.pointer (some ⟨kb, 0, none⟩))) (Ex.nilCheck rfl) (by decide)) (fun _ => (ulS (ulC (ulC (ulS (ulC ulR)))))) (fun _ _ => ?_) ?_
          · refine GH.take 10 (v := (.pointer (some ⟨kb, 4, none⟩))) rfl (by kernel_rfl) (by kernel_rfl) (by kernel_rfl) (fun _ _ _ h => h) (Ex.cast (Ex.fieldAddr rfl Try.underlying41 rfl T.sz39 (by decide)) rfl) (ulS (ulC (ulC (ulS (ulC ulR))))) (by decide) ?_
            refine GH.one 8 rfl (by kernel_rfl) (Stp.appendNil (vs := [(.int .i64 m)]) rfl rfl Try.underlying38 T.sz3 T.zr3 rfl T.by3 (fun wz hz => hz.rdOf (i := 0) rfl 0) rfl (by decide) (by decide) (by decide) (by decide)) (fun _ => (ulS (ulS (ulC (ulC (ulS (ulC ulR))))))) (fun xq31 hq32 => ?_)
            refine GH.take 11 (v := (.pointer (some ⟨kb, 4, none⟩))) rfl (by kernel_rfl) (by kernel_rfl) (by kernel_rfl) (fun _ _ _ h => h) (Ex.cast (Ex.indexArr (m := 4) rfl rfl Try.underlying39 T.sz38 (by decide) (by decide)) rfl) (ulS (ulS (ulC (ulC (ulS (ulC ulR)))))) (by decide) ?_
            refine GH.one 12 rfl (by kernel_rfl) (Stp.storeL (i := 4) (L1 := (⟨xq31.1, [(.int .i64 m)] ++ xq31.2.2, 3, true⟩ :: ⟨bq28, [(.int .i64 m)], 3, true⟩ :: ⟨xq5.1, [(.slice (some ⟨b, 0, none⟩) cap cap)] ++ xq5.2.2, 30, true⟩ :: ⟨bq4, [(.slice (some ⟨b, 0, none⟩) cap cap)], 30, true⟩ :: ⟨kb, [(.slice (some ⟨xq5.1, 0, none⟩) 1 xq5.2.1), (.slice none 0 0), (.slice none 0 0), (.slice none 0 0), (.slice (some ⟨xq31.1, 0, none⟩) 1 xq31.2.1), (.slice none 0 0), (.slice none 0 0), (.slice none 0 0)], 41, true⟩ :: ⟨b, (mks m cap).map u32, 72, true⟩ :: R)) rfl rfl rfl T.sz38 rfl rfl rfl rfl) (fun _ => (ulS (ulS (ulC (ulC (ulS (ulC ulR))))))) (fun _ _ => ?_)
            refine GH.done (by kernel_rfl) ?_
            refine GC.end0 rfl (fun wN HN => ?_)
            exact HN.frm (xq31, xq5) ⟨hq6.1, hq32.1⟩ (by rfl) (ulC (ulS (ulC (ulS (ulC (ulC ulR))))))
          exact GHs.nil
        refine GHs.cons rfl (Ex.wp (v := (.pointer (some ⟨kb, 0, none⟩))) (Ex.nilCheck rfl) (by decide)) (fun _ => (ulS (ulC (ulC (ulS (ulC ulR)))))) (fun _ _ => ?_) ?_
        · refine GH.take 10 (v := (.pointer (some ⟨kb, 4, none⟩))) rfl (by kernel_rfl) (by kernel_rfl) (by kernel_rfl) (fun _ _ _ h => h) (Ex.cast (Ex.fieldAddr rfl Try.underlying41 rfl T.sz39 (by decide)) rfl) (ulS (ulC (ulC (ulS (ulC ulR))))) (by decide) ?_
          refine GH.one 5 rfl (by kernel_rfl) (Ex.wp (v := (.slice none 0 0)) (Ex.load rfl T.ag38 (i := 3) rfl rfl) (by decide)) (fun _ => (ulS (ulC (ulC (ulS (ulC ulR)))))) (fun _ _ => ?_)
          refine GH.one 8 rfl (by kernel_rfl) (Stp.appendNil (vs := [(.int .i64 m)]) rfl rfl Try.underlying38 T.sz3 T.zr3 rfl T.by3 (fun wz hz => hz.rdOf (i := 0) rfl 0) rfl (by decide) (by decide) (by decide) (by decide)) (fun _ => (ulS (ulS (ulC (ulC (ulS (ulC ulR))))))) (fun xq33 hq34 => ?_)
          refine GH.take 11 (v := (.pointer (some ⟨kb, 4, none⟩))) rfl (by kernel_rfl) (by kernel_rfl) (by kernel_rfl) (fun _ _ _ h => h) (Ex.cast (Ex.indexArr (m := 4) rfl rfl Try.underlying39 T.sz38 (by decide) (by decide)) rfl) (ulS (ulS (ulC (ulC (ulS (ulC ulR)))))) (by decide) ?_
          refine GH.one 12 rfl (by kernel_rfl) (Stp.storeL (i := 4) (L1 := (⟨xq33.1, [(.int .i64 m)] ++ xq33.2.2, 3, true⟩ :: ⟨bq28, [(.int .i64 m)], 3, true⟩ :: ⟨xq5.1, [(.slice (some ⟨b, 0, none⟩) cap cap)] ++ xq5.2.2, 30, true⟩ :: ⟨bq4, [(.slice (some ⟨b, 0, none⟩) cap cap)], 30, true⟩ :: ⟨kb, [(.slice (some ⟨xq5.1, 0, none⟩) 1 xq5.2.1), (.slice none 0 0), (.slice none 0 0), (.slice none 0 0), (.slice (some ⟨xq33.1, 0, none⟩) 1 xq33.2.1), (.slice none 0 0), (.slice none 0 0), (.slice none 0 0)], 41, true⟩ :: ⟨b, (mks m cap).map u32, 72, true⟩ :: R)) rfl rfl rfl T.sz38 rfl rfl rfl rfl) (fun _ => (ulS (ulS (ulC (ulC (ulS (ulC ulR))))))) (fun _ _ => ?_)
          refine GH.done (by kernel_rfl) ?_
          refine GC.end0 rfl (fun wN HN => ?_)
          exact HN.frm (xq33, xq5) ⟨hq6.1, hq34.1⟩ (by rfl) (ulC (ulS (ulC (ulS (ulC (ulC ulR))))))
        exact GHs.nil
      refine GHs.cons rfl (Ex.wp (v := (.pointer (some ⟨kb, 0, none⟩))) (Ex.nilCheck rfl) (by decide)) (fun _ => (ulS (ulC (ulC (ulS (ulC ulR)))))) (fun _ _ => ?_) ?_
      · refine GH.take 10 (v := (.pointer (some ⟨kb, 4, none⟩))) rfl (by kernel_rfl) (by kernel_rfl) (by kernel_rfl) (fun _ _ _ h => h) (Ex.cast (Ex.fieldAddr rfl Try.underlying41 rfl T.sz39 (by decide)) rfl) (ulS (ulC (ulC (ulS (ulC ulR))))) (by decide) ?_
        refine GH.one 2 rfl (by kernel_rfl) (Ex.wp (v := (.pointer (some ⟨kb, 0, none⟩))) (Ex.nilCheck rfl) (by decide)) (fun _ => (ulS (ulC (ulC (ulS (ulC ulR)))))) (fun _ _ => ?_)
        refine GH.take 3 (v := (.pointer (some ⟨kb, 4, none⟩))) rfl (by kernel_rfl) (by kernel_rfl) (by kernel_rfl) (fun _ _ _ h => h) (Ex.cast (Ex.fieldAddr rfl Try.underlying41 rfl T.sz39 (by decide)) rfl) (ulS (ulC (ulC (ulS (ulC ulR))))) (by decide) ?_
        refine GH.take 4 (v := (.pointer (some ⟨kb, 4, none⟩))) rfl (by kernel_rfl) (by kernel_rfl) (by kernel_rfl) (fun _ _ _ h => h) (Ex.cast (Ex.indexArr (m := 4) rfl rfl Try.underlying39 T.sz38 (by decide) (by decide)) rfl) (ulS (ulC (ulC (ulS (ulC ulR))))) (by decide) ?_
        refine GH.one 5 rfl (by kernel_rfl) (Ex.wp (v := (.slice none 0 0)) (Ex.load rfl T.ag38 (i := 3) rfl rfl) (by decide)) (fun _ => (ulS (ulC (ulC (ulS (ulC ulR)))))) (fun _ _ => ?_)
        refine GH.one 8 rfl (by kernel_rfl) (Stp.appendNil (vs := [(.int .i64 m)]) rfl rfl Try.underlying38 T.sz3 T.zr3 rfl T.by3 (fun wz hz => hz.rdOf (i := 0) rfl 0) rfl (by decide) (by decide) (by decide) (by decide)) (fun _ => (ulS (ulS (ulC (ulC (ulS (ulC ulR))))))) (fun xq35 hq36 => ?_)
        refine GH.take 11 (v := (.pointer (some ⟨kb, 4, none⟩))) rfl (by kernel_rfl) (by kernel_rfl) (by kernel_rfl) (fun _ _ _ h => h) (Ex.cast (Ex.indexArr (m := 4) rfl rfl Try.underlying39 T.sz38 (by decide) (by decide)) rfl) (ulS (ulS (ulC (ulC (ulS (ulC ulR)))))) (by decide) ?_
        refine GH.one 12 rfl (by kernel_rfl) (Stp.storeL (i := 4) (L1 := (⟨xq35.1, [(.int .i64 m)] ++ xq35.2.2, 3, true⟩ :: ⟨bq28, [(.int .i64 m)], 3, true⟩ :: ⟨xq5.1, [(.slice (some ⟨b, 0, none⟩) cap cap)] ++ xq5.2.2, 30, true⟩ :: ⟨bq4, [(.slice (some ⟨b, 0, none⟩) cap cap)], 30, true⟩ :: ⟨kb, [(.slice (some ⟨xq5.1, 0, none⟩) 1 xq5.2.1), (.slice none 0 0), (.slice none 0 0), (.slice none 0 0), (.slice (some ⟨xq35.1, 0, none⟩) 1 xq35.2.1), (.slice none 0 0), (.slice none 0 0), (.slice none 0 0)], 41, true⟩ :: ⟨b, (mks m cap).map u32, 72, true⟩ :: R)) rfl rfl rfl T.sz38 rfl rfl rfl rfl) (fun _ => (ulS (ulS (ulC (ulC (ulS (ulC ulR))))))) (fun _ _ => ?_)
        refine GH.done (by kernel_rfl) ?_
        refine GC.end0 rfl (fun wN HN => ?_)
        exact HN.frm (xq35, xq5) ⟨hq6.1, hq36.1⟩ (by rfl) (ulC (ulS (ulC (ulS (ulC (ulC ulR))))))
      exact GHs.nil
    refine GHs.cons rfl (Ex.wp (v := (.pointer (some ⟨kb, 0, none⟩))) (Ex.nilCheck rfl) (by decide)) (fun _ => (ulC (ulC (ulS (ulC ulR))))) (fun _ _ => ?_) ?_
    · refine GH.take 10 (v := (.pointer (some ⟨kb, 4, none⟩))) rfl (by kernel_rfl) (by kernel_rfl) (by kernel_rfl) (fun _ _ _ h => h) (Ex.cast (Ex.fieldAddr rfl Try.underlying41 rfl T.sz39 (by decide)) rfl) (ulC (ulC (ulS (ulC ulR)))) (by decide) ?_
      refine GH.many (rs := [2, 7]) (by kernel_rfl) (by simp) ?_
      refine GHs.cons rfl (Ex.wp (v := (.pointer (some ⟨kb, 0, none⟩))) (Ex.nilCheck rfl) (by decide)) (fun _ => (ulC (ulC (ulS (ulC ulR))))) (fun _ _ => ?_) ?_
      · refine GH.take 3 (v := (.pointer (some ⟨kb, 4, none⟩))) rfl (by kernel_rfl) (by kernel_rfl) (by kernel_rfl) (fun _ _ _ h => h) (Ex.cast (Ex.fieldAddr rfl Try.underlying41 rfl T.sz39 (by decide)) rfl) (ulC (ulC (ulS (ulC ulR)))) (by decide) ?_
        refine GH.take 4 (v := (.pointer (some ⟨kb, 4, none⟩))) rfl (by kernel_rfl) (by kernel_rfl) (by kernel_rfl) (fun _ _ _ h => h) (Ex.cast (Ex.indexArr (m := 4) rfl rfl Try.underlying39 T.sz38 (by decide) (by decide)) rfl) (ulC (ulC (ulS (ulC ulR)))) (by decide) ?_
        refine GH.many (rs := [5, 7]) (by kernel_rfl) (by simp) ?_
        refine GHs.cons rfl (Ex.wp (v := (.slice none 0 0)) (Ex.load rfl T.ag38 (i := 2) rfl rfl) (by decide)) (fun _ => (ulC (ulC (ulS (ulC ulR))))) (fun _ _ => ?_) ?_
        · refine GH.one 7 rfl (by kernel_rfl) (Stp.buildSlice (cs := [(.int .i64 m)]) (vs := [(0, (.int .i64 m))]) Try.underlying38 T.zr3 T.sz3 rfl (by decide) (by decide) (by first | rfl | kernel_rfl) (by decide)) (fun _ => (ulS (ulC (ulC (ulS (ulC ulR)))))) (fun bq37 _ => ?_)
          refine GH.one 8 rfl (by kernel_rfl) (Stp.appendNil (vs := [(.int .i64 m)]) rfl rfl Try.underlying38 T.sz3 T.zr3 rfl T.by3 (fun wz hz => hz.rdOf (i := 0) rfl 0) rfl (by decide) (by decide) (by decide) (by decide)) (fun _ => (ulS (ulS (ulC (ulC (ulS (ulC ulR))))))) (fun xq38 hq39 => ?_)
          refine GH.take 11 (v := (.pointer (some ⟨kb, 4, none⟩))) rfl (by kernel_rfl) (by kernel_rfl) (by kernel_rfl) (fun _ _ _ h => h) (Ex.cast (Ex.indexArr (m := 4) rfl rfl Try.underlying39 T.sz38 (by decide) (by decide)) rfl) (ulS (ulS (ulC (ulC (ulS (ulC ulR)))))) (by decide) ?_
          refine GH.one 12 rfl (by kernel_rfl) (Stp.storeL (i := 4) (L1 := (⟨xq38.1, [(.int .i64 m)] ++ xq38.2.2, 3, true⟩ :: ⟨bq37, [(.int .i64 m)], 3, true⟩ :: ⟨xq5.1, [(.slice (some ⟨b, 0, none⟩) cap cap)] ++ xq5.2.2, 30, true⟩ :: ⟨bq4, [(.slice (some ⟨b, 0, none⟩) cap cap)], 30, true⟩ :: ⟨kb, [(.slice (some ⟨xq5.1, 0, none⟩) 1 xq5.2.1), (.slice none 0 0), (.slice none 0 0), (.slice none 0 0), (.slice (some ⟨xq38.1, 0, none⟩) 1 xq38.2.1), (.slice none 0 0), (.slice none 0 0), (.slice none 0 0)], 41, true⟩ :: ⟨b, (mks m cap).map u32, 72, true⟩ :: R)) rfl rfl rfl T.sz38 rfl rfl rfl rfl) (fun _ => (ulS (ulS (ulC (ulC (ulS (ulC ulR))))))) (fun _ _ => ?_)
          refine GH.done (by kernel_rfl) ?_
          refine GC.end0 rfl (fun wN HN => ?_)
          exact HN.frm (xq38, xq5) ⟨hq6.1, hq39.1⟩ (by rfl) (ulC (ulS (ulC (ulS (ulC (ulC ulR))))))
        refine GHs.cons rfl (Stp.buildSlice (cs := [(.int .i64 m)]) (vs := [(0, (.int .i64 m))]) Try.underlying38 T.zr3 T.sz3 rfl (by decide) (by decide) (by first | rfl | kernel_rfl) (by decide)) (fun _ => (ulS (ulC (ulC (ulS (ulC ulR)))))) (fun bq40 _ => ?_) ?_
        · refine GH.one 5 rfl (by kernel_rfl) (Ex.wp (v := (.slice none 0 0)) (Ex.load rfl T.ag38 (i := 3) rfl rfl) (by decide)) (fun _ => (ulS (ulC (ulC (ulS (ulC ulR)))))) (fun _ _ => ?_)
          refine GH.one 8 rfl (by kernel_rfl) (Stp.appendNil (vs := [(.int .i64 m)]) rfl rfl Try.underlying38 T.sz3 T.zr3 rfl T.by3 (fun wz hz => hz.rdOf (i := 0) rfl 0) rfl (by decide) (by decide) (by decide) (by decide)) (fun _ => (ulS (ulS (ulC (ulC (ulS (ulC ulR))))))) (fun xq41 hq42 => ?_)
          refine GH.take 11 (v := (.pointer (some ⟨kb, 4, none⟩))) rfl (by kernel_rfl) (by kernel_rfl) (by kernel_rfl) (fun _ _ _ h => h) (Ex.cast (Ex.indexArr (m := 4) rfl rfl Try.underlying39 T.sz38 (by decide) (by decide)) rfl) (ulS (ulS (ulC (ulC (ulS (ulC ulR)))))) (by decide) ?_
          refine GH.one 12 rfl (by kernel_rfl) (Stp.storeL (i := 4) (L1 := (⟨xq41.1, [(.int .i64 m)] ++ xq41.2.2, 3, true⟩ :: ⟨bq40, [(.int .i64 m)], 3, true⟩ :: ⟨xq5.1, [(.slice (some ⟨b, 0, none⟩) cap cap)] ++ xq5.2.2, 30, true⟩ :: ⟨bq4, [(.slice (some ⟨b, 0, none⟩) cap cap)], 30, true⟩ :: ⟨kb, [(.slice (some ⟨xq5.1, 0, none⟩) 1 xq5.2.1), (.slice none 0 0), (.slice none 0 0), (.slice none 0 0), (.slice (some ⟨xq41.1, 0, none⟩) 1 xq41.2.1), (.slice none 0 0), (.slice none 0 0), (.slice none 0 0)], 41, true⟩ :: ⟨b, (mks m cap).map u32, 72, true⟩ :: R)) rfl rfl rfl T.sz38 rfl rfl rfl rfl) (fun _ => (ulS (ulS (ulC (ulC (ulS (ulC ulR))))))) (fun _ _ => ?_)
          refine GH.done (by kernel_rfl) ?_
          refine GC.end0 rfl (fun wN HN => ?_)
          exact HN.frm (xq41, xq5) ⟨hq6.1, hq42.1⟩ (by rfl) (ulC (ulS (ulC (ulS (ulC (ulC ulR))))))
        exact GHs.nil
      refine GHs.cons rfl (Stp.buildSlice (cs := [(.int .i64 m)]) (vs := [(0, (.int .i64 m))]) Try.underlying38 T.zr3 T.sz3 rfl (by decide) (by decide) (by first | rfl | kernel_rfl) (by decide)) (fun _ => (ulS (ulC (ulC (ulS (ulC ulR)))))) (fun bq43 _ => ?_) ?_
      · refine GH.one 2 rfl (by kernel_rfl) (Ex.wp (v := (.pointer (some ⟨kb, 0, none⟩))) (Ex.nilCheck rfl) (by decide)) (fun _ => (ulS (ulC (ulC (ulS (ulC ulR)))))) (fun _ _ => ?_)
        refine GH.take 3 (v := (.pointer (some ⟨kb, 4, none⟩))) rfl (by kernel_rfl) (by kernel_rfl) (by kernel_rfl) (fun _ _ _ h => h) (Ex.cast (Ex.fieldAddr rfl Try.underlying41 rfl T.sz39 (by decide)) rfl) (ulS (ulC (ulC (ulS (ulC ulR))))) (by decide) ?_
        refine GH.take 4 (v := (.pointer (some ⟨kb, 4, none⟩))) rfl (by kernel_rfl) (by kernel_rfl) (by kernel_rfl) (fun _ _ _ h => h) (Ex.cast (Ex.indexArr (m := 4) rfl rfl Try.underlying39 T.sz38 (by decide) (by decide)) rfl) (ulS (ulC (ulC (ulS (ulC ulR))))) (by decide) ?_
        refine GH.one 5 rfl (by kernel_rfl) (Ex.wp (v := (.slice none 0 0)) (Ex.load rfl T.ag38 (i := 3) rfl rfl) (by decide)) (fun _ => (ulS (ulC (ulC (ulS (ulC ulR)))))) (fun _ _ => ?_)
        refine GH.one 8 rfl (by kernel_rfl) (Stp.appendNil (vs := [(.int .i64 m)]) rfl rfl Try.underlying38 T.sz3 T.zr3 rfl T.by3 (fun wz hz => hz.rdOf (i := 0) rfl 0) rfl (by decide) (by decide) (by decide) (by decide)) (fun _ => (ulS (ulS (ulC (ulC (ulS (ulC ulR))))))) (fun xq44 hq45 => ?_)
        refine GH.take 11 (v := (.pointer (some ⟨kb, 4, none⟩))) rfl (by kernel_rfl) (by kernel_rfl) (by kernel_rfl) (fun _ _ _ h => h) (Ex.cast (Ex.indexArr (m := 4) rfl rfl Try.underlying39 T.sz38 (by decide) (by decide)) rfl) (ulS (ulS (ulC (ulC (ulS (ulC ulR)))))) (by decide) ?_
        refine GH.one 12 rfl (by kernel_rfl) (Stp.storeL (i := 4) (L1 := (⟨xq44.1, [(.int .i64 m)] ++ xq44.2.2, 3, true⟩ :: ⟨bq43, [(.int .i64 m)], 3, true⟩ :: ⟨xq5.1, [(.slice (some ⟨b, 0, none⟩) cap cap)] ++ xq5.2.2, 30, true⟩ :: ⟨bq4, [(.slice (some ⟨b, 0, none⟩) cap cap)], 30, true⟩ :: ⟨kb, [(.slice (some ⟨xq5.1, 0, none⟩) 1 xq5.2.1), (.slice none 0 0), (.slice none 0 0), (.slice none 0 0), (.slice (some ⟨xq44.1, 0, none⟩) 1 xq44.2.1), (.slice none 0 0), (.slice none 0 0), (.slice none 0 0)], 41, true⟩ :: ⟨b, (mks m cap).map u32, 72, true⟩ :: R)) rfl rfl rfl T.sz38 rfl rfl rfl rfl) (fun _ => (ulS (ulS (ulC (ulC (ulS (ulC ulR))))))) (fun _ _ => ?_)
        refine GH.done (by kernel_rfl) ?_
        refine GC.end0 rfl (fun wN HN => ?_)
        exact HN.frm (xq44, xq5) ⟨hq6.1, hq45.1⟩ (by rfl) (ulC (ulS (ulC (ulS (ulC (ulC ulR))))))
      exact GHs.nil
    exact GHs.nil

set_option maxRecDepth 100000 in
set_option maxHeartbeats 1000000 in
theorem book_p01 (w0 : World) (R : List Blk) (W H : Int) (kb : Nat) (m : Int) (b n cap : Nat) (cs : List Value) (w : World) (hcap : cs.length = cap) (hb : cap ≤ 9223372036854775806) (hp0 : Hp None w0 (⟨kb, [(.slice none 0 0), (.slice none 0 0), (.slice none 0 0), (.slice none 0 0), (.slice none 0 0), (.slice none 0 0), (.slice none 0 0), (.slice none 0 0)], 41, true⟩ :: ⟨b, cs, 72, true⟩ :: R) w) :
    Calls Try.prog 21 #[(.pointer (some ⟨kb, 0, none⟩)), (.agg #[(.int .i64 W), (.int .i64 H), (.slice (some ⟨b, 0, none⟩) n cap)]), (.int .i64 m)] w (Frm (σ := (Nat × Nat × List Value) × (Nat × Nat × List Value)) None w0 (fun x => ([(Value.slice (some ⟨b, 0, none⟩) cap cap)] ++ x.2.2.2 : List Value).length = x.2.2.1 * 1 ∧ ([(Value.int .i64 m)] ++ x.1.2.2 : List Value).length = x.1.2.1 * 1) (fun x => .tuple #[]) (fun x => (⟨x.1.1, [(Value.int .i64 m)] ++ x.1.2.2, 3, true⟩ :: ⟨x.2.1, [(Value.slice (some ⟨b, 0, none⟩) cap cap)] ++ x.2.2.2, 30, true⟩ :: ⟨kb, [(.slice (some ⟨x.2.1, 0, none⟩) 1 x.2.2.1), (.slice none 0 0), (.slice none 0 0), (.slice none 0 0), (.slice (some ⟨x.1.1, 0, none⟩) 1 x.1.2.1), (.slice none 0 0), (.slice none 0 0), (.slice none 0 0)], 41, true⟩ :: ⟨b, (mks m cap).map u32, 72, true⟩ :: R))) := by
  refine enterF (w0 := w0) (M := None) (L := (⟨kb, [(.slice none 0 0), (.slice none 0 0), (.slice none 0 0), (.slice none 0 0), (.slice none 0 0), (.slice none 0 0), (.slice none 0 0), (.slice none 0 0)], 41, true⟩ :: ⟨b, cs, 72, true⟩ :: R)) (n := 11) (l := [(0, (.pointer (some ⟨kb, 0, none⟩))), (1, (.agg #[(.int .i64 W), (.int .i64 H), (.slice (some ⟨b, 0, none⟩) n cap)])), (2, (.int .i64 m))]) Try.func21 rfl rfl (Args.cons rfl (Args.cons rfl (Args.cons rfl (Args.nil _)))) hp0 ?_
  refine GC.seq ?_
  refine GC.region ?_
  refine GL.step (Stp.box (cs := [(.int .i64 W), (.int .i64 H), (.slice (some ⟨b, 0, none⟩) n cap)]) rfl rfl (by decide)) (fun bq1 _ => ?_)
  refine GL.nil ?_
  refine GE.thenN ?_
  refine GC.region ?_
  refine GL.val (v := (.pointer (some ⟨kb, 0, none⟩))) (Ex.move rfl) (by decide) ?_
  refine GL.val (v := (.pointer (some ⟨bq1, 2, none⟩))) (Ex.cast (Ex.fieldAddr rfl Try.underlying32 rfl T.sz30 (by decide)) rfl) (by decide) ?_
  refine GL.val (v := (.slice (some ⟨b, 0, none⟩) n cap)) (Ex.load rfl T.ag30 (i := 0) rfl rfl) (by decide) ?_
  refine GL.val (v := (.int .i64 m)) (Ex.move rfl) (by decide) ?_
  refine GL.step (Stp.call (σ := (Nat × Nat × List Value) × (Nat × Nat × List Value)) (p := fun rz => ([(Value.slice (some ⟨b, 0, none⟩) cap cap)] ++ rz.2.2.2 : List Value).length = rz.2.2.1 * 1 ∧ ([(Value.int .i64 m)] ++ rz.1.2.2 : List Value).length = rz.1.2.1 * 1) (v := fun rz => (.tuple #[])) (L' := fun rz => (⟨rz.1.1, [(Value.int .i64 m)] ++ rz.1.2.2, 3, true⟩ :: ⟨rz.2.1, [(Value.slice (some ⟨b, 0, none⟩) cap cap)] ++ rz.2.2.2, 30, true⟩ :: ⟨kb, [(.slice (some ⟨rz.2.1, 0, none⟩) 1 rz.2.2.1), (.slice none 0 0), (.slice none 0 0), (.slice none 0 0), (.slice (some ⟨rz.1.1, 0, none⟩) 1 rz.1.2.1), (.slice none 0 0), (.slice none 0 0), (.slice none 0 0)], 41, true⟩ :: ⟨b, (mks m cap).map u32, 72, true⟩ :: ⟨bq1, [(.int .i64 W), (.int .i64 H), (.slice (some ⟨b, 0, none⟩) n cap)], 32, true⟩ :: R)) (vs := [(.pointer (some ⟨kb, 0, none⟩)), (.slice (some ⟨b, 0, none⟩) n cap), (.int .i64 m)]) rfl rfl T.own56 (by decide) (fun wc hw => book_s01 w0 (⟨bq1, [(.int .i64 W), (.int .i64 H), (.slice (some ⟨b, 0, none⟩) n cap)], 32, true⟩ :: R) kb m b n cap cs wc hcap hb (Hp.pickT (A := [⟨bq1, [(.int .i64 W), (.int .i64 H), (.slice (some ⟨b, 0, none⟩) n cap)], 32, true⟩, ⟨kb, [(.slice none 0 0), (.slice none 0 0), (.slice none 0 0), (.slice none 0 0), (.slice none 0 0), (.slice none 0 0), (.slice none 0 0), (.slice none 0 0)], 41, true⟩, ⟨b, cs, 72, true⟩]) (R := R) hw (idx := [1, 2, 0]) (by decide) rfl))) (fun xq2 hq3 => ?_)
  refine GL.nil ?_
  refine GC.end0 rfl (fun wN HN => ?_)
  exact HN.frm xq2 hq3 (by rfl) (ulC (ulC (ulC (ulC (ulS ulR)))))

set_option maxRecDepth 100000 in
set_option maxHeartbeats 1000000 in
theorem ref_blank (W H : Nat) (w : World) (hA : W * H ≤ 65536) :
    Calls Try.prog 48 #[(.int .i64 (((W : Nat) : Int))), (.int .i64 (((H : Nat) : Int)))] w (Ret w (fun _ : Nat => True) (fun r => (.agg #[(.int .i64 (((W : Nat) : Int))), (.int .i64 (((H : Nat) : Int))), (.slice (some ⟨r, 0, none⟩) (W * H) (W * H))])) (fun r => [⟨r, List.replicate (W * H) (.int .u32 0), 72, true⟩])) := by
  refine enter (M := None) (L := []) (n := 12) (l := [(0, (.int .i64 (((W : Nat) : Int)))), (1, (.int .i64 (((H : Nat) : Int))))]) Try.func48 rfl rfl (Args.cons rfl (Args.cons rfl (Args.nil _))) (Hp.start _ _) ?_
  refine GC.seq ?_
  refine GC.region ?_
  refine GL.step (Stp.alloc T.zr32 (by decide)) (fun bq1 _ => ?_)
  refine GL.nil ?_
  refine GE.thenN ?_
  refine GC.seq ?_
  refine GC.region ?_
  refine GL.val (v := (.int .i64 (((W : Nat) : Int)))) (Ex.move rfl) (by decide) ?_
  refine GL.val (v := (.int .i64 (((H : Nat) : Int)))) (Ex.move rfl) (by decide) ?_
  refine GL.val (v := (.int .i64 (((W : Nat) : Int)))) (Ex.move rfl) (by decide) ?_
  refine GL.val (v := (.int .i64 (((H : Nat) : Int)))) (Ex.move rfl) (by decide) ?_
  refine GL.val (v := (.int .i64 (((W * H : Nat) : Int)))) (Ex.mul rfl rfl (Z := ((W * H : Nat) : Int)) (mulN (by omega))) (by decide) ?_
  refine GL.step (Stp.makeSlice (a1 := W * H) (c := W * H) rfl rfl Try.underlying30 T.zr72 T.sz72 T.by72 rfl (Nat.le_refl _) (by omega) (by omega) (by decide)) (fun bq2 _ => ?_)
  rw [madeCells_one]
  refine GL.val (v := (.agg #[(.int .i64 (((W : Nat) : Int))), (.int .i64 (((H : Nat) : Int))), (.slice (some ⟨bq2, 0, none⟩) (W * H) (W * H))])) (Ex.build (vs := [(0, (.int .i64 (((W : Nat) : Int)))), (1, (.int .i64 (((H : Nat) : Int)))), (2, (.slice (some ⟨bq2, 0, none⟩) (W * H) (W * H)))]) rfl (by first | rfl | kernel_rfl)) (by decide) ?_
  refine GL.step (Stp.storeL (i := 1) (L1 := [⟨bq2, List.replicate (W * H) (.int .u32 0), 72, true⟩, ⟨bq1, [(.int .i64 (((W : Nat) : Int))), (.int .i64 (((H : Nat) : Int))), (.slice (some ⟨bq2, 0, none⟩) (W * H) (W * H))], 32, true⟩]) rfl rfl rfl T.sz32 rfl rfl rfl rfl) (fun _ _ => ?_)
  refine GL.nil ?_
  refine GE.thenN ?_
  refine GC.ret ?_
  refine GC.ret1 rfl (Rv.cellA rfl T.ag32 T.sz32 (L := _) (i := 1) rfl (vs := [(.int .i64 (((W : Nat) : Int))), (.int .i64 (((H : Nat) : Int))), (.slice (some ⟨bq2, 0, none⟩) (W * H) (W * H))]) rfl rfl) (fun wN HN => ?_)
  exact HN.ret bq2 trivial rfl (ulC (ulS ulN)) rfl

set_option maxRecDepth 100000 in
set_option maxHeartbeats 1000000 in
theorem ref_at (W n cap b o x y : Nat) (H : Int) (xs : List Int) (w : World) (hlt : W * y + x < n) (hb : n ≤ 65536) (hx : xs.length = n) (hr : Rd w b o (xs.map u32)) :
    Calls Try.prog 49 #[(.agg #[(.int .i64 (((W : Nat) : Int))), (.int .i64 H), (.slice (some ⟨b, o, none⟩) n cap)]), (.int .i64 (((x : Nat) : Int))), (.int .i64 (((y : Nat) : Int)))] w (Ret w (fun _ : Unit => True) (fun _ => .int .u32 (smp xs W x y)) (fun _ => [])) := by
  refine enter (M := None) (L := []) (n := 17) (l := [(0, (.agg #[(.int .i64 (((W : Nat) : Int))), (.int .i64 H), (.slice (some ⟨b, o, none⟩) n cap)])), (1, (.int .i64 (((x : Nat) : Int)))), (2, (.int .i64 (((y : Nat) : Int))))]) Try.func49 rfl rfl (Args.cons rfl (Args.cons rfl (Args.cons rfl (Args.nil _)))) (Hp.start _ _) ?_
  refine GC.seq ?_
  refine GC.region ?_
  refine GL.step (Stp.box (cs := [(.int .i64 (((W : Nat) : Int))), (.int .i64 H), (.slice (some ⟨b, o, none⟩) n cap)]) rfl rfl (by decide)) (fun bq1 _ => ?_)
  refine GL.val (v := (.int .u32 0)) (Ex.assign rfl) (by decide) ?_
  refine GL.nil ?_
  refine GE.thenN ?_
  refine GC.seq ?_
  refine GC.region ?_
  refine GL.val (v := (.pointer (some ⟨bq1, 2, none⟩))) (Ex.cast (Ex.fieldAddr rfl Try.underlying32 rfl T.sz30 (by decide)) rfl) (by decide) ?_
  refine GL.val (v := (.slice (some ⟨b, o, none⟩) n cap)) (Ex.load rfl T.ag30 (i := 0) rfl rfl) (by decide) ?_
  refine GL.val (v := (.int .i64 (((y : Nat) : Int)))) (Ex.move rfl) (by decide) ?_
  refine GL.val (v := (.pointer (some ⟨bq1, 0, none⟩))) (Ex.cast (Ex.fieldAddr rfl Try.underlying32 rfl T.sz3 (by decide)) rfl) (by decide) ?_
  refine GL.val (v := (.int .i64 (((W : Nat) : Int)))) (Ex.load rfl T.ag3 (i := 0) rfl rfl) (by decide) ?_
  refine GL.val (v := (.int .i64 (((W * y : Nat) : Int)))) (Ex.mul rfl rfl (Z := ((W * y : Nat) : Int)) (mulN' (by omega))) (by decide) ?_
  refine GL.val (v := (.int .i64 (((x : Nat) : Int)))) (Ex.move rfl) (by decide) ?_
  refine GL.val (v := (.int .i64 (((W * y + x : Nat) : Int)))) (Ex.add rfl rfl (Z := ((W * y + x : Nat) : Int)) (addN (by omega))) (by decide) ?_
  refine GL.val (v := (.pointer (some ⟨b, o + (W * y + x), none⟩))) (Ex.cast (Ex.indexAddr rfl rfl Try.underlying30 T.sz72 (by omega) (by omega)) (by simp)) (by decide) ?_
  refine GL.val (v := (.int .u32 (smp xs W x y))) (Ex.loadO rfl T.ag72 (Rd.at hr (by omega)) (fun x => x)) (by decide) ?_
  refine GL.val (v := (.int .u32 (smp xs W x y))) (Ex.assign rfl) (by decide) ?_
  refine GL.nil ?_
  refine GE.thenN ?_
  refine GC.ret ?_
  refine GC.ret1 rfl (Rv.tmp rfl) (fun wN HN => ?_)
  exact HN.ret () trivial rfl (List.nil_sublist _) rfl

set_option maxRecDepth 100000 in
set_option maxHeartbeats 1000000 in
theorem ref_crop (W H n cap b o : Nat) (X0 Y0 X1 Y1 : Nat) (xs : List Int) (w : World) (hok : okP W H) (hn : n = W * H) (hx : xs.length = n) (hr : Rd w b o (xs.map u32)) (hX0 : X0 < X1) (hX1 : X1 ≤ W) (hY0 : Y0 < Y1) (hY1 : Y1 ≤ H) :
    Calls Try.prog 27 #[(.agg #[(.int .i64 (((W : Nat) : Int))), (.int .i64 (((H : Nat) : Int))), (.slice (some ⟨b, o, none⟩) n cap)]), (.agg #[(.int .i64 (((X0 : Nat) : Int))), (.int .i64 (((Y0 : Nat) : Int))), (.int .i64 (((X1 : Nat) : Int))), (.int .i64 (((Y1 : Nat) : Int)))])] w (Ret w (fun _ : Nat => True) (fun rz0 => .tuple #[(.agg #[(.int .i64 ((((X1 - X0) : Nat) : Int))), (.int .i64 ((((Y1 - Y0) : Nat) : Int))), (.slice (some ⟨rz0, 0, none⟩) ((X1 - X0) * (Y1 - Y0)) ((X1 - X0) * (Y1 - Y0)))]), .int .i64 0]) (fun rz0 => [⟨rz0, (crp xs W X0 Y0 (X1 - X0) (Y1 - Y0)).map u32, 72, true⟩])) := by
  have hW := hok.1
  have hH := hok.2.1
  have hW2 := hok.2.2.1
  have hH2 := hok.2.2.2.1
  have hA := hok.2.2.2.2
  have hA2 := (okP.part hok (w := X1 - X0) (h := Y1 - Y0) (by omega) (by omega) (by omega) (by omega)).2.2.2.2
  refine enter (M := None) (L := []) (n := 91) (l := [(0, (.agg #[(.int .i64 (((W : Nat) : Int))), (.int .i64 (((H : Nat) : Int))), (.slice (some ⟨b, o, none⟩) n cap)])), (1, (.agg #[(.int .i64 (((X0 : Nat) : Int))), (.int .i64 (((Y0 : Nat) : Int))), (.int .i64 (((X1 : Nat) : Int))), (.int .i64 (((Y1 : Nat) : Int)))]))]) Try.func27 rfl rfl (Args.cons rfl (Args.cons rfl (Args.nil _))) (Hp.start _ _) ?_
  refine GC.seq ?_
  refine GC.region ?_
  refine GL.step (Stp.box (cs := [(.int .i64 (((W : Nat) : Int))), (.int .i64 (((H : Nat) : Int))), (.slice (some ⟨b, o, none⟩) n cap)]) rfl rfl (by decide)) (fun bq1 _ => ?_)
  refine GL.step (Stp.box (cs := [(.int .i64 (((X0 : Nat) : Int))), (.int .i64 (((Y0 : Nat) : Int))), (.int .i64 (((X1 : Nat) : Int))), (.int .i64 (((Y1 : Nat) : Int)))]) rfl rfl (by decide)) (fun bq2 _ => ?_)
  refine GL.step (Stp.alloc T.zr32 (by decide)) (fun bq3 _ => ?_)
  refine GL.val (v := (.int .i64 0)) (Ex.assign rfl) (by decide) ?_
  refine GL.nil ?_
  refine GE.thenN ?_
  refine GC.seq ?_
  refine GC.region ?_
  refine GL.val (v := (.agg #[(.int .i64 (((W : Nat) : Int))), (.int .i64 (((H : Nat) : Int))), (.slice (some ⟨b, o, none⟩) n cap)])) (Ex.loadA rfl T.ag32 T.sz32 (i := 2) rfl (vs := [(.int .i64 (((W : Nat) : Int))), (.int .i64 (((H : Nat) : Int))), (.slice (some ⟨b, o, none⟩) n cap)]) rfl rfl) (by decide) ?_
  refine GL.step (Stp.callR (σ := Unit) (p := fun rz => True) (v := fun rz => (.int .i64 0)) (N := fun rz => []) (vs := [(.agg #[(.int .i64 (((W : Nat) : Int))), (.int .i64 (((H : Nat) : Int))), (.slice (some ⟨b, o, none⟩) n cap)])]) rfl rfl T.own35 (by decide) (fun wc hw => (by have h := ref_check (((W : Nat) : Int)) (((H : Nat) : Int)) (some ⟨b, o, none⟩) n cap wc; rw [show chk (((W : Nat) : Int)) (((H : Nat) : Int)) n = 0 from by rw [hn]; exact chk_ok hok] at h; exact h))) (fun xq4 hq5 => ?_)
  refine GL.val (v := (.int .i64 0)) (Ex.assign rfl) (by decide) ?_
  refine GL.nil ?_
  refine GE.thenN ?_
  refine GC.seq ?_
  refine GC.seq ?_
  refine GC.region ?_
  refine GL.val (v := (.int .i64 0)) (Ex.move rfl) (by decide) ?_
  refine GL.val (v := (.bool false)) (Ex.cast (Ex.neq rfl rfl) rfl) (by decide) ?_
  refine GL.nil ?_
  refine GE.thenN ?_
  refine GC.cond rfl (fun hq6 => by cases hq6) (fun _ => ?_)
  refine GC.skip ?_
  refine GE.thenN ?_
  refine GC.seq ?_
  refine GC.seq ?_
  refine GC.region ?_
  refine GL.val (v := (.pointer (some ⟨bq2, 0, none⟩))) (Ex.cast (Ex.fieldAddr rfl Try.underlying54 rfl T.sz3 (by decide)) rfl) (by decide) ?_
  refine GL.val (v := (.int .i64 (((X0 : Nat) : Int)))) (Ex.load rfl T.ag3 (i := 1) rfl rfl) (by decide) ?_
  refine GL.val (v := (.bool false)) (Ex.cast (Ex.lss rfl rfl) (congrArg Value.bool (decide_eq_false (by omega)))) (by decide) ?_
  refine GL.val (v := (.bool false)) (Ex.move rfl) (by decide) ?_
  refine GL.stepG (tj := 18) rfl rfl (Ex.wp (v := (.pointer (some ⟨bq2, 0, none⟩))) (Ex.cast (Ex.fieldAddr rfl Try.underlying54 rfl T.sz3 (by decide)) rfl) (by decide)) (fun _ _ => ?_)
  refine GL.stepG (tj := 18) rfl rfl (Ex.wp (v := (.int .i64 (((X0 : Nat) : Int)))) (Ex.load rfl T.ag3 (i := 1) rfl rfl) (by decide)) (fun _ _ => ?_)
  refine GL.stepG (tj := 18) rfl rfl (Ex.wp (v := (.pointer (some ⟨bq2, 2, none⟩))) (Ex.cast (Ex.fieldAddr rfl Try.underlying54 rfl T.sz3 (by decide)) rfl) (by decide)) (fun _ _ => ?_)
  refine GL.stepG (tj := 18) rfl rfl (Ex.wp (v := (.int .i64 (((X1 : Nat) : Int)))) (Ex.load rfl T.ag3 (i := 1) rfl rfl) (by decide)) (fun _ _ => ?_)
  refine GL.stepG (tj := 18) rfl rfl (Ex.wp (v := (.bool false)) (Ex.cast (Ex.geq rfl rfl) (congrArg Value.bool (decide_eq_false (by omega)))) (by decide)) (fun _ _ => ?_)
  refine GL.val (v := (.bool false)) (Ex.pickF rfl rfl) (by decide) ?_
  refine GL.val (v := (.bool false)) (Ex.move rfl) (by decide) ?_
  refine GL.stepG (tj := 25) rfl rfl (Ex.wp (v := (.pointer (some ⟨bq2, 2, none⟩))) (Ex.cast (Ex.fieldAddr rfl Try.underlying54 rfl T.sz3 (by decide)) rfl) (by decide)) (fun _ _ => ?_)
  refine GL.stepG (tj := 25) rfl rfl (Ex.wp (v := (.int .i64 (((X1 : Nat) : Int)))) (Ex.load rfl T.ag3 (i := 1) rfl rfl) (by decide)) (fun _ _ => ?_)
  refine GL.stepG (tj := 25) rfl rfl (Ex.wp (v := (.pointer (some ⟨bq1, 0, none⟩))) (Ex.cast (Ex.fieldAddr rfl Try.underlying32 rfl T.sz3 (by decide)) rfl) (by decide)) (fun _ _ => ?_)
  refine GL.stepG (tj := 25) rfl rfl (Ex.wp (v := (.int .i64 (((W : Nat) : Int)))) (Ex.load rfl T.ag3 (i := 2) rfl rfl) (by decide)) (fun _ _ => ?_)
  refine GL.stepG (tj := 25) rfl rfl (Ex.wp (v := (.bool false)) (Ex.cast (Ex.gtr rfl rfl) (congrArg Value.bool (decide_eq_false (by omega)))) (by decide)) (fun _ _ => ?_)
  refine GL.val (v := (.bool false)) (Ex.pickF rfl rfl) (by decide) ?_
  refine GL.val (v := (.bool false)) (Ex.move rfl) (by decide) ?_
  refine GL.stepG (tj := 32) rfl rfl (Ex.wp (v := (.pointer (some ⟨bq2, 1, none⟩))) (Ex.cast (Ex.fieldAddr rfl Try.underlying54 rfl T.sz3 (by decide)) rfl) (by decide)) (fun _ _ => ?_)
  refine GL.stepG (tj := 32) rfl rfl (Ex.wp (v := (.int .i64 (((Y0 : Nat) : Int)))) (Ex.load rfl T.ag3 (i := 1) rfl rfl) (by decide)) (fun _ _ => ?_)
  refine GL.stepG (tj := 32) rfl rfl (Ex.wp (v := (.bool false)) (Ex.cast (Ex.lss rfl rfl) (congrArg Value.bool (decide_eq_false (by omega)))) (by decide)) (fun _ _ => ?_)
  refine GL.val (v := (.bool false)) (Ex.pickF rfl rfl) (by decide) ?_
  refine GL.val (v := (.bool false)) (Ex.move rfl) (by decide) ?_
  refine GL.stepG (tj := 37) rfl rfl (Ex.wp (v := (.pointer (some ⟨bq2, 1, none⟩))) (Ex.cast (Ex.fieldAddr rfl Try.underlying54 rfl T.sz3 (by decide)) rfl) (by decide)) (fun _ _ => ?_)
  refine GL.stepG (tj := 37) rfl rfl (Ex.wp (v := (.int .i64 (((Y0 : Nat) : Int)))) (Ex.load rfl T.ag3 (i := 1) rfl rfl) (by decide)) (fun _ _ => ?_)
  refine GL.stepG (tj := 37) rfl rfl (Ex.wp (v := (.pointer (some ⟨bq2, 3, none⟩))) (Ex.cast (Ex.fieldAddr rfl Try.underlying54 rfl T.sz3 (by decide)) rfl) (by decide)) (fun _ _ => ?_)
  refine GL.stepG (tj := 37) rfl rfl (Ex.wp (v := (.int .i64 (((Y1 : Nat) : Int)))) (Ex.load rfl T.ag3 (i := 1) rfl rfl) (by decide)) (fun _ _ => ?_)
  refine GL.stepG (tj := 37) rfl rfl (Ex.wp (v := (.bool false)) (Ex.cast (Ex.geq rfl rfl) (congrArg Value.bool (decide_eq_false (by omega)))) (by decide)) (fun _ _ => ?_)
  refine GL.val (v := (.bool false)) (Ex.pickF rfl rfl) (by decide) ?_
  refine GL.val (v := (.bool false)) (Ex.move rfl) (by decide) ?_
  refine GL.stepG (tj := 44) rfl rfl (Ex.wp (v := (.pointer (some ⟨bq2, 3, none⟩))) (Ex.cast (Ex.fieldAddr rfl Try.underlying54 rfl T.sz3 (by decide)) rfl) (by decide)) (fun _ _ => ?_)
  refine GL.stepG (tj := 44) rfl rfl (Ex.wp (v := (.int .i64 (((Y1 : Nat) : Int)))) (Ex.load rfl T.ag3 (i := 1) rfl rfl) (by decide)) (fun _ _ => ?_)
  refine GL.stepG (tj := 44) rfl rfl (Ex.wp (v := (.pointer (some ⟨bq1, 1, none⟩))) (Ex.cast (Ex.fieldAddr rfl Try.underlying32 rfl T.sz3 (by decide)) rfl) (by decide)) (fun _ _ => ?_)
  refine GL.stepG (tj := 44) rfl rfl (Ex.wp (v := (.int .i64 (((H : Nat) : Int)))) (Ex.load rfl T.ag3 (i := 2) rfl rfl) (by decide)) (fun _ _ => ?_)
  refine GL.stepG (tj := 44) rfl rfl (Ex.wp (v := (.bool false)) (Ex.cast (Ex.gtr rfl rfl) (congrArg Value.bool (decide_eq_false (by omega)))) (by decide)) (fun _ _ => ?_)
  refine GL.val (v := (.bool false)) (Ex.pickF rfl rfl) (by decide) ?_
  refine GL.nil ?_
  refine GE.thenN ?_
  refine GC.cond rfl (fun hq7 => by cases hq7) (fun _ => ?_)
  refine GC.skip ?_
  refine GE.thenN ?_
  refine GC.seq ?_
  refine GC.region ?_
  refine GL.val (v := (.pointer (some ⟨bq2, 2, none⟩))) (Ex.cast (Ex.fieldAddr rfl Try.underlying54 rfl T.sz3 (by decide)) rfl) (by decide) ?_
  refine GL.val (v := (.int .i64 (((X1 : Nat) : Int)))) (Ex.load rfl T.ag3 (i := 1) rfl rfl) (by decide) ?_
  refine GL.val (v := (.pointer (some ⟨bq2, 0, none⟩))) (Ex.cast (Ex.fieldAddr rfl Try.underlying54 rfl T.sz3 (by decide)) rfl) (by decide) ?_
  refine GL.val (v := (.int .i64 (((X0 : Nat) : Int)))) (Ex.load rfl T.ag3 (i := 1) rfl rfl) (by decide) ?_
  refine GL.val (v := (.int .i64 (((X1 - X0 : Nat) : Int)))) (Ex.sub' rfl rfl (Z := ((X1 - X0 : Nat) : Int)) (subN (by omega) (by omega))) (by decide) ?_
  refine GL.val (v := (.pointer (some ⟨bq2, 3, none⟩))) (Ex.cast (Ex.fieldAddr rfl Try.underlying54 rfl T.sz3 (by decide)) rfl) (by decide) ?_
  refine GL.val (v := (.int .i64 (((Y1 : Nat) : Int)))) (Ex.load rfl T.ag3 (i := 1) rfl rfl) (by decide) ?_
  refine GL.val (v := (.pointer (some ⟨bq2, 1, none⟩))) (Ex.cast (Ex.fieldAddr rfl Try.underlying54 rfl T.sz3 (by decide)) rfl) (by decide) ?_
  refine GL.val (v := (.int .i64 (((Y0 : Nat) : Int)))) (Ex.load rfl T.ag3 (i := 1) rfl rfl) (by decide) ?_
  refine GL.val (v := (.int .i64 (((Y1 - Y0 : Nat) : Int)))) (Ex.sub' rfl rfl (Z := ((Y1 - Y0 : Nat) : Int)) (subN (by omega) (by omega))) (by decide) ?_
  refine GL.step (Stp.callR (σ := Nat) (p := fun rz => True) (v := fun rz => (.agg #[(.int .i64 ((((X1 - X0) : Nat) : Int))), (.int .i64 ((((Y1 - Y0) : Nat) : Int))), (.slice (some ⟨rz, 0, none⟩) ((X1 - X0) * (Y1 - Y0)) ((X1 - X0) * (Y1 - Y0)))])) (N := fun rz => [⟨rz, List.replicate ((X1 - X0) * (Y1 - Y0)) (.int .u32 0), 72, true⟩]) (vs := [(.int .i64 (((X1 - X0 : Nat) : Int))), (.int .i64 (((Y1 - Y0 : Nat) : Int)))]) rfl rfl T.own48 (by decide) (fun wc hw => ref_blank (X1 - X0) (Y1 - Y0) wc (by first | omega | (rw [Nat.mul_comm]; omega)))) (fun xq8 hq9 => ?_)
  refine GL.step (Stp.alloc T.zr32 (by decide)) (fun bq10 _ => ?_)
  refine GL.step (Stp.storeL (i := 0) (L1 := [⟨bq10, [(.int .i64 ((((X1 - X0) : Nat) : Int))), (.int .i64 ((((Y1 - Y0) : Nat) : Int))), (.slice (some ⟨xq8, 0, none⟩) ((X1 - X0) * (Y1 - Y0)) ((X1 - X0) * (Y1 - Y0)))], 32, true⟩, ⟨xq8, List.replicate ((X1 - X0) * (Y1 - Y0)) (.int .u32 0), 72, true⟩, ⟨bq3, [(.int .i64 0), (.int .i64 0), (.slice none 0 0)], 32, true⟩, ⟨bq2, [(.int .i64 (((X0 : Nat) : Int))), (.int .i64 (((Y0 : Nat) : Int))), (.int .i64 (((X1 : Nat) : Int))), (.int .i64 (((Y1 : Nat) : Int)))], 54, true⟩, ⟨bq1, [(.int .i64 (((W : Nat) : Int))), (.int .i64 (((H : Nat) : Int))), (.slice (some ⟨b, o, none⟩) n cap)], 32, true⟩]) rfl rfl rfl T.sz32 rfl rfl rfl rfl) (fun _ _ => ?_)
  refine GL.nil ?_
  refine GE.thenN ?_
  refine GC.seq ?_
  refine GC.seq ?_
  rw [show List.replicate ((X1 - X0) * (Y1 - Y0)) (Value.int .u32 0) = cur (X1 - X0) ((fun x y => smp xs W (X0 + x) (Y0 + y))) ((X1 - X0) * (Y1 - Y0)) 0 from (cur_zero _ _ _).symm]
  refine GC.region ?_
  refine GL.val (v := (.int .i64 0)) (Ex.assign rfl) (by decide) ?_
  refine GL.nil ?_
  refine GE.thenN ?_
  refine GC.block ?_
  refine GC.loop (σ := Nat) (fun k => k ≤ (X1 - X0) * (Y1 - Y0)) (fun k => [(0, (.agg #[(.int .i64 (((W : Nat) : Int))), (.int .i64 (((H : Nat) : Int))), (.slice (some ⟨b, o, none⟩) n cap)])), (1, (.agg #[(.int .i64 (((X0 : Nat) : Int))), (.int .i64 (((Y0 : Nat) : Int))), (.int .i64 (((X1 : Nat) : Int))), (.int .i64 (((Y1 : Nat) : Int)))])), (2, (.pointer (some ⟨bq1, 0, none⟩))), (3, (.pointer (some ⟨bq2, 0, none⟩))), (4, (.pointer (some ⟨bq3, 0, none⟩))), (5, (.int .i64 0)), (6, (.int .i64 0)), (7, (.pointer (some ⟨bq10, 0, none⟩))), (8, (.int .i64 (((k : Nat) : Int))))]) (fun k => [⟨bq10, [(.int .i64 ((((X1 - X0) : Nat) : Int))), (.int .i64 ((((Y1 - Y0) : Nat) : Int))), (.slice (some ⟨xq8, 0, none⟩) ((X1 - X0) * (Y1 - Y0)) ((X1 - X0) * (Y1 - Y0)))], 32, true⟩, ⟨xq8, cur (X1 - X0) ((fun x y => smp xs W (X0 + x) (Y0 + y))) ((X1 - X0) * (Y1 - Y0)) k, 72, true⟩, ⟨bq3, [(.int .i64 0), (.int .i64 0), (.slice none 0 0)], 32, true⟩, ⟨bq2, [(.int .i64 (((X0 : Nat) : Int))), (.int .i64 (((Y0 : Nat) : Int))), (.int .i64 (((X1 : Nat) : Int))), (.int .i64 (((Y1 : Nat) : Int)))], 54, true⟩, ⟨bq1, [(.int .i64 (((W : Nat) : Int))), (.int .i64 (((H : Nat) : Int))), (.slice (some ⟨b, o, none⟩) n cap)], 32, true⟩]) (fun k => (X1 - X0) * (Y1 - Y0) - k) (0) (Nat.zero_le _) ((sub_cons rfl ((sub_cons rfl ((sub_cons rfl ((sub_cons rfl ((sub_cons rfl ((sub_cons rfl ((sub_cons rfl ((sub_cons rfl ((sub_cons rfl ((sub_nil _)))))))))))))))))))) (ulC (ulC (ulC (ulC (ulC ulN))))) (fun k hp => ?_)
  refine GC.seq ?_
  refine GC.seq ?_
  refine GC.region ?_
  refine GL.val (v := (.int .i64 (((k : Nat) : Int)))) (Ex.move rfl) (by decide) ?_
  refine GL.val (v := (.pointer (some ⟨bq10, 2, none⟩))) (Ex.cast (Ex.fieldAddr rfl Try.underlying32 rfl T.sz30 (by decide)) rfl) (by decide) ?_
  refine GL.val (v := (.slice (some ⟨xq8, 0, none⟩) ((X1 - X0) * (Y1 - Y0)) ((X1 - X0) * (Y1 - Y0)))) (Ex.load rfl T.ag30 (i := 0) rfl rfl) (by decide) ?_
  refine GL.val (v := (.int .i64 ((((X1 - X0) * (Y1 - Y0) : Nat) : Int)))) (Ex.len rfl Try.underlying30) (by decide) ?_
  refine GL.val (v := (.bool (decide ((((k : Nat) : Int)) < ((((X1 - X0) * (Y1 - Y0) : Nat) : Int)))))) (Ex.lss rfl rfl) (by decide) ?_
  refine GL.nil ?_
  refine GE.thenN ?_
  refine GC.cond rfl (fun hq11 => ?_) (fun hq11 => ?_)
  · replace hq11 := of_decide_eq_true hq11
    refine GC.skip ?_
    refine GE.thenN ?_
    refine GC.seq ?_
    refine GC.block ?_
    have hkx : k % (X1 - X0) < (X1 - X0) := Nat.mod_lt _ (by omega)
    have hky : k / (X1 - X0) < (Y1 - Y0) := Nat.div_lt_of_lt_mul (by omega)
    have hkx0 : (0 : Int) ≤ ((k % (X1 - X0) : Nat) : Int) := Int.natCast_nonneg _
    have hky0 : (0 : Int) ≤ ((k / (X1 - X0) : Nat) : Int) := Int.natCast_nonneg _
    refine GC.drawP [⟨bq10, [(.int .i64 ((((X1 - X0) : Nat) : Int))), (.int .i64 ((((Y1 - Y0) : Nat) : Int))), (.slice (some ⟨xq8, 0, none⟩) ((X1 - X0) * (Y1 - Y0)) ((X1 - X0) * (Y1 - Y0)))], 32, true⟩, ⟨bq3, [(.int .i64 0), (.int .i64 0), (.slice none 0 0)], 32, true⟩, ⟨bq2, [(.int .i64 (((X0 : Nat) : Int))), (.int .i64 (((Y0 : Nat) : Int))), (.int .i64 (((X1 : Nat) : Int))), (.int .i64 (((Y1 : Nat) : Int)))], 54, true⟩, ⟨bq1, [(.int .i64 (((W : Nat) : Int))), (.int .i64 (((H : Nat) : Int))), (.slice (some ⟨b, o, none⟩) n cap)], 32, true⟩] T.mixed (by kernel_rfl) (by kernel_rfl) (fuel := 20) rfl rfl ?_
    refine GH.take 0 (v := (.pointer (some ⟨bq10, 2, none⟩))) rfl (by kernel_rfl) (by kernel_rfl) (by kernel_rfl) (fun _ _ _ h => h) (Ex.cast (Ex.fieldAddr rfl Try.underlying32 rfl T.sz30 (by decide)) rfl) (ulC (ulS (ulC (ulC (ulC ulN))))) (by decide) ?_
    refine GH.take 1 (v := (.slice (some ⟨xq8, 0, none⟩) ((X1 - X0) * (Y1 - Y0)) ((X1 - X0) * (Y1 - Y0)))) rfl (by kernel_rfl) (by kernel_rfl) (by kernel_rfl) (fun _ _ _ h => h) (Ex.load rfl T.ag30 (i := 0) rfl rfl) (ulC (ulS (ulC (ulC (ulC ulN))))) (by decide) ?_
    refine GH.take 2 (v := (.int .i64 (((k : Nat) : Int)))) rfl (by kernel_rfl) (by kernel_rfl) (by kernel_rfl) (fun _ _ _ h => h) (Ex.move rfl) (ulC (ulS (ulC (ulC (ulC ulN))))) (by decide) ?_
    refine GH.take 3 (v := (.agg #[(.int .i64 (((W : Nat) : Int))), (.int .i64 (((H : Nat) : Int))), (.slice (some ⟨b, o, none⟩) n cap)])) rfl (by kernel_rfl) (by kernel_rfl) (by kernel_rfl) (fun _ _ _ h => h) (Ex.loadA rfl T.ag32 T.sz32 (i := 3) rfl (vs := [(.int .i64 (((W : Nat) : Int))), (.int .i64 (((H : Nat) : Int))), (.slice (some ⟨b, o, none⟩) n cap)]) rfl rfl) (ulC (ulS (ulC (ulC (ulC ulN))))) (by decide) ?_
    refine GH.take 4 (v := (.pointer (some ⟨bq2, 0, none⟩))) rfl (by kernel_rfl) (by kernel_rfl) (by kernel_rfl) (fun _ _ _ h => h) (Ex.cast (Ex.fieldAddr rfl Try.underlying54 rfl T.sz3 (by decide)) rfl) (ulC (ulS (ulC (ulC (ulC ulN))))) (by decide) ?_
    refine GH.take 5 (v := (.int .i64 (((X0 : Nat) : Int)))) rfl (by kernel_rfl) (by kernel_rfl) (by kernel_rfl) (fun _ _ _ h => h) (Ex.load rfl T.ag3 (i := 2) rfl rfl) (ulC (ulS (ulC (ulC (ulC ulN))))) (by decide) ?_
    refine GH.take 6 (v := (.int .i64 (((k : Nat) : Int)))) rfl (by kernel_rfl) (by kernel_rfl) (by kernel_rfl) (fun _ _ _ h => h) (Ex.move rfl) (ulC (ulS (ulC (ulC (ulC ulN))))) (by decide) ?_
    refine GH.take 7 (v := (.pointer (some ⟨bq10, 0, none⟩))) rfl (by kernel_rfl) (by kernel_rfl) (by kernel_rfl) (fun _ _ _ h => h) (Ex.cast (Ex.fieldAddr rfl Try.underlying32 rfl T.sz3 (by decide)) rfl) (ulC (ulS (ulC (ulC (ulC ulN))))) (by decide) ?_
    refine GH.take 8 (v := (.int .i64 ((((X1 - X0) : Nat) : Int)))) rfl (by kernel_rfl) (by kernel_rfl) (by kernel_rfl) (fun _ _ _ h => h) (Ex.load rfl T.ag3 (i := 0) rfl rfl) (ulC (ulS (ulC (ulC (ulC ulN))))) (by decide) ?_
    refine GH.take 9 (v := (.int .i64 (((k % (X1 - X0) : Nat) : Int)))) rfl (by kernel_rfl) (by kernel_rfl) (by kernel_rfl) (fun _ _ _ h => h) (Ex.rem rfl rfl (Z := ((k % (X1 - X0) : Nat) : Int)) (by omega) rfl) (ulC (ulS (ulC (ulC (ulC ulN))))) (by decide) ?_
    refine GH.take 10 (v := (.int .i64 (((X0 + k % (X1 - X0) : Nat) : Int)))) rfl (by kernel_rfl) (by kernel_rfl) (by kernel_rfl) (fun _ _ _ h => h) (Ex.add rfl rfl (Z := ((X0 + k % (X1 - X0) : Nat) : Int)) (addN (by omega))) (ulC (ulS (ulC (ulC (ulC ulN))))) (by decide) ?_
    refine GH.take 11 (v := (.pointer (some ⟨bq2, 1, none⟩))) rfl (by kernel_rfl) (by kernel_rfl) (by kernel_rfl) (fun _ _ _ h => h) (Ex.cast (Ex.fieldAddr rfl Try.underlying54 rfl T.sz3 (by decide)) rfl) (ulC (ulS (ulC (ulC (ulC ulN))))) (by decide) ?_
    refine GH.take 12 (v := (.int .i64 (((Y0 : Nat) : Int)))) rfl (by kernel_rfl) (by kernel_rfl) (by kernel_rfl) (fun _ _ _ h => h) (Ex.load rfl T.ag3 (i := 2) rfl rfl) (ulC (ulS (ulC (ulC (ulC ulN))))) (by decide) ?_
    refine GH.take 13 (v := (.int .i64 (((k : Nat) : Int)))) rfl (by kernel_rfl) (by kernel_rfl) (by kernel_rfl) (fun _ _ _ h => h) (Ex.move rfl) (ulC (ulS (ulC (ulC (ulC ulN))))) (by decide) ?_
    refine GH.take 14 (v := (.pointer (some ⟨bq10, 0, none⟩))) rfl (by kernel_rfl) (by kernel_rfl) (by kernel_rfl) (fun _ _ _ h => h) (Ex.cast (Ex.fieldAddr rfl Try.underlying32 rfl T.sz3 (by decide)) rfl) (ulC (ulS (ulC (ulC (ulC ulN))))) (by decide) ?_
    refine GH.take 15 (v := (.int .i64 ((((X1 - X0) : Nat) : Int)))) rfl (by kernel_rfl) (by kernel_rfl) (by kernel_rfl) (fun _ _ _ h => h) (Ex.load rfl T.ag3 (i := 0) rfl rfl) (ulC (ulS (ulC (ulC (ulC ulN))))) (by decide) ?_
    refine GH.take 16 (v := (.int .i64 (((k / (X1 - X0) : Nat) : Int)))) rfl (by kernel_rfl) (by kernel_rfl) (by kernel_rfl) (fun _ _ _ h => h) (Ex.quo rfl rfl (Z := ((k / (X1 - X0) : Nat) : Int)) (by omega) (quoN (by omega))) (ulC (ulS (ulC (ulC (ulC ulN))))) (by decide) ?_
    refine GH.take 17 (v := (.int .i64 (((Y0 + k / (X1 - X0) : Nat) : Int)))) rfl (by kernel_rfl) (by kernel_rfl) (by kernel_rfl) (fun _ _ _ h => h) (Ex.add rfl rfl (Z := ((Y0 + k / (X1 - X0) : Nat) : Int)) (addN (by omega))) (ulC (ulS (ulC (ulC (ulC ulN))))) (by decide) ?_
    refine GH.one 18 rfl (by kernel_rfl) (Stp.callR (σ := Unit) (p := fun rz => True) (v := fun rz => (.int .u32 (smp xs W (X0 + k % (X1 - X0)) (Y0 + k / (X1 - X0))))) (N := fun rz => []) (vs := [(.agg #[(.int .i64 (((W : Nat) : Int))), (.int .i64 (((H : Nat) : Int))), (.slice (some ⟨b, o, none⟩) n cap)]), (.int .i64 (((X0 + k % (X1 - X0) : Nat) : Int))), (.int .i64 (((Y0 + k / (X1 - X0) : Nat) : Int)))]) rfl rfl T.own49 (by decide) (fun wc hw => ref_at W n cap b o (X0 + k % (X1 - X0)) (Y0 + k / (X1 - X0)) (((H : Nat) : Int)) xs wc (by have h := place_lt (W := W) (H := H) (x := (X0 + k % (X1 - X0))) (y := (Y0 + k / (X1 - X0))) (by omega) (by omega); omega) (by have h := hok.2.2.2.2; omega) hx (hw.rd hr (fun x => x)))) (fun _ => (ulC (ulS (ulC (ulC (ulC ulN)))))) (fun xq12 hq13 => ?_)
    refine GH.take 19 (v := (.pointer (some ⟨xq8, k, none⟩))) rfl (by kernel_rfl) (by kernel_rfl) (by kernel_rfl) (fun _ _ _ h => h) (Ex.cast (Ex.indexAddr rfl rfl Try.underlying30 T.sz72 (by omega) (by omega)) (by simp)) (ulC (ulS (ulC (ulC (ulC ulN))))) (by decide) ?_
    refine GH.done (by kernel_rfl) ?_
    refine GE.thenN ?_
    refine GE.tail rfl (Stp.storeL (i := 1) (cs := cur (X1 - X0) ((fun x y => smp xs W (X0 + x) (Y0 + y))) ((X1 - X0) * (Y1 - Y0)) k) (vs := [(.int .u32 (smp xs W (X0 + k % (X1 - X0)) (Y0 + k / (X1 - X0))))]) (o := k) (L1 := [⟨bq10, [(.int .i64 ((((X1 - X0) : Nat) : Int))), (.int .i64 ((((Y1 - Y0) : Nat) : Int))), (.slice (some ⟨xq8, 0, none⟩) ((X1 - X0) * (Y1 - Y0)) ((X1 - X0) * (Y1 - Y0)))], 32, true⟩, ⟨xq8, cur (X1 - X0) ((fun x y => smp xs W (X0 + x) (Y0 + y))) ((X1 - X0) * (Y1 - Y0)) (k + 1), 72, true⟩, ⟨bq3, [(.int .i64 0), (.int .i64 0), (.slice none 0 0)], 32, true⟩, ⟨bq2, [(.int .i64 (((X0 : Nat) : Int))), (.int .i64 (((Y0 : Nat) : Int))), (.int .i64 (((X1 : Nat) : Int))), (.int .i64 (((Y1 : Nat) : Int)))], 54, true⟩, ⟨bq1, [(.int .i64 (((W : Nat) : Int))), (.int .i64 (((H : Nat) : Int))), (.slice (some ⟨b, o, none⟩) n cap)], 32, true⟩]) rfl rfl rfl T.sz72 rfl (Nat.ble_eq_true_of_le (by rw [cur_len _ _ _ _ (by omega)]; simp; omega)) rfl (by rw [cur_app' (X1 - X0) ((fun x y => smp xs W (X0 + x) (Y0 + y))) ((X1 - X0) * (Y1 - Y0)) k _ (by omega) (by rfl)]; rfl)) (fun _ _ => ?_)
    refine GE.blockN ?_
    refine GE.thenN ?_
    refine GC.region ?_
    refine GL.val (v := (.int .i64 (((k : Nat) : Int)))) (Ex.move rfl) (by decide) ?_
    refine GL.val (v := (.int .i64 (((k + 1 : Nat) : Int)))) (Ex.add rfl rfl (Z := ((k + 1 : Nat) : Int)) (addN (b := 1) (by omega))) (by decide) ?_
    refine GL.val (v := (.int .i64 (((k + 1 : Nat) : Int)))) (Ex.assign rfl) (by decide) ?_
    refine GL.nil ?_
    refine GE.thenN ?_
    exact Head.mk (k + 1) (by omega) (by omega) ((sub_cons rfl ((sub_cons rfl ((sub_cons rfl ((sub_cons rfl ((sub_cons rfl ((sub_cons rfl ((sub_cons rfl ((sub_cons rfl ((sub_cons rfl ((sub_nil _)))))))))))))))))))) (ulC (ulC (ulC (ulC (ulC ulN)))))
  · replace hq11 := of_decide_eq_false hq11
    refine GC.exit ?_
    refine GE.thenE ?_
    refine GE.thenE ?_
    refine GE.blockE ?_
    refine GE.thenN ?_
    refine GC.seq ?_
    refine GC.region ?_
    refine GL.val (v := (.agg #[(.int .i64 ((((X1 - X0) : Nat) : Int))), (.int .i64 ((((Y1 - Y0) : Nat) : Int))), (.slice (some ⟨xq8, 0, none⟩) ((X1 - X0) * (Y1 - Y0)) ((X1 - X0) * (Y1 - Y0)))])) (Ex.loadA rfl T.ag32 T.sz32 (i := 0) rfl (vs := [(.int .i64 ((((X1 - X0) : Nat) : Int))), (.int .i64 ((((Y1 - Y0) : Nat) : Int))), (.slice (some ⟨xq8, 0, none⟩) ((X1 - X0) * (Y1 - Y0)) ((X1 - X0) * (Y1 - Y0)))]) rfl rfl) (by decide) ?_
    refine GL.step (Stp.storeL (i := 2) (L1 := [⟨bq10, [(.int .i64 ((((X1 - X0) : Nat) : Int))), (.int .i64 ((((Y1 - Y0) : Nat) : Int))), (.slice (some ⟨xq8, 0, none⟩) ((X1 - X0) * (Y1 - Y0)) ((X1 - X0) * (Y1 - Y0)))], 32, true⟩, ⟨xq8, cur (X1 - X0) ((fun x y => smp xs W (X0 + x) (Y0 + y))) ((X1 - X0) * (Y1 - Y0)) k, 72, true⟩, ⟨bq3, [(.int .i64 ((((X1 - X0) : Nat) : Int))), (.int .i64 ((((Y1 - Y0) : Nat) : Int))), (.slice (some ⟨xq8, 0, none⟩) ((X1 - X0) * (Y1 - Y0)) ((X1 - X0) * (Y1 - Y0)))], 32, true⟩, ⟨bq2, [(.int .i64 (((X0 : Nat) : Int))), (.int .i64 (((Y0 : Nat) : Int))), (.int .i64 (((X1 : Nat) : Int))), (.int .i64 (((Y1 : Nat) : Int)))], 54, true⟩, ⟨bq1, [(.int .i64 (((W : Nat) : Int))), (.int .i64 (((H : Nat) : Int))), (.slice (some ⟨b, o, none⟩) n cap)], 32, true⟩]) rfl rfl rfl T.sz32 rfl rfl rfl rfl) (fun _ _ => ?_)
    refine GL.val (v := (.int .i64 0)) (Ex.assign rfl) (by decide) ?_
    refine GL.nil ?_
    refine GE.thenN ?_
    refine GC.ret ?_
    refine GC.ret2 rfl (Rv.cellA rfl T.ag32 T.sz32 (L := _) (i := 2) rfl (vs := [(.int .i64 ((((X1 - X0) : Nat) : Int))), (.int .i64 ((((Y1 - Y0) : Nat) : Int))), (.slice (some ⟨xq8, 0, none⟩) ((X1 - X0) * (Y1 - Y0)) ((X1 - X0) * (Y1 - Y0)))]) rfl rfl) (Rv.tmp rfl) (fun wN HN => ?_)
    have ek : k = (X1 - X0) * (Y1 - Y0) := by omega
    rw [ek, cur_full] at HN
    exact HN.ret xq8 trivial rfl (ulS (ulC (ulS (ulS (ulS ulN))))) rfl

set_option maxRecDepth 100000 in
set_option maxHeartbeats 1000000 in
theorem ref_crop_inv (W H : Int) (ad : Option Addr) (n cap : Nat) (X0 Y0 X1 Y1 : Int) (w : World) (hc : chk W H n ≠ 0) :
    Calls Try.prog 27 #[(.agg #[(.int .i64 W), (.int .i64 H), (.slice ad n cap)]), (.agg #[(.int .i64 X0), (.int .i64 Y0), (.int .i64 X1), (.int .i64 Y1)])] w (Ret w (fun _ : Unit => True) (fun _ => .tuple #[(.agg #[(.int .i64 0), (.int .i64 0), (.slice none 0 0)]), .int .i64 ((chk W H n))]) (fun _ => [])) := by
  refine enter (M := None) (L := []) (n := 91) (l := [(0, (.agg #[(.int .i64 W), (.int .i64 H), (.slice ad n cap)])), (1, (.agg #[(.int .i64 X0), (.int .i64 Y0), (.int .i64 X1), (.int .i64 Y1)]))]) Try.func27 rfl rfl (Args.cons rfl (Args.cons rfl (Args.nil _))) (Hp.start _ _) ?_
  refine GC.seq ?_
  refine GC.region ?_
  refine GL.step (Stp.box (cs := [(.int .i64 W), (.int .i64 H), (.slice ad n cap)]) rfl rfl (by decide)) (fun bq1 _ => ?_)
  refine GL.step (Stp.box (cs := [(.int .i64 X0), (.int .i64 Y0), (.int .i64 X1), (.int .i64 Y1)]) rfl rfl (by decide)) (fun bq2 _ => ?_)
  refine GL.step (Stp.alloc T.zr32 (by decide)) (fun bq3 _ => ?_)
  refine GL.val (v := (.int .i64 0)) (Ex.assign rfl) (by decide) ?_
  refine GL.nil ?_
  refine GE.thenN ?_
  refine GC.seq ?_
  refine GC.region ?_
  refine GL.val (v := (.agg #[(.int .i64 W), (.int .i64 H), (.slice ad n cap)])) (Ex.loadA rfl T.ag32 T.sz32 (i := 2) rfl (vs := [(.int .i64 W), (.int .i64 H), (.slice ad n cap)]) rfl rfl) (by decide) ?_
  refine GL.step (Stp.callR (σ := Unit) (p := fun rz => True) (v := fun rz => (.int .i64 (chk W H n))) (N := fun rz => []) (vs := [(.agg #[(.int .i64 W), (.int .i64 H), (.slice ad n cap)])]) rfl rfl T.own35 (by decide) (fun wc hw => ref_check W H ad n cap wc)) (fun xq4 hq5 => ?_)
  refine GL.val (v := (.int .i64 (chk W H n))) (Ex.assign rfl) (by decide) ?_
  refine GL.nil ?_
  refine GE.thenN ?_
  refine GC.seq ?_
  refine GC.seq ?_
  refine GC.region ?_
  refine GL.val (v := (.int .i64 (chk W H n))) (Ex.move rfl) (by decide) ?_
  refine GL.val (v := (.bool (decide ((chk W H n) ≠ 0)))) (Ex.neq rfl rfl) (by decide) ?_
  refine GL.nil ?_
  refine GE.thenN ?_
  refine GC.cond rfl (fun _ => ?_) (fun hq6 => by exfalso; have hq6 := of_decide_eq_false hq6; omega)
  refine GC.seq ?_
  refine GC.region ?_
  refine GL.val (v := (.agg #[(.int .i64 0), (.int .i64 0), (.slice none 0 0)])) (Ex.build (vs := []) rfl (by first | rfl | kernel_rfl)) (by decide) ?_
  refine GL.val (v := (.int .i64 (chk W H n))) (Ex.move rfl) (by decide) ?_
  refine GL.step (Stp.storeL (i := 0) (L1 := [⟨bq3, [(.int .i64 0), (.int .i64 0), (.slice none 0 0)], 32, true⟩, ⟨bq2, [(.int .i64 X0), (.int .i64 Y0), (.int .i64 X1), (.int .i64 Y1)], 54, true⟩, ⟨bq1, [(.int .i64 W), (.int .i64 H), (.slice ad n cap)], 32, true⟩]) rfl rfl rfl T.sz32 rfl rfl rfl rfl) (fun _ _ => ?_)
  refine GL.val (v := (.int .i64 (chk W H n))) (Ex.assign rfl) (by decide) ?_
  refine GL.nil ?_
  refine GE.thenN ?_
  refine GC.ret ?_
  refine GE.thenR ?_
  refine GC.ret2 rfl (Rv.cellA rfl T.ag32 T.sz32 (L := _) (i := 0) rfl (vs := [(.int .i64 0), (.int .i64 0), (.slice none 0 0)]) rfl rfl) (Rv.tmp rfl) (fun wN HN => ?_)
  exact HN.ret () trivial rfl (List.nil_sublist _) rfl

set_option maxRecDepth 100000 in
set_option maxHeartbeats 1000000 in
theorem ref_crop_out (W H n cap : Nat) (ad : Option Addr) (X0 Y0 X1 Y1 : Int) (w : World) (hok : okP W H) (hn : n = W * H) (hR : ¬ (0 ≤ X0 ∧ X0 < X1 ∧ X1 ≤ W ∧ 0 ≤ Y0 ∧ Y0 < Y1 ∧ Y1 ≤ H)) :
    Calls Try.prog 27 #[(.agg #[(.int .i64 (((W : Nat) : Int))), (.int .i64 (((H : Nat) : Int))), (.slice ad n cap)]), (.agg #[(.int .i64 X0), (.int .i64 Y0), (.int .i64 X1), (.int .i64 Y1)])] w (Ret w (fun _ : Unit => True) (fun _ => .tuple #[(.agg #[(.int .i64 0), (.int .i64 0), (.slice none 0 0)]), .int .i64 52]) (fun _ => [])) := by
  refine enter (M := None) (L := []) (n := 91) (l := [(0, (.agg #[(.int .i64 (((W : Nat) : Int))), (.int .i64 (((H : Nat) : Int))), (.slice ad n cap)])), (1, (.agg #[(.int .i64 X0), (.int .i64 Y0), (.int .i64 X1), (.int .i64 Y1)]))]) Try.func27 rfl rfl (Args.cons rfl (Args.cons rfl (Args.nil _))) (Hp.start _ _) ?_
  refine GC.seq ?_
  refine GC.region ?_
  refine GL.step (Stp.box (cs := [(.int .i64 (((W : Nat) : Int))), (.int .i64 (((H : Nat) : Int))), (.slice ad n cap)]) rfl rfl (by decide)) (fun bq1 _ => ?_)
  refine GL.step (Stp.box (cs := [(.int .i64 X0), (.int .i64 Y0), (.int .i64 X1), (.int .i64 Y1)]) rfl rfl (by decide)) (fun bq2 _ => ?_)
  refine GL.step (Stp.alloc T.zr32 (by decide)) (fun bq3 _ => ?_)
  refine GL.val (v := (.int .i64 0)) (Ex.assign rfl) (by decide) ?_
  refine GL.nil ?_
  refine GE.thenN ?_
  refine GC.seq ?_
  refine GC.region ?_
  refine GL.val (v := (.agg #[(.int .i64 (((W : Nat) : Int))), (.int .i64 (((H : Nat) : Int))), (.slice ad n cap)])) (Ex.loadA rfl T.ag32 T.sz32 (i := 2) rfl (vs := [(.int .i64 (((W : Nat) : Int))), (.int .i64 (((H : Nat) : Int))), (.slice ad n cap)]) rfl rfl) (by decide) ?_
  refine GL.step (Stp.callR (σ := Unit) (p := fun rz => True) (v := fun rz => (.int .i64 0)) (N := fun rz => []) (vs := [(.agg #[(.int .i64 (((W : Nat) : Int))), (.int .i64 (((H : Nat) : Int))), (.slice ad n cap)])]) rfl rfl T.own35 (by decide) (fun wc hw => (by have h := ref_check (((W : Nat) : Int)) (((H : Nat) : Int)) ad n cap wc; rw [show chk (((W : Nat) : Int)) (((H : Nat) : Int)) n = 0 from by rw [hn]; exact chk_ok hok] at h; exact h))) (fun xq4 hq5 => ?_)
  refine GL.val (v := (.int .i64 0)) (Ex.assign rfl) (by decide) ?_
  refine GL.nil ?_
  refine GE.thenN ?_
  refine GC.seq ?_
  refine GC.seq ?_
  refine GC.region ?_
  refine GL.val (v := (.int .i64 0)) (Ex.move rfl) (by decide) ?_
  refine GL.val (v := (.bool false)) (Ex.cast (Ex.neq rfl rfl) rfl) (by decide) ?_
  refine GL.nil ?_
  refine GE.thenN ?_
  refine GC.cond rfl (fun hq6 => by cases hq6) (fun _ => ?_)
  refine GC.skip ?_
  refine GE.thenN ?_
  refine GC.seq ?_
  refine GC.seq ?_
  refine GC.region ?_
  refine GL.val (v := (.pointer (some ⟨bq2, 0, none⟩))) (Ex.cast (Ex.fieldAddr rfl Try.underlying54 rfl T.sz3 (by decide)) rfl) (by decide) ?_
  refine GL.val (v := (.int .i64 X0)) (Ex.load rfl T.ag3 (i := 1) rfl rfl) (by decide) ?_
  by_cases hq7 : X0 < 0
  · refine GL.val (v := (.bool true)) (Ex.cast (Ex.lss rfl rfl) (congrArg Value.bool (decide_eq_true hq7))) (by decide) ?_
    refine GL.val (v := (.bool true)) (Ex.move rfl) (by decide) ?_
    refine GL.skipG (tj := 18) rfl rfl rfl (by decide) ?_
    refine GL.skipG (tj := 18) rfl rfl rfl (by decide) ?_
    refine GL.skipG (tj := 18) rfl rfl rfl (by decide) ?_
    refine GL.skipG (tj := 18) rfl rfl rfl (by decide) ?_
    refine GL.skipG (tj := 18) rfl rfl rfl (by decide) ?_
    refine GL.val (v := (.bool true)) (Ex.pickT rfl rfl) (by decide) ?_
    refine GL.val (v := (.bool true)) (Ex.move rfl) (by decide) ?_
    refine GL.skipG (tj := 25) rfl rfl rfl (by decide) ?_
    refine GL.skipG (tj := 25) rfl rfl rfl (by decide) ?_
    refine GL.skipG (tj := 25) rfl rfl rfl (by decide) ?_
    refine GL.skipG (tj := 25) rfl rfl rfl (by decide) ?_
    refine GL.skipG (tj := 25) rfl rfl rfl (by decide) ?_
    refine GL.val (v := (.bool true)) (Ex.pickT rfl rfl) (by decide) ?_
    refine GL.val (v := (.bool true)) (Ex.move rfl) (by decide) ?_
    refine GL.skipG (tj := 32) rfl rfl rfl (by decide) ?_
    refine GL.skipG (tj := 32) rfl rfl rfl (by decide) ?_
    refine GL.skipG (tj := 32) rfl rfl rfl (by decide) ?_
    refine GL.val (v := (.bool true)) (Ex.pickT rfl rfl) (by decide) ?_
    refine GL.val (v := (.bool true)) (Ex.move rfl) (by decide) ?_
    refine GL.skipG (tj := 37) rfl rfl rfl (by decide) ?_
    refine GL.skipG (tj := 37) rfl rfl rfl (by decide) ?_
    refine GL.skipG (tj := 37) rfl rfl rfl (by decide) ?_
    refine GL.skipG (tj := 37) rfl rfl rfl (by decide) ?_
    refine GL.skipG (tj := 37) rfl rfl rfl (by decide) ?_
    refine GL.val (v := (.bool true)) (Ex.pickT rfl rfl) (by decide) ?_
    refine GL.val (v := (.bool true)) (Ex.move rfl) (by decide) ?_
    refine GL.skipG (tj := 44) rfl rfl rfl (by decide) ?_
    refine GL.skipG (tj := 44) rfl rfl rfl (by decide) ?_
    refine GL.skipG (tj := 44) rfl rfl rfl (by decide) ?_
    refine GL.skipG (tj := 44) rfl rfl rfl (by decide) ?_
    refine GL.skipG (tj := 44) rfl rfl rfl (by decide) ?_
    refine GL.val (v := (.bool true)) (Ex.pickT rfl rfl) (by decide) ?_
    refine GL.nil ?_
    refine GE.thenN ?_
    refine GC.cond rfl (fun _ => ?_) (fun hq8 => by cases hq8)
    refine GC.seq ?_
    refine GC.region ?_
    refine GL.val (v := (.agg #[(.int .i64 0), (.int .i64 0), (.slice none 0 0)])) (Ex.build (vs := []) rfl (by first | rfl | kernel_rfl)) (by decide) ?_
    refine GL.step (Stp.storeL (i := 0) (L1 := [⟨bq3, [(.int .i64 0), (.int .i64 0), (.slice none 0 0)], 32, true⟩, ⟨bq2, [(.int .i64 X0), (.int .i64 Y0), (.int .i64 X1), (.int .i64 Y1)], 54, true⟩, ⟨bq1, [(.int .i64 (((W : Nat) : Int))), (.int .i64 (((H : Nat) : Int))), (.slice ad n cap)], 32, true⟩]) rfl rfl rfl T.sz32 rfl rfl rfl rfl) (fun _ _ => ?_)
    refine GL.val (v := (.int .i64 52)) (Ex.assign rfl) (by decide) ?_
    refine GL.nil ?_
    refine GE.thenN ?_
    refine GC.ret ?_
    refine GE.thenR ?_
    refine GC.ret2 rfl (Rv.cellA rfl T.ag32 T.sz32 (L := _) (i := 0) rfl (vs := [(.int .i64 0), (.int .i64 0), (.slice none 0 0)]) rfl rfl) (Rv.tmp rfl) (fun wN HN => ?_)
    exact HN.ret () trivial rfl (List.nil_sublist _) rfl
  · refine GL.val (v := (.bool false)) (Ex.cast (Ex.lss rfl rfl) (congrArg Value.bool (decide_eq_false hq7))) (by decide) ?_
    refine GL.val (v := (.bool false)) (Ex.move rfl) (by decide) ?_
    refine GL.stepG (tj := 18) rfl rfl (Ex.wp (v := (.pointer (some ⟨bq2, 0, none⟩))) (Ex.cast (Ex.fieldAddr rfl Try.underlying54 rfl T.sz3 (by decide)) rfl) (by decide)) (fun _ _ => ?_)
    refine GL.stepG (tj := 18) rfl rfl (Ex.wp (v := (.int .i64 X0)) (Ex.load rfl T.ag3 (i := 1) rfl rfl) (by decide)) (fun _ _ => ?_)
    refine GL.stepG (tj := 18) rfl rfl (Ex.wp (v := (.pointer (some ⟨bq2, 2, none⟩))) (Ex.cast (Ex.fieldAddr rfl Try.underlying54 rfl T.sz3 (by decide)) rfl) (by decide)) (fun _ _ => ?_)
    refine GL.stepG (tj := 18) rfl rfl (Ex.wp (v := (.int .i64 X1)) (Ex.load rfl T.ag3 (i := 1) rfl rfl) (by decide)) (fun _ _ => ?_)
    by_cases hq9 : X1 ≤ X0
    · refine GL.stepG (tj := 18) rfl rfl (Ex.wp (v := (.bool true)) (Ex.cast (Ex.geq rfl rfl) (congrArg Value.bool (decide_eq_true hq9))) (by decide)) (fun _ _ => ?_)
      refine GL.val (v := (.bool true)) (Ex.pickF rfl rfl) (by decide) ?_
      refine GL.val (v := (.bool true)) (Ex.move rfl) (by decide) ?_
      refine GL.skipG (tj := 25) rfl rfl rfl (by decide) ?_
      refine GL.skipG (tj := 25) rfl rfl rfl (by decide) ?_
      refine GL.skipG (tj := 25) rfl rfl rfl (by decide) ?_
      refine GL.skipG (tj := 25) rfl rfl rfl (by decide) ?_
      refine GL.skipG (tj := 25) rfl rfl rfl (by decide) ?_
      refine GL.val (v := (.bool true)) (Ex.pickT rfl rfl) (by decide) ?_
      refine GL.val (v := (.bool true)) (Ex.move rfl) (by decide) ?_
      refine GL.skipG (tj := 32) rfl rfl rfl (by decide) ?_
      refine GL.skipG (tj := 32) rfl rfl rfl (by decide) ?_
      refine GL.skipG (tj := 32) rfl rfl rfl (by decide) ?_
      refine GL.val (v := (.bool true)) (Ex.pickT rfl rfl) (by decide) ?_
      refine GL.val (v := (.bool true)) (Ex.move rfl) (by decide) ?_
      refine GL.skipG (tj := 37) rfl rfl rfl (by decide) ?_
      refine GL.skipG (tj := 37) rfl rfl rfl (by decide) ?_
      refine GL.skipG (tj := 37) rfl rfl rfl (by decide) ?_
      refine GL.skipG (tj := 37) rfl rfl rfl (by decide) ?_
      refine GL.skipG (tj := 37) rfl rfl rfl (by decide) ?_
      refine GL.val (v := (.bool true)) (Ex.pickT rfl rfl) (by decide) ?_
      refine GL.val (v := (.bool true)) (Ex.move rfl) (by decide) ?_
      refine GL.skipG (tj := 44) rfl rfl rfl (by decide) ?_
      refine GL.skipG (tj := 44) rfl rfl rfl (by decide) ?_
      refine GL.skipG (tj := 44) rfl rfl rfl (by decide) ?_
      refine GL.skipG (tj := 44) rfl rfl rfl (by decide) ?_
      refine GL.skipG (tj := 44) rfl rfl rfl (by decide) ?_
      refine GL.val (v := (.bool true)) (Ex.pickT rfl rfl) (by decide) ?_
      refine GL.nil ?_
      refine GE.thenN ?_
      refine GC.cond rfl (fun _ => ?_) (fun hq10 => by cases hq10)
      refine GC.seq ?_
      refine GC.region ?_
      refine GL.val (v := (.agg #[(.int .i64 0), (.int .i64 0), (.slice none 0 0)])) (Ex.build (vs := []) rfl (by first | rfl | kernel_rfl)) (by decide) ?_
      refine GL.step (Stp.storeL (i := 0) (L1 := [⟨bq3, [(.int .i64 0), (.int .i64 0), (.slice none 0 0)], 32, true⟩, ⟨bq2, [(.int .i64 X0), (.int .i64 Y0), (.int .i64 X1), (.int .i64 Y1)], 54, true⟩, ⟨bq1, [(.int .i64 (((W : Nat) : Int))), (.int .i64 (((H : Nat) : Int))), (.slice ad n cap)], 32, true⟩]) rfl rfl rfl T.sz32 rfl rfl rfl rfl) (fun _ _ => ?_)
      refine GL.val (v := (.int .i64 52)) (Ex.assign rfl) (by decide) ?_
      refine GL.nil ?_
      refine GE.thenN ?_
      refine GC.ret ?_
      refine GE.thenR ?_
      refine GC.ret2 rfl (Rv.cellA rfl T.ag32 T.sz32 (L := _) (i := 0) rfl (vs := [(.int .i64 0), (.int .i64 0), (.slice none 0 0)]) rfl rfl) (Rv.tmp rfl) (fun wN HN => ?_)
      exact HN.ret () trivial rfl (List.nil_sublist _) rfl
    · refine GL.stepG (tj := 18) rfl rfl (Ex.wp (v := (.bool false)) (Ex.cast (Ex.geq rfl rfl) (congrArg Value.bool (decide_eq_false hq9))) (by decide)) (fun _ _ => ?_)
      refine GL.val (v := (.bool false)) (Ex.pickF rfl rfl) (by decide) ?_
      refine GL.val (v := (.bool false)) (Ex.move rfl) (by decide) ?_
      refine GL.stepG (tj := 25) rfl rfl (Ex.wp (v := (.pointer (some ⟨bq2, 2, none⟩))) (Ex.cast (Ex.fieldAddr rfl Try.underlying54 rfl T.sz3 (by decide)) rfl) (by decide)) (fun _ _ => ?_)
      refine GL.stepG (tj := 25) rfl rfl (Ex.wp (v := (.int .i64 X1)) (Ex.load rfl T.ag3 (i := 1) rfl rfl) (by decide)) (fun _ _ => ?_)
      refine GL.stepG (tj := 25) rfl rfl (Ex.wp (v := (.pointer (some ⟨bq1, 0, none⟩))) (Ex.cast (Ex.fieldAddr rfl Try.underlying32 rfl T.sz3 (by decide)) rfl) (by decide)) (fun _ _ => ?_)
      refine GL.stepG (tj := 25) rfl rfl (Ex.wp (v := (.int .i64 (((W : Nat) : Int)))) (Ex.load rfl T.ag3 (i := 2) rfl rfl) (by decide)) (fun _ _ => ?_)
      by_cases hq11 : (((W : Nat) : Int)) < X1
      · refine GL.stepG (tj := 25) rfl rfl (Ex.wp (v := (.bool true)) (Ex.cast (Ex.gtr rfl rfl) (congrArg Value.bool (decide_eq_true hq11))) (by decide)) (fun _ _ => ?_)
        refine GL.val (v := (.bool true)) (Ex.pickF rfl rfl) (by decide) ?_
        refine GL.val (v := (.bool true)) (Ex.move rfl) (by decide) ?_
        refine GL.skipG (tj := 32) rfl rfl rfl (by decide) ?_
        refine GL.skipG (tj := 32) rfl rfl rfl (by decide) ?_
        refine GL.skipG (tj := 32) rfl rfl rfl (by decide) ?_
        refine GL.val (v := (.bool true)) (Ex.pickT rfl rfl) (by decide) ?_
        refine GL.val (v := (.bool true)) (Ex.move rfl) (by decide) ?_
        refine GL.skipG (tj := 37) rfl rfl rfl (by decide) ?_
        refine GL.skipG (tj := 37) rfl rfl rfl (by decide) ?_
        refine GL.skipG (tj := 37) rfl rfl rfl (by decide) ?_
        refine GL.skipG (tj := 37) rfl rfl rfl (by decide) ?_
        refine GL.skipG (tj := 37) rfl rfl rfl (by decide) ?_
        refine GL.val (v := (.bool true)) (Ex.pickT rfl rfl) (by decide) ?_
        refine GL.val (v := (.bool true)) (Ex.move rfl) (by decide) ?_
        refine GL.skipG (tj := 44) rfl rfl rfl (by decide) ?_
        refine GL.skipG (tj := 44) rfl rfl rfl (by decide) ?_
        refine GL.skipG (tj := 44) rfl rfl rfl (by decide) ?_
        refine GL.skipG (tj := 44) rfl rfl rfl (by decide) ?_
        refine GL.skipG (tj := 44) rfl rfl rfl (by decide) ?_
        refine GL.val (v := (.bool true)) (Ex.pickT rfl rfl) (by decide) ?_
        refine GL.nil ?_
        refine GE.thenN ?_
        refine GC.cond rfl (fun _ => ?_) (fun hq12 => by cases hq12)
        refine GC.seq ?_
        refine GC.region ?_
        refine GL.val (v := (.agg #[(.int .i64 0), (.int .i64 0), (.slice none 0 0)])) (Ex.build (vs := []) rfl (by first | rfl | kernel_rfl)) (by decide) ?_
        refine GL.step (Stp.storeL (i := 0) (L1 := [⟨bq3, [(.int .i64 0), (.int .i64 0), (.slice none 0 0)], 32, true⟩, ⟨bq2, [(.int .i64 X0), (.int .i64 Y0), (.int .i64 X1), (.int .i64 Y1)], 54, true⟩, ⟨bq1, [(.int .i64 (((W : Nat) : Int))), (.int .i64 (((H : Nat) : Int))), (.slice ad n cap)], 32, true⟩]) rfl rfl rfl T.sz32 rfl rfl rfl rfl) (fun _ _ => ?_)
        refine GL.val (v := (.int .i64 52)) (Ex.assign rfl) (by decide) ?_
        refine GL.nil ?_
        refine GE.thenN ?_
        refine GC.ret ?_
        refine GE.thenR ?_
        refine GC.ret2 rfl (Rv.cellA rfl T.ag32 T.sz32 (L := _) (i := 0) rfl (vs := [(.int .i64 0), (.int .i64 0), (.slice none 0 0)]) rfl rfl) (Rv.tmp rfl) (fun wN HN => ?_)
        exact HN.ret () trivial rfl (List.nil_sublist _) rfl
      · refine GL.stepG (tj := 25) rfl rfl (Ex.wp (v := (.bool false)) (Ex.cast (Ex.gtr rfl rfl) (congrArg Value.bool (decide_eq_false hq11))) (by decide)) (fun _ _ => ?_)
        refine GL.val (v := (.bool false)) (Ex.pickF rfl rfl) (by decide) ?_
        refine GL.val (v := (.bool false)) (Ex.move rfl) (by decide) ?_
        refine GL.stepG (tj := 32) rfl rfl (Ex.wp (v := (.pointer (some ⟨bq2, 1, none⟩))) (Ex.cast (Ex.fieldAddr rfl Try.underlying54 rfl T.sz3 (by decide)) rfl) (by decide)) (fun _ _ => ?_)
        refine GL.stepG (tj := 32) rfl rfl (Ex.wp (v := (.int .i64 Y0)) (Ex.load rfl T.ag3 (i := 1) rfl rfl) (by decide)) (fun _ _ => ?_)
        by_cases hq13 : Y0 < 0
        · refine GL.stepG (tj := 32) rfl rfl (Ex.wp (v := (.bool true)) (Ex.cast (Ex.lss rfl rfl) (congrArg Value.bool (decide_eq_true hq13))) (by decide)) (fun _ _ => ?_)
          refine GL.val (v := (.bool true)) (Ex.pickF rfl rfl) (by decide) ?_
          refine GL.val (v := (.bool true)) (Ex.move rfl) (by decide) ?_
          refine GL.skipG (tj := 37) rfl rfl rfl (by decide) ?_
          refine GL.skipG (tj := 37) rfl rfl rfl (by decide) ?_
          refine GL.skipG (tj := 37) rfl rfl rfl (by decide) ?_
          refine GL.skipG (tj := 37) rfl rfl rfl (by decide) ?_
          refine GL.skipG (tj := 37) rfl rfl rfl (by decide) ?_
          refine GL.val (v := (.bool true)) (Ex.pickT rfl rfl) (by decide) ?_
          refine GL.val (v := (.bool true)) (Ex.move rfl) (by decide) ?_
          refine GL.skipG (tj := 44) rfl rfl rfl (by decide) ?_
          refine GL.skipG (tj := 44) rfl rfl rfl (by decide) ?_
          refine GL.skipG (tj := 44) rfl rfl rfl (by decide) ?_
          refine GL.skipG (tj := 44) rfl rfl rfl (by decide) ?_
          refine GL.skipG (tj := 44) rfl rfl rfl (by decide) ?_
          refine GL.val (v := (.bool true)) (Ex.pickT rfl rfl) (by decide) ?_
          refine GL.nil ?_
          refine GE.thenN ?_
          refine GC.cond rfl (fun _ => ?_) (fun hq14 => by cases hq14)
          refine GC.seq ?_
          refine GC.region ?_
          refine GL.val (v := (.agg #[(.int .i64 0), (.int .i64 0), (.slice none 0 0)])) (Ex.build (vs := []) rfl (by first | rfl | kernel_rfl)) (by decide) ?_
          refine GL.step (Stp.storeL (i := 0) (L1 := [⟨bq3, [(.int .i64 0), (.int .i64 0), (.slice none 0 0)], 32, true⟩, ⟨bq2, [(.int .i64 X0), (.int .i64 Y0), (.int .i64 X1), (.int .i64 Y1)], 54, true⟩, ⟨bq1, [(.int .i64 (((W : Nat) : Int))), (.int .i64 (((H : Nat) : Int))), (.slice ad n cap)], 32, true⟩]) rfl rfl rfl T.sz32 rfl rfl rfl rfl) (fun _ _ => ?_)
          refine GL.val (v := (.int .i64 52)) (Ex.assign rfl) (by decide) ?_
          refine GL.nil ?_
          refine GE.thenN ?_
          refine GC.ret ?_
          refine GE.thenR ?_
          refine GC.ret2 rfl (Rv.cellA rfl T.ag32 T.sz32 (L := _) (i := 0) rfl (vs := [(.int .i64 0), (.int .i64 0), (.slice none 0 0)]) rfl rfl) (Rv.tmp rfl) (fun wN HN => ?_)
          exact HN.ret () trivial rfl (List.nil_sublist _) rfl
        · refine GL.stepG (tj := 32) rfl rfl (Ex.wp (v := (.bool false)) (Ex.cast (Ex.lss rfl rfl) (congrArg Value.bool (decide_eq_false hq13))) (by decide)) (fun _ _ => ?_)
          refine GL.val (v := (.bool false)) (Ex.pickF rfl rfl) (by decide) ?_
          refine GL.val (v := (.bool false)) (Ex.move rfl) (by decide) ?_
          refine GL.stepG (tj := 37) rfl rfl (Ex.wp (v := (.pointer (some ⟨bq2, 1, none⟩))) (Ex.cast (Ex.fieldAddr rfl Try.underlying54 rfl T.sz3 (by decide)) rfl) (by decide)) (fun _ _ => ?_)
          refine GL.stepG (tj := 37) rfl rfl (Ex.wp (v := (.int .i64 Y0)) (Ex.load rfl T.ag3 (i := 1) rfl rfl) (by decide)) (fun _ _ => ?_)
          refine GL.stepG (tj := 37) rfl rfl (Ex.wp (v := (.pointer (some ⟨bq2, 3, none⟩))) (Ex.cast (Ex.fieldAddr rfl Try.underlying54 rfl T.sz3 (by decide)) rfl) (by decide)) (fun _ _ => ?_)
          refine GL.stepG (tj := 37) rfl rfl (Ex.wp (v := (.int .i64 Y1)) (Ex.load rfl T.ag3 (i := 1) rfl rfl) (by decide)) (fun _ _ => ?_)
          by_cases hq15 : Y1 ≤ Y0
          · refine GL.stepG (tj := 37) rfl rfl (Ex.wp (v := (.bool true)) (Ex.cast (Ex.geq rfl rfl) (congrArg Value.bool (decide_eq_true hq15))) (by decide)) (fun _ _ => ?_)
            refine GL.val (v := (.bool true)) (Ex.pickF rfl rfl) (by decide) ?_
            refine GL.val (v := (.bool true)) (Ex.move rfl) (by decide) ?_
            refine GL.skipG (tj := 44) rfl rfl rfl (by decide) ?_
            refine GL.skipG (tj := 44) rfl rfl rfl (by decide) ?_
            refine GL.skipG (tj := 44) rfl rfl rfl (by decide) ?_
            refine GL.skipG (tj := 44) rfl rfl rfl (by decide) ?_
            refine GL.skipG (tj := 44) rfl rfl rfl (by decide) ?_
            refine GL.val (v := (.bool true)) (Ex.pickT rfl rfl) (by decide) ?_
            refine GL.nil ?_
            refine GE.thenN ?_
            refine GC.cond rfl (fun _ => ?_) (fun hq16 => by cases hq16)
            refine GC.seq ?_
            refine GC.region ?_
            refine GL.val (v := (.agg #[(.int .i64 0), (.int .i64 0), (.slice none 0 0)])) (Ex.build (vs := []) rfl (by first | rfl | kernel_rfl)) (by decide) ?_
            refine GL.step (Stp.storeL (i := 0) (L1 := [⟨bq3, [(.int .i64 0), (.int .i64 0), (.slice none 0 0)], 32, true⟩, ⟨bq2, [(.int .i64 X0), (.int .i64 Y0), (.int .i64 X1), (.int .i64 Y1)], 54, true⟩, ⟨bq1, [(.int .i64 (((W : Nat) : Int))), (.int .i64 (((H : Nat) : Int))), (.slice ad n cap)], 32, true⟩]) rfl rfl rfl T.sz32 rfl rfl rfl rfl) (fun _ _ => ?_)
            refine GL.val (v := (.int .i64 52)) (Ex.assign rfl) (by decide) ?_
            refine GL.nil ?_
            refine GE.thenN ?_
            refine GC.ret ?_
            refine GE.thenR ?_
            refine GC.ret2 rfl (Rv.cellA rfl T.ag32 T.sz32 (L := _) (i := 0) rfl (vs := [(.int .i64 0), (.int .i64 0), (.slice none 0 0)]) rfl rfl) (Rv.tmp rfl) (fun wN HN => ?_)
            exact HN.ret () trivial rfl (List.nil_sublist _) rfl
          · refine GL.stepG (tj := 37) rfl rfl (Ex.wp (v := (.bool false)) (Ex.cast (Ex.geq rfl rfl) (congrArg Value.bool (decide_eq_false hq15))) (by decide)) (fun _ _ => ?_)
            refine GL.val (v := (.bool false)) (Ex.pickF rfl rfl) (by decide) ?_
            refine GL.val (v := (.bool false)) (Ex.move rfl) (by decide) ?_
            refine GL.stepG (tj := 44) rfl rfl (Ex.wp (v := (.pointer (some ⟨bq2, 3, none⟩))) (Ex.cast (Ex.fieldAddr rfl Try.underlying54 rfl T.sz3 (by decide)) rfl) (by decide)) (fun _ _ => ?_)
            refine GL.stepG (tj := 44) rfl rfl (Ex.wp (v := (.int .i64 Y1)) (Ex.load rfl T.ag3 (i := 1) rfl rfl) (by decide)) (fun _ _ => ?_)
            refine GL.stepG (tj := 44) rfl rfl (Ex.wp (v := (.pointer (some ⟨bq1, 1, none⟩))) (Ex.cast (Ex.fieldAddr rfl Try.underlying32 rfl T.sz3 (by decide)) rfl) (by decide)) (fun _ _ => ?_)
            refine GL.stepG (tj := 44) rfl rfl (Ex.wp (v := (.int .i64 (((H : Nat) : Int)))) (Ex.load rfl T.ag3 (i := 2) rfl rfl) (by decide)) (fun _ _ => ?_)
            refine GL.stepG (tj := 44) rfl rfl (Ex.wp (v := (.bool (decide ((((H : Nat) : Int)) < Y1)))) (Ex.gtr rfl rfl) (by decide)) (fun _ _ => ?_)
            refine GL.val (v := (.bool (decide ((((H : Nat) : Int)) < Y1)))) (Ex.pickF rfl rfl) (by decide) ?_
            refine GL.nil ?_
            refine GE.thenN ?_
            refine GC.cond rfl (fun hq17 => ?_) (fun hq17 => ?_)
            · replace hq17 := of_decide_eq_true hq17
              refine GC.seq ?_
              refine GC.region ?_
              refine GL.val (v := (.agg #[(.int .i64 0), (.int .i64 0), (.slice none 0 0)])) (Ex.build (vs := []) rfl (by first | rfl | kernel_rfl)) (by decide) ?_
              refine GL.step (Stp.storeL (i := 0) (L1 := [⟨bq3, [(.int .i64 0), (.int .i64 0), (.slice none 0 0)], 32, true⟩, ⟨bq2, [(.int .i64 X0), (.int .i64 Y0), (.int .i64 X1), (.int .i64 Y1)], 54, true⟩, ⟨bq1, [(.int .i64 (((W : Nat) : Int))), (.int .i64 (((H : Nat) : Int))), (.slice ad n cap)], 32, true⟩]) rfl rfl rfl T.sz32 rfl rfl rfl rfl) (fun _ _ => ?_)
              refine GL.val (v := (.int .i64 52)) (Ex.assign rfl) (by decide) ?_
              refine GL.nil ?_
              refine GE.thenN ?_
              refine GC.ret ?_
              refine GE.thenR ?_
              refine GC.ret2 rfl (Rv.cellA rfl T.ag32 T.sz32 (L := _) (i := 0) rfl (vs := [(.int .i64 0), (.int .i64 0), (.slice none 0 0)]) rfl rfl) (Rv.tmp rfl) (fun wN HN => ?_)
              exact HN.ret () trivial rfl (List.nil_sublist _) rfl
            · replace hq17 := of_decide_eq_false hq17
              exfalso; omega

set_option maxRecDepth 100000 in
set_option maxHeartbeats 1000000 in
theorem ref_eq_ne (W1 H1 : Int) (ad1 : Option Addr) (n1 cap1 : Nat) (W2 H2 : Int) (ad2 : Option Addr) (n2 cap2 : Nat) (w : World) (h : n1 ≠ n2 ∨ n1 = 0) :
    Calls Try.prog 26 #[(.agg #[(.int .i64 W1), (.int .i64 H1), (.slice ad1 n1 cap1)]), (.agg #[(.int .i64 W2), (.int .i64 H2), (.slice ad2 n2 cap2)])] w (Ret w (fun _ : Unit => True) (fun _ => .bool (decide (W1 = W2 ∧ H1 = H2 ∧ n1 = n2))) (fun _ => [])) := by
  refine enter (M := None) (L := []) (n := 45) (l := [(0, (.agg #[(.int .i64 W1), (.int .i64 H1), (.slice ad1 n1 cap1)])), (1, (.agg #[(.int .i64 W2), (.int .i64 H2), (.slice ad2 n2 cap2)]))]) Try.func26 rfl rfl (Args.cons rfl (Args.cons rfl (Args.nil _))) (Hp.start _ _) ?_
  refine GC.seq ?_
  refine GC.region ?_
  refine GL.step (Stp.box (cs := [(.int .i64 W1), (.int .i64 H1), (.slice ad1 n1 cap1)]) rfl rfl (by decide)) (fun bq1 _ => ?_)
  refine GL.step (Stp.box (cs := [(.int .i64 W2), (.int .i64 H2), (.slice ad2 n2 cap2)]) rfl rfl (by decide)) (fun bq2 _ => ?_)
  refine GL.val (v := (.bool false)) (Ex.assign rfl) (by decide) ?_
  refine GL.nil ?_
  refine GE.thenN ?_
  refine GC.seq ?_
  refine GC.seq ?_
  refine GC.region ?_
  refine GL.val (v := (.pointer (some ⟨bq1, 0, none⟩))) (Ex.cast (Ex.fieldAddr rfl Try.underlying32 rfl T.sz3 (by decide)) rfl) (by decide) ?_
  refine GL.val (v := (.int .i64 W1)) (Ex.load rfl T.ag3 (i := 1) rfl rfl) (by decide) ?_
  refine GL.val (v := (.pointer (some ⟨bq2, 0, none⟩))) (Ex.cast (Ex.fieldAddr rfl Try.underlying32 rfl T.sz3 (by decide)) rfl) (by decide) ?_
  refine GL.val (v := (.int .i64 W2)) (Ex.load rfl T.ag3 (i := 0) rfl rfl) (by decide) ?_
  by_cases hq3 : W1 ≠ W2
  · refine GL.val (v := (.bool true)) (Ex.cast (Ex.neq rfl rfl) (congrArg Value.bool (decide_eq_true hq3))) (by decide) ?_
    refine GL.val (v := (.bool true)) (Ex.move rfl) (by decide) ?_
    refine GL.skipG (tj := 11) rfl rfl rfl (by decide) ?_
    refine GL.skipG (tj := 11) rfl rfl rfl (by decide) ?_
    refine GL.skipG (tj := 11) rfl rfl rfl (by decide) ?_
    refine GL.skipG (tj := 11) rfl rfl rfl (by decide) ?_
    refine GL.skipG (tj := 11) rfl rfl rfl (by decide) ?_
    refine GL.val (v := (.bool true)) (Ex.pickT rfl rfl) (by decide) ?_
    refine GL.val (v := (.bool true)) (Ex.move rfl) (by decide) ?_
    refine GL.skipG (tj := 18) rfl rfl rfl (by decide) ?_
    refine GL.skipG (tj := 18) rfl rfl rfl (by decide) ?_
    refine GL.skipG (tj := 18) rfl rfl rfl (by decide) ?_
    refine GL.skipG (tj := 18) rfl rfl rfl (by decide) ?_
    refine GL.skipG (tj := 18) rfl rfl rfl (by decide) ?_
    refine GL.skipG (tj := 18) rfl rfl rfl (by decide) ?_
    refine GL.skipG (tj := 18) rfl rfl rfl (by decide) ?_
    refine GL.val (v := (.bool true)) (Ex.pickT rfl rfl) (by decide) ?_
    refine GL.nil ?_
    refine GE.thenN ?_
    refine GC.cond rfl (fun _ => ?_) (fun hq4 => by cases hq4)
    refine GC.seq ?_
    refine GC.region ?_
    refine GL.val (v := (.bool false)) (Ex.assign rfl) (by decide) ?_
    refine GL.nil ?_
    refine GE.thenN ?_
    refine GC.ret ?_
    refine GE.thenR ?_
    refine GC.ret1 rfl (Rv.tmp rfl) (fun wN HN => ?_)
    exact HN.ret () trivial (congrArg Value.bool (by first | exact (decide_eq_true (by omega)).symm | exact (decide_eq_false (by omega)).symm)) (List.nil_sublist _) rfl
  · refine GL.val (v := (.bool false)) (Ex.cast (Ex.neq rfl rfl) (congrArg Value.bool (decide_eq_false hq3))) (by decide) ?_
    refine GL.val (v := (.bool false)) (Ex.move rfl) (by decide) ?_
    refine GL.stepG (tj := 11) rfl rfl (Ex.wp (v := (.pointer (some ⟨bq1, 1, none⟩))) (Ex.cast (Ex.fieldAddr rfl Try.underlying32 rfl T.sz3 (by decide)) rfl) (by decide)) (fun _ _ => ?_)
    refine GL.stepG (tj := 11) rfl rfl (Ex.wp (v := (.int .i64 H1)) (Ex.load rfl T.ag3 (i := 1) rfl rfl) (by decide)) (fun _ _ => ?_)
    refine GL.stepG (tj := 11) rfl rfl (Ex.wp (v := (.pointer (some ⟨bq2, 1, none⟩))) (Ex.cast (Ex.fieldAddr rfl Try.underlying32 rfl T.sz3 (by decide)) rfl) (by decide)) (fun _ _ => ?_)
    refine GL.stepG (tj := 11) rfl rfl (Ex.wp (v := (.int .i64 H2)) (Ex.load rfl T.ag3 (i := 0) rfl rfl) (by decide)) (fun _ _ => ?_)
    by_cases hq5 : H1 ≠ H2
    · refine GL.stepG (tj := 11) rfl rfl (Ex.wp (v := (.bool true)) (Ex.cast (Ex.neq rfl rfl) (congrArg Value.bool (decide_eq_true hq5))) (by decide)) (fun _ _ => ?_)
      refine GL.val (v := (.bool true)) (Ex.pickF rfl rfl) (by decide) ?_
      refine GL.val (v := (.bool true)) (Ex.move rfl) (by decide) ?_
      refine GL.skipG (tj := 18) rfl rfl rfl (by decide) ?_
      refine GL.skipG (tj := 18) rfl rfl rfl (by decide) ?_
      refine GL.skipG (tj := 18) rfl rfl rfl (by decide) ?_
      refine GL.skipG (tj := 18) rfl rfl rfl (by decide) ?_
      refine GL.skipG (tj := 18) rfl rfl rfl (by decide) ?_
      refine GL.skipG (tj := 18) rfl rfl rfl (by decide) ?_
      refine GL.skipG (tj := 18) rfl rfl rfl (by decide) ?_
      refine GL.val (v := (.bool true)) (Ex.pickT rfl rfl) (by decide) ?_
      refine GL.nil ?_
      refine GE.thenN ?_
      refine GC.cond rfl (fun _ => ?_) (fun hq6 => by cases hq6)
      refine GC.seq ?_
      refine GC.region ?_
      refine GL.val (v := (.bool false)) (Ex.assign rfl) (by decide) ?_
      refine GL.nil ?_
      refine GE.thenN ?_
      refine GC.ret ?_
      refine GE.thenR ?_
      refine GC.ret1 rfl (Rv.tmp rfl) (fun wN HN => ?_)
      exact HN.ret () trivial (congrArg Value.bool (by first | exact (decide_eq_true (by omega)).symm | exact (decide_eq_false (by omega)).symm)) (List.nil_sublist _) rfl
    · refine GL.stepG (tj := 11) rfl rfl (Ex.wp (v := (.bool false)) (Ex.cast (Ex.neq rfl rfl) (congrArg Value.bool (decide_eq_false hq5))) (by decide)) (fun _ _ => ?_)
      refine GL.val (v := (.bool false)) (Ex.pickF rfl rfl) (by decide) ?_
      refine GL.val (v := (.bool false)) (Ex.move rfl) (by decide) ?_
      refine GL.stepG (tj := 18) rfl rfl (Ex.wp (v := (.pointer (some ⟨bq1, 2, none⟩))) (Ex.cast (Ex.fieldAddr rfl Try.underlying32 rfl T.sz30 (by decide)) rfl) (by decide)) (fun _ _ => ?_)
      refine GL.stepG (tj := 18) rfl rfl (Ex.wp (v := (.slice ad1 n1 cap1)) (Ex.load rfl T.ag30 (i := 1) rfl rfl) (by decide)) (fun _ _ => ?_)
      refine GL.stepG (tj := 18) rfl rfl (Ex.wp (v := (.int .i64 ((n1 : Int)))) (Ex.len rfl Try.underlying30) (by decide)) (fun _ _ => ?_)
      refine GL.stepG (tj := 18) rfl rfl (Ex.wp (v := (.pointer (some ⟨bq2, 2, none⟩))) (Ex.cast (Ex.fieldAddr rfl Try.underlying32 rfl T.sz30 (by decide)) rfl) (by decide)) (fun _ _ => ?_)
      refine GL.stepG (tj := 18) rfl rfl (Ex.wp (v := (.slice ad2 n2 cap2)) (Ex.load rfl T.ag30 (i := 0) rfl rfl) (by decide)) (fun _ _ => ?_)
      refine GL.stepG (tj := 18) rfl rfl (Ex.wp (v := (.int .i64 ((n2 : Int)))) (Ex.len rfl Try.underlying30) (by decide)) (fun _ _ => ?_)
      refine GL.stepG (tj := 18) rfl rfl (Ex.wp (v := (.bool (decide (((n1 : Int)) ≠ ((n2 : Int)))))) (Ex.neq rfl rfl) (by decide)) (fun _ _ => ?_)
      refine GL.val (v := (.bool (decide (((n1 : Int)) ≠ ((n2 : Int)))))) (Ex.pickF rfl rfl) (by decide) ?_
      refine GL.nil ?_
      refine GE.thenN ?_
      refine GC.cond rfl (fun hq7 => ?_) (fun hq7 => ?_)
      · replace hq7 := of_decide_eq_true hq7
        refine GC.seq ?_
        refine GC.region ?_
        refine GL.val (v := (.bool false)) (Ex.assign rfl) (by decide) ?_
        refine GL.nil ?_
        refine GE.thenN ?_
        refine GC.ret ?_
        refine GE.thenR ?_
        refine GC.ret1 rfl (Rv.tmp rfl) (fun wN HN => ?_)
        exact HN.ret () trivial (congrArg Value.bool (by first | exact (decide_eq_true (by omega)).symm | exact (decide_eq_false (by omega)).symm)) (List.nil_sublist _) rfl
      · replace hq7 := of_decide_eq_false hq7
        refine GC.skip ?_
        refine GE.thenN ?_
        refine GC.seq ?_
        refine GC.seq ?_
        refine GC.region ?_
        refine GL.val (v := (.int .i64 0)) (Ex.assign rfl) (by decide) ?_
        refine GL.nil ?_
        refine GE.thenN ?_
        refine GC.block ?_
        refine GC.unroll 1 ?_
        refine GE.round ?_
        refine GC.seq ?_
        refine GC.seq ?_
        refine GC.region ?_
        refine GL.val (v := (.int .i64 0)) (Ex.move rfl) (by decide) ?_
        refine GL.val (v := (.pointer (some ⟨bq1, 2, none⟩))) (Ex.cast (Ex.fieldAddr rfl Try.underlying32 rfl T.sz30 (by decide)) rfl) (by decide) ?_
        refine GL.val (v := (.slice ad1 n1 cap1)) (Ex.load rfl T.ag30 (i := 1) rfl rfl) (by decide) ?_
        refine GL.val (v := (.int .i64 ((n1 : Int)))) (Ex.len rfl Try.underlying30) (by decide) ?_
        refine GL.val (v := (.bool (decide (0 < ((n1 : Int)))))) (Ex.lss rfl rfl) (by decide) ?_
        refine GL.nil ?_
        refine GE.thenN ?_
        refine GC.cond rfl (fun hq8 => by exfalso; have hq8 := of_decide_eq_true hq8; omega) (fun _ => ?_)
        refine GC.exit ?_
        refine GE.thenE ?_
        refine GE.thenE ?_
        refine GE.blockE ?_
        refine GE.thenN ?_
        refine GC.seq ?_
        refine GC.region ?_
        refine GL.val (v := (.bool true)) (Ex.assign rfl) (by decide) ?_
        refine GL.nil ?_
        refine GE.thenN ?_
        refine GC.ret ?_
        refine GC.ret1 rfl (Rv.tmp rfl) (fun wN HN => ?_)
        exact HN.ret () trivial (congrArg Value.bool (by first | exact (decide_eq_true (by omega)).symm | exact (decide_eq_false (by omega)).symm)) (List.nil_sublist _) rfl

theorem ref_eq_any (W1 H1 : Int) (ad1 : Option Addr) (n1 cap1 : Nat) (W2 H2 : Int) (ad2 : Option Addr) (n2 cap2 : Nat) (xs ys : List Int) (w : World) (hb : n1 ≤ 35184372088832) (h1 : LsR w ad1 n1 xs) (h2 : LsR w ad2 n2 ys) :
    Calls Try.prog 26 #[.agg #[.int .i64 W1, .int .i64 H1, .slice ad1 n1 cap1], .agg #[.int .i64 W2, .int .i64 H2, .slice ad2 n2 cap2]] w (Ret w (fun _ : Unit => True) (fun _ => .bool (eqB W1 H1 xs W2 H2 ys)) (fun _ => [])) := by
  have a1 := h1.1; have a2 := h2.1
  by_cases hn : n1 ≠ n2 ∨ n1 = 0
  · have h := ref_eq_ne W1 H1 ad1 n1 cap1 W2 H2 ad2 n2 cap2 w hn
    rw [show decide (W1 = W2 ∧ H1 = H2 ∧ n1 = n2) = eqB W1 H1 xs W2 H2 ys from decide_eq_decide.2 ⟨fun e => ⟨e.1, e.2.1, ?_⟩, fun e => ⟨e.1, e.2.1, ?_⟩⟩] at h
    · exact h
    · rcases hn with hn | hn
      · exact absurd e.2.2 hn
      · rw [List.eq_nil_of_length_eq_zero (show xs.length = 0 by omega), List.eq_nil_of_length_eq_zero (show ys.length = 0 by omega)]
    · rw [← a1, ← a2, e.2.2]
  · rcases h1.2 with h | ⟨b1, o1, rfl, hr1⟩
    · exact absurd (Or.inr h) hn
    · rcases h2.2 with h | ⟨b2, o2, rfl, hr2⟩
      · exfalso; omega
      · exact ref_eq W1 H1 W2 H2 b1 o1 n1 cap1 b2 o2 n2 cap2 xs ys w a1 a2 hr1 hr2 hb

set_option maxRecDepth 100000 in
set_option maxHeartbeats 1000000 in
theorem same_ (W1 H1 : Int) (ad1 : Option Addr) (n1 cap1 : Nat) (W2 H2 : Int) (ad2 : Option Addr) (n2 cap2 : Nat) (e : Int) (xs ys : List Int) (w : World) (hb : n1 ≤ 35184372088832) (h1 : LsR w ad1 n1 xs) (h2 : LsR w ad2 n2 ys) (hw1 : W1 = W2) (hh1 : H1 = H2) (hxy : xs = ys) :
    Calls Try.prog 20 #[(.agg #[(.int .i64 W1), (.int .i64 H1), (.slice ad1 n1 cap1)]), (.int .i64 e), (.agg #[(.int .i64 W2), (.int .i64 H2), (.slice ad2 n2 cap2)]), (.int .i64 e)] w (Ret w (fun _ : Unit => True) (fun _ => .bool true) (fun _ => [])) := by
  refine enter (M := None) (L := []) (n := 18) (l := [(0, (.agg #[(.int .i64 W1), (.int .i64 H1), (.slice ad1 n1 cap1)])), (1, (.int .i64 e)), (2, (.agg #[(.int .i64 W2), (.int .i64 H2), (.slice ad2 n2 cap2)])), (3, (.int .i64 e))]) Try.func20 rfl rfl (Args.cons rfl (Args.cons rfl (Args.cons rfl (Args.cons rfl (Args.nil _))))) (Hp.start _ _) ?_
  refine GC.seq ?_
  refine GC.region ?_
  refine GL.step (Stp.box (cs := [(.int .i64 W1), (.int .i64 H1), (.slice ad1 n1 cap1)]) rfl rfl (by decide)) (fun bq1 _ => ?_)
  refine GL.step (Stp.box (cs := [(.int .i64 W2), (.int .i64 H2), (.slice ad2 n2 cap2)]) rfl rfl (by decide)) (fun bq2 _ => ?_)
  refine GL.val (v := (.bool false)) (Ex.assign rfl) (by decide) ?_
  refine GL.nil ?_
  refine GE.thenN ?_
  refine GC.seq ?_
  refine GC.region ?_
  refine GL.val (v := (.int .i64 e)) (Ex.move rfl) (by decide) ?_
  refine GL.step (Stp.callR (σ := Unit) (p := fun rz => True) (v := fun rz => (.int .i64 e)) (N := fun rz => []) (vs := [(.int .i64 e)]) rfl rfl T.own16 (by decide) (fun wc hw => num e wc)) (fun xq3 hq4 => ?_)
  refine GL.val (v := (.int .i64 e)) (Ex.move rfl) (by decide) ?_
  refine GL.val (v := (.bool true)) (Ex.cast (Ex.eql rfl rfl) (congrArg Value.bool (decide_eq_true (by simp)))) (by decide) ?_
  refine GL.val (v := (.bool true)) (Ex.move rfl) (by decide) ?_
  refine GL.stepG (tj := 13) rfl rfl (Ex.wp (v := (.agg #[(.int .i64 W1), (.int .i64 H1), (.slice ad1 n1 cap1)])) (Ex.loadA rfl T.ag32 T.sz32 (i := 1) rfl (vs := [(.int .i64 W1), (.int .i64 H1), (.slice ad1 n1 cap1)]) rfl rfl) (by decide)) (fun _ _ => ?_)
  refine GL.stepG (tj := 13) rfl rfl (Ex.wp (v := (.agg #[(.int .i64 W2), (.int .i64 H2), (.slice ad2 n2 cap2)])) (Ex.loadA rfl T.ag32 T.sz32 (i := 0) rfl (vs := [(.int .i64 W2), (.int .i64 H2), (.slice ad2 n2 cap2)]) rfl rfl) (by decide)) (fun _ _ => ?_)
  refine GL.stepG (tj := 13) rfl rfl (Stp.callR (σ := Unit) (p := fun rz => True) (v := fun rz => (.bool (eqB W1 H1 xs W2 H2 ys))) (N := fun rz => []) (vs := [(.agg #[(.int .i64 W1), (.int .i64 H1), (.slice ad1 n1 cap1)]), (.agg #[(.int .i64 W2), (.int .i64 H2), (.slice ad2 n2 cap2)])]) rfl rfl T.own26 (by decide) (fun wc hw => ref_eq_any W1 H1 ad1 n1 cap1 W2 H2 ad2 n2 cap2 xs ys wc hb (h1.later hw.1) (h2.later hw.1))) (fun xq5 hq6 => ?_)
  refine GL.val (v := (.bool (eqB W1 H1 xs W2 H2 ys))) (Ex.pickT rfl rfl) (by decide) ?_
  refine GL.val (v := (.bool (eqB W1 H1 xs W2 H2 ys))) (Ex.assign rfl) (by decide) ?_
  refine GL.nil ?_
  refine GE.thenN ?_
  refine GC.ret ?_
  refine GC.ret1 rfl (Rv.tmp rfl) (fun wN HN => ?_)
  exact HN.ret () trivial (congrArg Value.bool (eqB_self hw1 hh1 hxy)) (List.nil_sublist _) rfl

end Go.Proofs.Ytileciohbhoehaa.C
