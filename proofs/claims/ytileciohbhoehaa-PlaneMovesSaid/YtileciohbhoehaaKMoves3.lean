/- PlaneMoves: what its code does, walked. -/
import Derived.Test.YtileciohbhoehaaKMoves2
namespace Go.Proofs.Ytileciohbhoehaa.C
open Go Go.RowKit Sx
set_option linter.unusedVariables false
set_option maxRecDepth 100000 in
set_option maxHeartbeats 1000000 in
theorem book_s01 (w0 : World) (R : List Blk) (kb : Nat) (m : Int) (b n cap : Nat) (cs : List Value) (w : World) (hcap : cs.length = cap) (hb : cap ≤ 9223372036854775806) (hp0 : Hp None w0 (⟨kb, [(.slice none 0 0), (.slice none 0 0), (.slice none 0 0), (.slice none 0 0), (.slice none 0 0), (.slice none 0 0), (.slice none 0 0), (.slice none 0 0)], 41, true⟩ :: ⟨b, cs, 72, true⟩ :: R) w) :
    Calls Try.prog 56 #[(.pointer (some ⟨kb, 0, none⟩)), (.slice (some ⟨b, 0, none⟩) n cap), (.int .i64 m)] w (Frm (σ := (Nat × Nat × List Value) × (Nat × Nat × List Value)) None w0 (fun x => ([(Value.slice (some ⟨b, 0, none⟩) cap cap)] ++ x.2.2.2 : List Value).length = x.2.2.1 * 1 ∧ ([(Value.int .i64 m)] ++ x.1.2.2 : List Value).length = x.1.2.1 * 1) (fun x => .tuple #[]) (fun x => (⟨x.1.1, [(Value.int .i64 m)] ++ x.1.2.2, 3, true⟩ :: ⟨x.2.1, [(Value.slice (some ⟨b, 0, none⟩) cap cap)] ++ x.2.2.2, 30, true⟩ :: ⟨kb, [(.slice (some ⟨x.2.1, 0, none⟩) 1 x.2.2.1), (.slice none 0 0), (.slice none 0 0), (.slice none 0 0), (.slice (some ⟨x.1.1, 0, none⟩) 1 x.1.2.1), (.slice none 0 0), (.slice none 0 0), (.slice none 0 0)], 41, true⟩ :: ⟨b, (mks m cap).map u32, 72, true⟩ :: R))) := by
  refine enterF (w0 := w0) (M := None) (L := (⟨kb, [(.slice none 0 0), (.slice none 0 0), (.slice none 0 0), (.slice none 0 0), (.slice none 0 0), (.slice none 0 0), (.slice none 0 0), (.slice none 0 0)], 41, true⟩ :: ⟨b, cs, 72, true⟩ :: R)) (n := 46) (l := [(0, (.pointer (some ⟨kb, 0, none⟩))), (1, (.slice (some ⟨b, 0, none⟩) n cap)), (2, (.int .i64 m))]) Try.func56 rfl rfl (Args.cons rfl (Args.cons rfl (Args.cons rfl (Args.nil _)))) hp0 ?_
  refine GC.seq ?_
  refine GC.region ?_
  refine GL.val (Ex.move rfl) (by decide) ?_
  refine GL.val (Ex.move rfl) (by decide) ?_
  refine GL.val (v := (.int .i64 ((cap : Int)))) (Ex.cap rfl Try.underlying30) (by decide) ?_
  refine GL.val (v := (.slice (some ⟨b, 0, none⟩) cap cap)) (Ex.sliceH (m := cap) rfl rfl Try.underlying30 T.sz72 rfl (Nat.le_refl _)) (by decide) ?_
  refine GL.val (Ex.assign rfl) (by decide) ?_
  refine GL.nil ?_
  refine GE.thenN ?_
  refine GC.seq ?_
  refine GC.seq ?_
  rw [show cs = mkC m cs 0 from (mkC_zero m cs).symm]
  refine GC.region ?_
  refine GL.val (Ex.assign rfl) (by decide) ?_
  refine GL.nil ?_
  refine GE.thenN ?_
  refine GC.block ?_
  refine GC.loop (σ := Nat) (fun k => k ≤ cap) (fun k => [(0, (.pointer (some ⟨kb, 0, none⟩))), (1, (.slice (some ⟨b, 0, none⟩) cap cap)), (2, (.int .i64 m)), (6, (.int .i64 (((k : Nat) : Int))))]) (fun k => (⟨kb, [(.slice none 0 0), (.slice none 0 0), (.slice none 0 0), (.slice none 0 0), (.slice none 0 0), (.slice none 0 0), (.slice none 0 0), (.slice none 0 0)], 41, true⟩ :: ⟨b, mkC m cs k, 72, true⟩ :: R)) (fun k => cap - k) (0) (Nat.zero_le _) ((sub_cons rfl ((sub_cons rfl ((sub_cons rfl ((sub_cons rfl ((sub_nil _)))))))))) (ulC (ulC ulR)) (fun k hp => ?_)
  refine GC.seq ?_
  refine GC.seq ?_
  refine GC.region ?_
  refine GL.val (Ex.move rfl) (by decide) ?_
  refine GL.val (Ex.move rfl) (by decide) ?_
  refine GL.val (v := (.int .i64 ((cap : Int)))) (Ex.len rfl Try.underlying30) (by decide) ?_
  refine GL.val (v := (.bool (decide ((((k : Nat) : Int)) < ((cap : Int)))))) (Ex.lss rfl rfl) (by decide) ?_
  refine GL.nil ?_
  refine GE.thenN ?_
  refine GC.cond rfl (fun hq1 => ?_) (fun hq1 => ?_)
  · replace hq1 := of_decide_eq_true hq1
    refine GC.skip ?_
    refine GE.thenN ?_
    refine GC.seq ?_
    refine GC.block ?_
    refine GC.region ?_
    refine GL.val (Ex.move rfl) (by decide) ?_
    refine GL.val (Ex.move rfl) (by decide) ?_
    refine GL.val (Ex.move rfl) (by decide) ?_
    refine GL.val (Ex.move rfl) (by decide) ?_
    refine GL.step (Stp.callR (vs := [(.int .i64 m), (.int .i64 (((k : Nat) : Int)))]) rfl rfl T.own57 (by decide) (fun wc hw => bkmark m (((k : Nat) : Int)) wc)) (fun xq2 hq3 => ?_)
    refine GL.val (v := (.int .u32 (mk m k))) (Ex.conv rfl Try.underlying3 Try.underlying72 (Z := mk m k) (by rw [wu32]; rfl)) (by decide) ?_
    refine GL.val (v := (.pointer (some ⟨b, k, none⟩))) (Ex.cast (Ex.indexAddr rfl rfl Try.underlying30 T.sz72 (by omega) (by omega)) (by simp)) (by decide) ?_
    refine GL.step (Stp.storeL (i := 1) (cs := mkC m cs k) (vs := [.int .u32 (mk m k)]) (o := k) (L1 := (⟨kb, [(.slice none 0 0), (.slice none 0 0), (.slice none 0 0), (.slice none 0 0), (.slice none 0 0), (.slice none 0 0), (.slice none 0 0), (.slice none 0 0)], 41, true⟩ :: ⟨b, mkC m cs (k + 1), 72, true⟩ :: R)) rfl rfl rfl T.sz72 rfl (Nat.ble_eq_true_of_le (by rw [mkC_len _ _ _ (by omega)]; simp; omega)) rfl (by rw [mkC_store (by omega)]; rfl)) (fun _ _ => ?_)
    refine GL.nil ?_
    refine GE.blockN ?_
    refine GE.thenN ?_
    refine GC.region ?_
    refine GL.val (Ex.move rfl) (by decide) ?_
    refine GL.val (v := (.int .i64 (((k + 1 : Nat) : Int)))) (Ex.add rfl rfl (Z := ((k + 1 : Nat) : Int)) (by rw [w64 (by omega)]; rfl)) (by decide) ?_
    refine GL.val (Ex.assign rfl) (by decide) ?_
    refine GL.nil ?_
    refine GE.thenN ?_
    exact Head.mk (k + 1) (by omega) (by omega) ((sub_cons rfl ((sub_cons rfl ((sub_cons rfl ((sub_cons rfl ((sub_nil _)))))))))) (ulC (ulC ulR))
  · replace hq1 := of_decide_eq_false hq1
    refine GC.exit ?_
    refine GE.thenE ?_
    refine GE.thenE ?_
    refine GE.blockE ?_
    refine GE.thenN ?_
    refine GC.seq ?_
    rw [mkC_full m cs k (by omega), show k = cap from by omega]
    refine GC.region ?_
    refine GL.val (Ex.move rfl) (by decide) ?_
    refine GL.val (Ex.move rfl) (by decide) ?_
    refine GL.val (v := (.pointer (some ⟨kb, 0, none⟩))) (Ex.nilCheck rfl) (by decide) ?_
    refine GL.val (v := (.pointer (some ⟨kb, 0, none⟩))) (Ex.cast (Ex.fieldAddr rfl Try.underlying41 rfl T.sz34 (by decide)) rfl) (by decide) ?_
    refine GL.val (Ex.load rfl T.ag34 (i := 0) rfl rfl) (by decide) ?_
    refine GL.val (Ex.move rfl) (by decide) ?_
    refine GL.step (Stp.buildSlice (cs := [(.slice (some ⟨b, 0, none⟩) cap cap)]) (vs := [(0, (.slice (some ⟨b, 0, none⟩) cap cap))]) Try.underlying34 T.zr30 T.sz30 rfl (by decide) (by decide) (by first | rfl | kernel_rfl) (by decide)) (fun bq4 _ => ?_)
    refine GL.step (Stp.appendNil (vs := [(.slice (some ⟨b, 0, none⟩) cap cap)]) rfl rfl Try.underlying34 T.sz30 T.zr30 rfl T.by30 (fun wz hz => hz.rdOf (i := 0) rfl 0) rfl (by decide) (by decide) (by decide) (by decide)) (fun xq5 hq6 => ?_)
    refine GL.val (v := (.pointer (some ⟨kb, 0, none⟩))) (Ex.nilCheck rfl) (by decide) ?_
    refine GL.val (v := (.pointer (some ⟨kb, 0, none⟩))) (Ex.cast (Ex.fieldAddr rfl Try.underlying41 rfl T.sz34 (by decide)) rfl) (by decide) ?_
    refine GL.step (Stp.st2 (cs' := [(.slice (some ⟨xq5.1, 0, none⟩) 1 xq5.2.1), (.slice none 0 0), (.slice none 0 0), (.slice none 0 0), (.slice none 0 0), (.slice none 0 0), (.slice none 0 0), (.slice none 0 0)]) rfl rfl rfl T.sz34 rfl rfl rfl) (fun _ _ => ?_)
    refine GL.nil ?_
    refine GE.thenN ?_
    refine GC.draw (⟨xq5.1, [(.slice (some ⟨b, 0, none⟩) cap cap)] ++ xq5.2.2, 30, true⟩ :: ⟨bq4, [(.slice (some ⟨b, 0, none⟩) cap cap)], 30, true⟩ :: ⟨b, (mks m cap).map u32, 72, true⟩ :: R) T.mixed (fuel := 13) rfl rfl ?_
    refine GH.take 0 (v := (.pointer (some ⟨kb, 0, none⟩))) rfl (by kernel_rfl) (by kernel_rfl) (by kernel_rfl) (fun _ _ _ h => h) (Ex.move rfl) (ulC (ulC (ulS (ulC ulR)))) (by decide) ?_
    refine GH.take 1 (v := (.pointer (some ⟨kb, 0, none⟩))) rfl (by kernel_rfl) (by kernel_rfl) (by kernel_rfl) (fun _ _ _ h => h) (Ex.move rfl) (ulC (ulC (ulS (ulC ulR)))) (by decide) ?_
    refine GH.take 6 (v := (.int .i64 m)) rfl (by kernel_rfl) (by kernel_rfl) (by kernel_rfl) (fun _ _ _ h => h) (Ex.move rfl) (ulC (ulC (ulS (ulC ulR)))) (by decide) ?_
    refine GH.many (rs := [2, 7, 9]) (by kernel_rfl) (by simp) ?_
    refine GHs.cons rfl (Ex.wp (v := (.pointer (some ⟨kb, 0, none⟩))) (Ex.nilCheck rfl) (by decide)) (fun _ => (ulC (ulC (ulS (ulC ulR))))) (fun _ _ => ?_) ?_
    · refine GH.take 3 (v := (.pointer (some ⟨kb, 4, none⟩))) rfl (by kernel_rfl) (by kernel_rfl) (by kernel_rfl) (fun _ _ _ h => h) (Ex.cast (Ex.fieldAddr rfl Try.underlying41 rfl T.sz39 (by decide)) rfl) (ulC (ulC (ulS (ulC ulR)))) (by decide) ?_
      refine GH.take 4 (v := (.pointer (some ⟨kb, 4, none⟩))) rfl (by kernel_rfl) (by kernel_rfl) (by kernel_rfl) (fun _ _ _ h => h) (Ex.cast (Ex.indexArr (m := 4) rfl rfl Try.underlying39 T.sz38 (by decide) (by decide)) rfl) (ulC (ulC (ulS (ulC ulR)))) (by decide) ?_
      refine GH.many (rs := [5, 7, 9]) (by kernel_rfl) (by simp) ?_
      refine GHs.cons rfl (Ex.wp (v := (.slice none 0 0)) (Ex.load rfl T.ag38 (i := 2) rfl rfl) (by decide)) (fun _ => (ulC (ulC (ulS (ulC ulR))))) (fun _ _ => ?_) ?_
      · refine GH.many (rs := [7, 9]) (by kernel_rfl) (by simp) ?_
        refine GHs.cons rfl (Stp.buildSlice (cs := [(.int .i64 m)]) (vs := [(0, (.int .i64 m))]) Try.underlying38 T.zr3 T.sz3 rfl (by decide) (by decide) (by first | rfl | kernel_rfl) (by decide)) (fun _ => (ulS (ulC (ulC (ulS (ulC ulR)))))) (fun bq7 _ => ?_) ?_
        · refine GH.many (rs := [8, 9]) (by kernel_rfl) (by simp) ?_
          refine GHs.cons rfl (Stp.appendNil (vs := [(.int .i64 m)]) rfl rfl Try.underlying38 T.sz3 T.zr3 rfl T.by3 (fun wz hz => hz.rdOf (i := 0) rfl 0) rfl (by decide) (by decide) (by decide) (by decide)) (fun _ => (ulS (ulS (ulC (ulC (ulS (ulC ulR))))))) (fun xq8 hq9 => ?_) ?_
          · refine GH.one 9 rfl (by kernel_rfl) (Ex.wp (v := (.pointer (some ⟨kb, 0, none⟩))) (Ex.nilCheck rfl) (by decide)) (fun _ => (ulS (ulS (ulC (ulC (ulS (ulC ulR))))))) (fun _ _ => ?_)
            refine GH.take 10 (v := (.pointer (some ⟨kb, 4, none⟩))) rfl (by kernel_rfl) (by kernel_rfl) (by kernel_rfl) (fun _ _ _ h => h) (Ex.cast (Ex.fieldAddr rfl Try.underlying41 rfl T.sz39 (by decide)) rfl) (ulS (ulS (ulC (ulC (ulS (ulC ulR)))))) (by decide) ?_
            refine GH.take 11 (v := (.pointer (some ⟨kb, 4, none⟩))) rfl (by kernel_rfl) (by kernel_rfl) (by kernel_rfl) (fun _ _ _ h => h) (Ex.cast (Ex.indexArr (m := 4) rfl rfl Try.underlying39 T.sz38 (by decide) (by decide)) rfl) (ulS (ulS (ulC (ulC (ulS (ulC ulR)))))) (by decide) ?_
            refine GH.one 12 rfl (by kernel_rfl) (Stp.st4 (cs' := [(.slice (some ⟨xq5.1, 0, none⟩) 1 xq5.2.1), (.slice none 0 0), (.slice none 0 0), (.slice none 0 0), (.slice (some ⟨xq8.1, 0, none⟩) 1 xq8.2.1), (.slice none 0 0), (.slice none 0 0), (.slice none 0 0)]) rfl rfl rfl T.sz38 rfl rfl rfl) (fun _ => (ulS (ulS (ulC (ulC (ulS (ulC ulR))))))) (fun _ _ => ?_)
            refine GH.done (by kernel_rfl) ?_
            refine GC.end0 rfl (fun wN HN => ?_)
            exact HN.frm (xq8, xq5) ⟨hq6.1, hq9.1⟩ (by rfl) (ulC (ulS (ulC (ulS (ulC (ulC ulR))))))
          refine GHs.cons rfl (Ex.wp (v := (.pointer (some ⟨kb, 0, none⟩))) (Ex.nilCheck rfl) (by decide)) (fun _ => (ulS (ulC (ulC (ulS (ulC ulR)))))) (fun _ _ => ?_) ?_
          · refine GH.take 10 (v := (.pointer (some ⟨kb, 4, none⟩))) rfl (by kernel_rfl) (by kernel_rfl) (by kernel_rfl) (fun _ _ _ h => h) (Ex.cast (Ex.fieldAddr rfl Try.underlying41 rfl T.sz39 (by decide)) rfl) (ulS (ulC (ulC (ulS (ulC ulR))))) (by decide) ?_
            refine GH.one 8 rfl (by kernel_rfl) (Stp.appendNil (vs := [(.int .i64 m)]) rfl rfl Try.underlying38 T.sz3 T.zr3 rfl T.by3 (fun wz hz => hz.rdOf (i := 0) rfl 0) rfl (by decide) (by decide) (by decide) (by decide)) (fun _ => (ulS (ulS (ulC (ulC (ulS (ulC ulR))))))) (fun xq10 hq11 => ?_)
            refine GH.take 11 (v := (.pointer (some ⟨kb, 4, none⟩))) rfl (by kernel_rfl) (by kernel_rfl) (by kernel_rfl) (fun _ _ _ h => h) (Ex.cast (Ex.indexArr (m := 4) rfl rfl Try.underlying39 T.sz38 (by decide) (by decide)) rfl) (ulS (ulS (ulC (ulC (ulS (ulC ulR)))))) (by decide) ?_
            refine GH.one 12 rfl (by kernel_rfl) (Stp.st4 (cs' := [(.slice (some ⟨xq5.1, 0, none⟩) 1 xq5.2.1), (.slice none 0 0), (.slice none 0 0), (.slice none 0 0), (.slice (some ⟨xq10.1, 0, none⟩) 1 xq10.2.1), (.slice none 0 0), (.slice none 0 0), (.slice none 0 0)]) rfl rfl rfl T.sz38 rfl rfl rfl) (fun _ => (ulS (ulS (ulC (ulC (ulS (ulC ulR))))))) (fun _ _ => ?_)
            refine GH.done (by kernel_rfl) ?_
            refine GC.end0 rfl (fun wN HN => ?_)
            exact HN.frm (xq10, xq5) ⟨hq6.1, hq11.1⟩ (by rfl) (ulC (ulS (ulC (ulS (ulC (ulC ulR))))))
          exact GHs.nil
        refine GHs.cons rfl (Ex.wp (v := (.pointer (some ⟨kb, 0, none⟩))) (Ex.nilCheck rfl) (by decide)) (fun _ => (ulC (ulC (ulS (ulC ulR))))) (fun _ _ => ?_) ?_
        · refine GH.take 10 (v := (.pointer (some ⟨kb, 4, none⟩))) rfl (by kernel_rfl) (by kernel_rfl) (by kernel_rfl) (fun _ _ _ h => h) (Ex.cast (Ex.fieldAddr rfl Try.underlying41 rfl T.sz39 (by decide)) rfl) (ulC (ulC (ulS (ulC ulR)))) (by decide) ?_
          refine GH.one 7 rfl (by kernel_rfl) (Stp.buildSlice (cs := [(.int .i64 m)]) (vs := [(0, (.int .i64 m))]) Try.underlying38 T.zr3 T.sz3 rfl (by decide) (by decide) (by first | rfl | kernel_rfl) (by decide)) (fun _ => (ulS (ulC (ulC (ulS (ulC ulR)))))) (fun bq12 _ => ?_)
          refine GH.one 8 rfl (by kernel_rfl) (Stp.appendNil (vs := [(.int .i64 m)]) rfl rfl Try.underlying38 T.sz3 T.zr3 rfl T.by3 (fun wz hz => hz.rdOf (i := 0) rfl 0) rfl (by decide) (by decide) (by decide) (by decide)) (fun _ => (ulS (ulS (ulC (ulC (ulS (ulC ulR))))))) (fun xq13 hq14 => ?_)
          refine GH.take 11 (v := (.pointer (some ⟨kb, 4, none⟩))) rfl (by kernel_rfl) (by kernel_rfl) (by kernel_rfl) (fun _ _ _ h => h) (Ex.cast (Ex.indexArr (m := 4) rfl rfl Try.underlying39 T.sz38 (by decide) (by decide)) rfl) (ulS (ulS (ulC (ulC (ulS (ulC ulR)))))) (by decide) ?_
          refine GH.one 12 rfl (by kernel_rfl) (Stp.st4 (cs' := [(.slice (some ⟨xq5.1, 0, none⟩) 1 xq5.2.1), (.slice none 0 0), (.slice none 0 0), (.slice none 0 0), (.slice (some ⟨xq13.1, 0, none⟩) 1 xq13.2.1), (.slice none 0 0), (.slice none 0 0), (.slice none 0 0)]) rfl rfl rfl T.sz38 rfl rfl rfl) (fun _ => (ulS (ulS (ulC (ulC (ulS (ulC ulR))))))) (fun _ _ => ?_)
          refine GH.done (by kernel_rfl) ?_
          refine GC.end0 rfl (fun wN HN => ?_)
          exact HN.frm (xq13, xq5) ⟨hq6.1, hq14.1⟩ (by rfl) (ulC (ulS (ulC (ulS (ulC (ulC ulR))))))
        exact GHs.nil
      refine GHs.cons rfl (Stp.buildSlice (cs := [(.int .i64 m)]) (vs := [(0, (.int .i64 m))]) Try.underlying38 T.zr3 T.sz3 rfl (by decide) (by decide) (by first | rfl | kernel_rfl) (by decide)) (fun _ => (ulS (ulC (ulC (ulS (ulC ulR)))))) (fun bq15 _ => ?_) ?_
      · refine GH.many (rs := [5, 9]) (by kernel_rfl) (by simp) ?_
        refine GHs.cons rfl (Ex.wp (v := (.slice none 0 0)) (Ex.load rfl T.ag38 (i := 3) rfl rfl) (by decide)) (fun _ => (ulS (ulC (ulC (ulS (ulC ulR)))))) (fun _ _ => ?_) ?_
        · refine GH.many (rs := [8, 9]) (by kernel_rfl) (by simp) ?_
          refine GHs.cons rfl (Stp.appendNil (vs := [(.int .i64 m)]) rfl rfl Try.underlying38 T.sz3 T.zr3 rfl T.by3 (fun wz hz => hz.rdOf (i := 0) rfl 0) rfl (by decide) (by decide) (by decide) (by decide)) (fun _ => (ulS (ulS (ulC (ulC (ulS (ulC ulR))))))) (fun xq16 hq17 => ?_) ?_
          · refine GH.one 9 rfl (by kernel_rfl) (Ex.wp (v := (.pointer (some ⟨kb, 0, none⟩))) (Ex.nilCheck rfl) (by decide)) (fun _ => (ulS (ulS (ulC (ulC (ulS (ulC ulR))))))) (fun _ _ => ?_)
            refine GH.take 10 (v := (.pointer (some ⟨kb, 4, none⟩))) rfl (by kernel_rfl) (by kernel_rfl) (by kernel_rfl) (fun _ _ _ h => h) (Ex.cast (Ex.fieldAddr rfl Try.underlying41 rfl T.sz39 (by decide)) rfl) (ulS (ulS (ulC (ulC (ulS (ulC ulR)))))) (by decide) ?_
            refine GH.take 11 (v := (.pointer (some ⟨kb, 4, none⟩))) rfl (by kernel_rfl) (by kernel_rfl) (by kernel_rfl) (fun _ _ _ h => h) (Ex.cast (Ex.indexArr (m := 4) rfl rfl Try.underlying39 T.sz38 (by decide) (by decide)) rfl) (ulS (ulS (ulC (ulC (ulS (ulC ulR)))))) (by decide) ?_
            refine GH.one 12 rfl (by kernel_rfl) (Stp.st4 (cs' := [(.slice (some ⟨xq5.1, 0, none⟩) 1 xq5.2.1), (.slice none 0 0), (.slice none 0 0), (.slice none 0 0), (.slice (some ⟨xq16.1, 0, none⟩) 1 xq16.2.1), (.slice none 0 0), (.slice none 0 0), (.slice none 0 0)]) rfl rfl rfl T.sz38 rfl rfl rfl) (fun _ => (ulS (ulS (ulC (ulC (ulS (ulC ulR))))))) (fun _ _ => ?_)
            refine GH.done (by kernel_rfl) ?_
            refine GC.end0 rfl (fun wN HN => ?_)
            exact HN.frm (xq16, xq5) ⟨hq6.1, hq17.1⟩ (by rfl) (ulC (ulS (ulC (ulS (ulC (ulC ulR))))))
          refine GHs.cons rfl (Ex.wp (v := (.pointer (some ⟨kb, 0, none⟩))) (Ex.nilCheck rfl) (by decide)) (fun _ => (ulS (ulC (ulC (ulS (ulC ulR)))))) (fun _ _ => ?_) ?_
          · refine GH.take 10 (v := (.pointer (some ⟨kb, 4, none⟩))) rfl (by kernel_rfl) (by kernel_rfl) (by kernel_rfl) (fun _ _ _ h => h) (Ex.cast (Ex.fieldAddr rfl Try.underlying41 rfl T.sz39 (by decide)) rfl) (ulS (ulC (ulC (ulS (ulC ulR))))) (by decide) ?_
            refine GH.one 8 rfl (by kernel_rfl) (Stp.appendNil (vs := [(.int .i64 m)]) rfl rfl Try.underlying38 T.sz3 T.zr3 rfl T.by3 (fun wz hz => hz.rdOf (i := 0) rfl 0) rfl (by decide) (by decide) (by decide) (by decide)) (fun _ => (ulS (ulS (ulC (ulC (ulS (ulC ulR))))))) (fun xq18 hq19 => ?_)
            refine GH.take 11 (v := (.pointer (some ⟨kb, 4, none⟩))) rfl (by kernel_rfl) (by kernel_rfl) (by kernel_rfl) (fun _ _ _ h => h) (Ex.cast (Ex.indexArr (m := 4) rfl rfl Try.underlying39 T.sz38 (by decide) (by decide)) rfl) (ulS (ulS (ulC (ulC (ulS (ulC ulR)))))) (by decide) ?_
            refine GH.one 12 rfl (by kernel_rfl) (Stp.st4 (cs' := [(.slice (some ⟨xq5.1, 0, none⟩) 1 xq5.2.1), (.slice none 0 0), (.slice none 0 0), (.slice none 0 0), (.slice (some ⟨xq18.1, 0, none⟩) 1 xq18.2.1), (.slice none 0 0), (.slice none 0 0), (.slice none 0 0)]) rfl rfl rfl T.sz38 rfl rfl rfl) (fun _ => (ulS (ulS (ulC (ulC (ulS (ulC ulR))))))) (fun _ _ => ?_)
            refine GH.done (by kernel_rfl) ?_
            refine GC.end0 rfl (fun wN HN => ?_)
            exact HN.frm (xq18, xq5) ⟨hq6.1, hq19.1⟩ (by rfl) (ulC (ulS (ulC (ulS (ulC (ulC ulR))))))
          exact GHs.nil
        refine GHs.cons rfl (Ex.wp (v := (.pointer (some ⟨kb, 0, none⟩))) (Ex.nilCheck rfl) (by decide)) (fun _ => (ulS (ulC (ulC (ulS (ulC ulR)))))) (fun _ _ => ?_) ?_
        · refine GH.take 10 (v := (.pointer (some ⟨kb, 4, none⟩))) rfl (by kernel_rfl) (by kernel_rfl) (by kernel_rfl) (fun _ _ _ h => h) (Ex.cast (Ex.fieldAddr rfl Try.underlying41 rfl T.sz39 (by decide)) rfl) (ulS (ulC (ulC (ulS (ulC ulR))))) (by decide) ?_
          refine GH.one 5 rfl (by kernel_rfl) (Ex.wp (v := (.slice none 0 0)) (Ex.load rfl T.ag38 (i := 3) rfl rfl) (by decide)) (fun _ => (ulS (ulC (ulC (ulS (ulC ulR)))))) (fun _ _ => ?_)
          refine GH.one 8 rfl (by kernel_rfl) (Stp.appendNil (vs := [(.int .i64 m)]) rfl rfl Try.underlying38 T.sz3 T.zr3 rfl T.by3 (fun wz hz => hz.rdOf (i := 0) rfl 0) rfl (by decide) (by decide) (by decide) (by decide)) (fun _ => (ulS (ulS (ulC (ulC (ulS (ulC ulR))))))) (fun xq20 hq21 => ?_)
          refine GH.take 11 (v := (.pointer (some ⟨kb, 4, none⟩))) rfl (by kernel_rfl) (by kernel_rfl) (by kernel_rfl) (fun _ _ _ h => h) (Ex.cast (Ex.indexArr (m := 4) rfl rfl Try.underlying39 T.sz38 (by decide) (by decide)) rfl) (ulS (ulS (ulC (ulC (ulS (ulC ulR)))))) (by decide) ?_
          refine GH.one 12 rfl (by kernel_rfl) (Stp.st4 (cs' := [(.slice (some ⟨xq5.1, 0, none⟩) 1 xq5.2.1), (.slice none 0 0), (.slice none 0 0), (.slice none 0 0), (.slice (some ⟨xq20.1, 0, none⟩) 1 xq20.2.1), (.slice none 0 0), (.slice none 0 0), (.slice none 0 0)]) rfl rfl rfl T.sz38 rfl rfl rfl) (fun _ => (ulS (ulS (ulC (ulC (ulS (ulC ulR))))))) (fun _ _ => ?_)
          refine GH.done (by kernel_rfl) ?_
          refine GC.end0 rfl (fun wN HN => ?_)
          exact HN.frm (xq20, xq5) ⟨hq6.1, hq21.1⟩ (by rfl) (ulC (ulS (ulC (ulS (ulC (ulC ulR))))))
        exact GHs.nil
      refine GHs.cons rfl (Ex.wp (v := (.pointer (some ⟨kb, 0, none⟩))) (Ex.nilCheck rfl) (by decide)) (fun _ => (ulC (ulC (ulS (ulC ulR))))) (fun _ _ => ?_) ?_
      · refine GH.take 10 (v := (.pointer (some ⟨kb, 4, none⟩))) rfl (by kernel_rfl) (by kernel_rfl) (by kernel_rfl) (fun _ _ _ h => h) (Ex.cast (Ex.fieldAddr rfl Try.underlying41 rfl T.sz39 (by decide)) rfl) (ulC (ulC (ulS (ulC ulR)))) (by decide) ?_
        refine GH.many (rs := [5, 7]) (by kernel_rfl) (by simp) ?_
        refine GHs.cons rfl (Ex.wp (v := (.slice none 0 0)) (Ex.load rfl T.ag38 (i := 2) rfl rfl) (by decide)) (fun _ => (ulC (ulC (ulS (ulC ulR))))) (fun _ _ => ?_) ?_
        · refine GH.one 7 rfl (by kernel_rfl) (Stp.buildSlice (cs := [(.int .i64 m)]) (vs := [(0, (.int .i64 m))]) Try.underlying38 T.zr3 T.sz3 rfl (by decide) (by decide) (by first | rfl | kernel_rfl) (by decide)) (fun _ => (ulS (ulC (ulC (ulS (ulC ulR)))))) (fun bq22 _ => ?_)
          refine GH.one 8 rfl (by kernel_rfl) (Stp.appendNil (vs := [(.int .i64 m)]) rfl rfl Try.underlying38 T.sz3 T.zr3 rfl T.by3 (fun wz hz => hz.rdOf (i := 0) rfl 0) rfl (by decide) (by decide) (by decide) (by decide)) (fun _ => (ulS (ulS (ulC (ulC (ulS (ulC ulR))))))) (fun xq23 hq24 => ?_)
          refine GH.take 11 (v := (.pointer (some ⟨kb, 4, none⟩))) rfl (by kernel_rfl) (by kernel_rfl) (by kernel_rfl) (fun _ _ _ h => h) (Ex.cast (Ex.indexArr (m := 4) rfl rfl Try.underlying39 T.sz38 (by decide) (by decide)) rfl) (ulS (ulS (ulC (ulC (ulS (ulC ulR)))))) (by decide) ?_
          refine GH.one 12 rfl (by kernel_rfl) (Stp.st4 (cs' := [(.slice (some ⟨xq5.1, 0, none⟩) 1 xq5.2.1), (.slice none 0 0), (.slice none 0 0), (.slice none 0 0), (.slice (some ⟨xq23.1, 0, none⟩) 1 xq23.2.1), (.slice none 0 0), (.slice none 0 0), (.slice none 0 0)]) rfl rfl rfl T.sz38 rfl rfl rfl) (fun _ => (ulS (ulS (ulC (ulC (ulS (ulC ulR))))))) (fun _ _ => ?_)
          refine GH.done (by kernel_rfl) ?_
          refine GC.end0 rfl (fun wN HN => ?_)
          exact HN.frm (xq23, xq5) ⟨hq6.1, hq24.1⟩ (by rfl) (ulC (ulS (ulC (ulS (ulC (ulC ulR))))))
        refine GHs.cons rfl (Stp.buildSlice (cs := [(.int .i64 m)]) (vs := [(0, (.int .i64 m))]) Try.underlying38 T.zr3 T.sz3 rfl (by decide) (by decide) (by first | rfl | kernel_rfl) (by decide)) (fun _ => (ulS (ulC (ulC (ulS (ulC ulR)))))) (fun bq25 _ => ?_) ?_
        · refine GH.one 5 rfl (by kernel_rfl) (Ex.wp (v := (.slice none 0 0)) (Ex.load rfl T.ag38 (i := 3) rfl rfl) (by decide)) (fun _ => (ulS (ulC (ulC (ulS (ulC ulR)))))) (fun _ _ => ?_)
          refine GH.one 8 rfl (by kernel_rfl) (Stp.appendNil (vs := [(.int .i64 m)]) rfl rfl Try.underlying38 T.sz3 T.zr3 rfl T.by3 (fun wz hz => hz.rdOf (i := 0) rfl 0) rfl (by decide) (by decide) (by decide) (by decide)) (fun _ => (ulS (ulS (ulC (ulC (ulS (ulC ulR))))))) (fun xq26 hq27 => ?_)
          refine GH.take 11 (v := (.pointer (some ⟨kb, 4, none⟩))) rfl (by kernel_rfl) (by kernel_rfl) (by kernel_rfl) (fun _ _ _ h => h) (Ex.cast (Ex.indexArr (m := 4) rfl rfl Try.underlying39 T.sz38 (by decide) (by decide)) rfl) (ulS (ulS (ulC (ulC (ulS (ulC ulR)))))) (by decide) ?_
          refine GH.one 12 rfl (by kernel_rfl) (Stp.st4 (cs' := [(.slice (some ⟨xq5.1, 0, none⟩) 1 xq5.2.1), (.slice none 0 0), (.slice none 0 0), (.slice none 0 0), (.slice (some ⟨xq26.1, 0, none⟩) 1 xq26.2.1), (.slice none 0 0), (.slice none 0 0), (.slice none 0 0)]) rfl rfl rfl T.sz38 rfl rfl rfl) (fun _ => (ulS (ulS (ulC (ulC (ulS (ulC ulR))))))) (fun _ _ => ?_)
          refine GH.done (by kernel_rfl) ?_
          refine GC.end0 rfl (fun wN HN => ?_)
          exact HN.frm (xq26, xq5) ⟨hq6.1, hq27.1⟩ (by rfl) (ulC (ulS (ulC (ulS (ulC (ulC ulR))))))
        exact GHs.nil
      exact GHs.nil
    refine GHs.cons rfl (Stp.buildSlice (cs := [(.int .i64 m)]) (vs := [(0, (.int .i64 m))]) Try.underlying38 T.zr3 T.sz3 rfl (by decide) (by decide) (by first | rfl | kernel_rfl) (by decide)) (fun _ => (ulS (ulC (ulC (ulS (ulC ulR)))))) (fun bq28 _ => ?_) ?_
    · refine GH.many (rs := [2, 9]) (by kernel_rfl) (by simp) ?_
      refine GHs.cons rfl (Ex.wp (v := (.pointer (some ⟨kb, 0, none⟩))) (Ex.nilCheck rfl) (by decide)) (fun _ => (ulS (ulC (ulC (ulS (ulC ulR)))))) (fun _ _ => ?_) ?_
      · refine GH.take 3 (v := (.pointer (some ⟨kb, 4, none⟩))) rfl (by kernel_rfl) (by kernel_rfl) (by kernel_rfl) (fun _ _ _ h => h) (Ex.cast (Ex.fieldAddr rfl Try.underlying41 rfl T.sz39 (by decide)) rfl) (ulS (ulC (ulC (ulS (ulC ulR))))) (by decide) ?_
        refine GH.take 4 (v := (.pointer (some ⟨kb, 4, none⟩))) rfl (by kernel_rfl) (by kernel_rfl) (by kernel_rfl) (fun _ _ _ h => h) (Ex.cast (Ex.indexArr (m := 4) rfl rfl Try.underlying39 T.sz38 (by decide) (by decide)) rfl) (ulS (ulC (ulC (ulS (ulC ulR))))) (by decide) ?_
        refine GH.many (rs := [5, 9]) (by kernel_rfl) (by simp) ?_
        refine GHs.cons rfl (Ex.wp (v := (.slice none 0 0)) (Ex.load rfl T.ag38 (i := 3) rfl rfl) (by decide)) (fun _ => (ulS (ulC (ulC (ulS (ulC ulR)))))) (fun _ _ => ?_) ?_
        · refine GH.many (rs := [8, 9]) (by kernel_rfl) (by simp) ?_
          refine GHs.cons rfl (Stp.appendNil (vs := [(.int .i64 m)]) rfl rfl Try.underlying38 T.sz3 T.zr3 rfl T.by3 (fun wz hz => hz.rdOf (i := 0) rfl 0) rfl (by decide) (by decide) (by decide) (by decide)) (fun _ => (ulS (ulS (ulC (ulC (ulS (ulC ulR))))))) (fun xq29 hq30 => ?_) ?_
          · refine GH.one 9 rfl (by kernel_rfl) (Ex.wp (v := (.pointer (some ⟨kb, 0, none⟩))) (Ex.nilCheck rfl) (by decide)) (fun _ => (ulS (ulS (ulC (ulC (ulS (ulC ulR))))))) (fun _ _ => ?_)
            refine GH.take 10 (v := (.pointer (some ⟨kb, 4, none⟩))) rfl (by kernel_rfl) (by kernel_rfl) (by kernel_rfl) (fun _ _ _ h => h) (Ex.cast (Ex.fieldAddr rfl Try.underlying41 rfl T.sz39 (by decide)) rfl) (ulS (ulS (ulC (ulC (ulS (ulC ulR)))))) (by decide) ?_
            refine GH.take 11 (v := (.pointer (some ⟨kb, 4, none⟩))) rfl (by kernel_rfl) (by kernel_rfl) (by kernel_rfl) (fun _ _ _ h => h) (Ex.cast (Ex.indexArr (m := 4) rfl rfl Try.underlying39 T.sz38 (by decide) (by decide)) rfl) (ulS (ulS (ulC (ulC (ulS (ulC ulR)))))) (by decide) ?_
            refine GH.one 12 rfl (by kernel_rfl) (Stp.st4 (cs' := [(.slice (some ⟨xq5.1, 0, none⟩) 1 xq5.2.1), (.slice none 0 0), (.slice none 0 0), (.slice none 0 0), (.slice (some ⟨xq29.1, 0, none⟩) 1 xq29.2.1), (.slice none 0 0), (.slice none 0 0), (.slice none 0 0)]) rfl rfl rfl T.sz38 rfl rfl rfl) (fun _ => (ulS (ulS (ulC (ulC (ulS (ulC ulR))))))) (fun _ _ => ?_)
            refine GH.done (by kernel_rfl) ?_
            refine GC.end0 rfl (fun wN HN => ?_)
            exact HN.frm (xq29, xq5) ⟨hq6.1, hq30.1⟩ (by rfl) (ulC (ulS (ulC (ulS (ulC (ulC ulR))))))
          refine GHs.cons rfl (Ex.wp (v := (.pointer (some ⟨kb, 0, none⟩))) (Ex.nilCheck rfl) (by decide)) (fun _ => (ulS (ulC (ulC (ulS (ulC ulR)))))) (fun _ _ => ?_) ?_
          · refine GH.take 10 (v := (.pointer (some ⟨kb, 4, none⟩))) rfl (by kernel_rfl) (by kernel_rfl) (by kernel_rfl) (fun _ _ _ h => h) (Ex.cast (Ex.fieldAddr rfl Try.underlying41 rfl T.sz39 (by decide)) rfl) (ulS (ulC (ulC (ulS (ulC ulR))))) (by decide) ?_
            refine GH.one 8 rfl (by kernel_rfl) (Stp.appendNil (vs := [(.int .i64 m)]) rfl rfl Try.underlying38 T.sz3 T.zr3 rfl T.by3 (fun wz hz => hz.rdOf (i := 0) rfl 0) rfl (by decide) (by decide) (by decide) (by decide)) (fun _ => (ulS (ulS (ulC (ulC (ulS (ulC ulR))))))) (fun xq31 hq32 => ?_)
            refine GH.take 11 (v := (.pointer (some ⟨kb, 4, none⟩))) rfl (by kernel_rfl) (by kernel_rfl) (by kernel_rfl) (fun _ _ _ h => h) (Ex.cast (Ex.indexArr (m := 4) rfl rfl Try.underlying39 T.sz38 (by decide) (by decide)) rfl) (ulS (ulS (ulC (ulC (ulS (ulC ulR)))))) (by decide) ?_
            refine GH.one 12 rfl (by kernel_rfl) (Stp.st4 (cs' := [(.slice (some ⟨xq5.1, 0, none⟩) 1 xq5.2.1), (.slice none 0 0), (.slice none 0 0), (.slice none 0 0), (.slice (some ⟨xq31.1, 0, none⟩) 1 xq31.2.1), (.slice none 0 0), (.slice none 0 0), (.slice none 0 0)]) rfl rfl rfl T.sz38 rfl rfl rfl) (fun _ => (ulS (ulS (ulC (ulC (ulS (ulC ulR))))))) (fun _ _ => ?_)
            refine GH.done (by kernel_rfl) ?_
            refine GC.end0 rfl (fun wN HN => ?_)
            exact HN.frm (xq31, xq5) ⟨hq6.1, hq32.1⟩ (by rfl) (ulC (ulS (ulC (ulS (ulC (ulC ulR))))))
          exact GHs.nil
        refine GHs.cons rfl (Ex.wp (v := (.pointer (some ⟨kb, 0, none⟩))) (Ex.nilCheck rfl) (by decide)) (fun _ => (ulS (ulC (ulC (ulS (ulC ulR)))))) (fun _ _ => ?_) ?_
        · refine GH.take 10 (v := (.pointer (some ⟨kb, 4, none⟩))) rfl (by kernel_rfl) (by kernel_rfl) (by kernel_rfl) (fun _ _ _ h => h) (Ex.cast (Ex.fieldAddr rfl Try.underlying41 rfl T.sz39 (by decide)) rfl) (ulS (ulC (ulC (ulS (ulC ulR))))) (by decide) ?_
          refine GH.one 5 rfl (by kernel_rfl) (Ex.wp (v := (.slice none 0 0)) (Ex.load rfl T.ag38 (i := 3) rfl rfl) (by decide)) (fun _ => (ulS (ulC (ulC (ulS (ulC ulR)))))) (fun _ _ => ?_)
          refine GH.one 8 rfl (by kernel_rfl) (Stp.appendNil (vs := [(.int .i64 m)]) rfl rfl Try.underlying38 T.sz3 T.zr3 rfl T.by3 (fun wz hz => hz.rdOf (i := 0) rfl 0) rfl (by decide) (by decide) (by decide) (by decide)) (fun _ => (ulS (ulS (ulC (ulC (ulS (ulC ulR))))))) (fun xq33 hq34 => ?_)
          refine GH.take 11 (v := (.pointer (some ⟨kb, 4, none⟩))) rfl (by kernel_rfl) (by kernel_rfl) (by kernel_rfl) (fun _ _ _ h => h) (Ex.cast (Ex.indexArr (m := 4) rfl rfl Try.underlying39 T.sz38 (by decide) (by decide)) rfl) (ulS (ulS (ulC (ulC (ulS (ulC ulR)))))) (by decide) ?_
          refine GH.one 12 rfl (by kernel_rfl) (Stp.st4 (cs' := [(.slice (some ⟨xq5.1, 0, none⟩) 1 xq5.2.1), (.slice none 0 0), (.slice none 0 0), (.slice none 0 0), (.slice (some ⟨xq33.1, 0, none⟩) 1 xq33.2.1), (.slice none 0 0), (.slice none 0 0), (.slice none 0 0)]) rfl rfl rfl T.sz38 rfl rfl rfl) (fun _ => (ulS (ulS (ulC (ulC (ulS (ulC ulR))))))) (fun _ _ => ?_)
          refine GH.done (by kernel_rfl) ?_
          refine GC.end0 rfl (fun wN HN => ?_)
          exact HN.frm (xq33, xq5) ⟨hq6.1, hq34.1⟩ (by rfl) (ulC (ulS (ulC (ulS (ulC (ulC ulR))))))
        exact GHs.nil
      refine GHs.cons rfl (Ex.wp (v := (.pointer (some ⟨kb, 0, none⟩))) (Ex.nilCheck rfl) (by decide)) (fun _ => (ulS (ulC (ulC (ulS (ulC ulR)))))) (fun _ _ => ?_) ?_
      · refine GH.take 10 (v := (.pointer (some ⟨kb, 4, none⟩))) rfl (by kernel_rfl) (by kernel_rfl) (by kernel_rfl) (fun _ _ _ h => h) (Ex.cast (Ex.fieldAddr rfl Try.underlying41 rfl T.sz39 (by decide)) rfl) (ulS (ulC (ulC (ulS (ulC ulR))))) (by decide) ?_
        refine GH.one 2 rfl (by kernel_rfl) (Ex.wp (v := (.pointer (some ⟨kb, 0, none⟩))) (Ex.nilCheck rfl) (by decide)) (fun _ => (ulS (ulC (ulC (ulS (ulC ulR)))))) (fun _ _ => ?_)
        refine GH.take 3 (v := (.pointer (some ⟨kb, 4, none⟩))) rfl (by kernel_rfl) (by kernel_rfl) (by kernel_rfl) (fun _ _ _ h => h) (Ex.cast (Ex.fieldAddr rfl Try.underlying41 rfl T.sz39 (by decide)) rfl) (ulS (ulC (ulC (ulS (ulC ulR))))) (by decide) ?_
        refine GH.take 4 (v := (.pointer (some ⟨kb, 4, none⟩))) rfl (by kernel_rfl) (by kernel_rfl) (by kernel_rfl) (fun _ _ _ h => h) (Ex.cast (Ex.indexArr (m := 4) rfl rfl Try.underlying39 T.sz38 (by decide) (by decide)) rfl) (ulS (ulC (ulC (ulS (ulC ulR))))) (by decide) ?_
        refine GH.one 5 rfl (by kernel_rfl) (Ex.wp (v := (.slice none 0 0)) (Ex.load rfl T.ag38 (i := 3) rfl rfl) (by decide)) (fun _ => (ulS (ulC (ulC (ulS (ulC ulR)))))) (fun _ _ => ?_)
        refine GH.one 8 rfl (by kernel_rfl) (Stp.appendNil (vs := [(.int .i64 m)]) rfl rfl Try.underlying38 T.sz3 T.zr3 rfl T.by3 (fun wz hz => hz.rdOf (i := 0) rfl 0) rfl (by decide) (by decide) (by decide) (by decide)) (fun _ => (ulS (ulS (ulC (ulC (ulS (ulC ulR))))))) (fun xq35 hq36 => ?_)
        refine GH.take 11 (v := (.pointer (some ⟨kb, 4, none⟩))) rfl (by kernel_rfl) (by kernel_rfl) (by kernel_rfl) (fun _ _ _ h => h) (Ex.cast (Ex.indexArr (m := 4) rfl rfl Try.underlying39 T.sz38 (by decide) (by decide)) rfl) (ulS (ulS (ulC (ulC (ulS (ulC ulR)))))) (by decide) ?_
        refine GH.one 12 rfl (by kernel_rfl) (Stp.st4 (cs' := [(.slice (some ⟨xq5.1, 0, none⟩) 1 xq5.2.1), (.slice none 0 0), (.slice none 0 0), (.slice none 0 0), (.slice (some ⟨xq35.1, 0, none⟩) 1 xq35.2.1), (.slice none 0 0), (.slice none 0 0), (.slice none 0 0)]) rfl rfl rfl T.sz38 rfl rfl rfl) (fun _ => (ulS (ulS (ulC (ulC (ulS (ulC ulR))))))) (fun _ _ => ?_)
        refine GH.done (by kernel_rfl) ?_
        refine GC.end0 rfl (fun wN HN => ?_)
        exact HN.frm (xq35, xq5) ⟨hq6.1, hq36.1⟩ (by rfl) (ulC (ulS (ulC (ulS (ulC (ulC ulR))))))
      exact GHs.nil
    refine GHs.cons rfl (Ex.wp (v := (.pointer (some ⟨kb, 0, none⟩))) (Ex.nilCheck rfl) (by decide)) (fun _ => (ulC (ulC (ulS (ulC ulR))))) (fun _ _ => ?_) ?_
    · refine GH.take 10 (v := (.pointer (some ⟨kb, 4, none⟩))) rfl (by kernel_rfl) (by kernel_rfl) (by kernel_rfl) (fun _ _ _ h => h) (Ex.cast (Ex.fieldAddr rfl Try.underlying41 rfl T.sz39 (by decide)) rfl) (ulC (ulC (ulS (ulC ulR)))) (by decide) ?_
      refine GH.many (rs := [2, 7]) (by kernel_rfl) (by simp) ?_
      refine GHs.cons rfl (Ex.wp (v := (.pointer (some ⟨kb, 0, none⟩))) (Ex.nilCheck rfl) (by decide)) (fun _ => (ulC (ulC (ulS (ulC ulR))))) (fun _ _ => ?_) ?_
      · refine GH.take 3 (v := (.pointer (some ⟨kb, 4, none⟩))) rfl (by kernel_rfl) (by kernel_rfl) (by kernel_rfl) (fun _ _ _ h => h) (Ex.cast (Ex.fieldAddr rfl Try.underlying41 rfl T.sz39 (by decide)) rfl) (ulC (ulC (ulS (ulC ulR)))) (by decide) ?_
        refine GH.take 4 (v := (.pointer (some ⟨kb, 4, none⟩))) rfl (by kernel_rfl) (by kernel_rfl) (by kernel_rfl) (fun _ _ _ h => h) (Ex.cast (Ex.indexArr (m := 4) rfl rfl Try.underlying39 T.sz38 (by decide) (by decide)) rfl) (ulC (ulC (ulS (ulC ulR)))) (by decide) ?_
        refine GH.many (rs := [5, 7]) (by kernel_rfl) (by simp) ?_
        refine GHs.cons rfl (Ex.wp (v := (.slice none 0 0)) (Ex.load rfl T.ag38 (i := 2) rfl rfl) (by decide)) (fun _ => (ulC (ulC (ulS (ulC ulR))))) (fun _ _ => ?_) ?_
        · refine GH.one 7 rfl (by kernel_rfl) (Stp.buildSlice (cs := [(.int .i64 m)]) (vs := [(0, (.int .i64 m))]) Try.underlying38 T.zr3 T.sz3 rfl (by decide) (by decide) (by first | rfl | kernel_rfl) (by decide)) (fun _ => (ulS (ulC (ulC (ulS (ulC ulR)))))) (fun bq37 _ => ?_)
          refine GH.one 8 rfl (by kernel_rfl) (Stp.appendNil (vs := [(.int .i64 m)]) rfl rfl Try.underlying38 T.sz3 T.zr3 rfl T.by3 (fun wz hz => hz.rdOf (i := 0) rfl 0) rfl (by decide) (by decide) (by decide) (by decide)) (fun _ => (ulS (ulS (ulC (ulC (ulS (ulC ulR))))))) (fun xq38 hq39 => ?_)
          refine GH.take 11 (v := (.pointer (some ⟨kb, 4, none⟩))) rfl (by kernel_rfl) (by kernel_rfl) (by kernel_rfl) (fun _ _ _ h => h) (Ex.cast (Ex.indexArr (m := 4) rfl rfl Try.underlying39 T.sz38 (by decide) (by decide)) rfl) (ulS (ulS (ulC (ulC (ulS (ulC ulR)))))) (by decide) ?_
          refine GH.one 12 rfl (by kernel_rfl) (Stp.st4 (cs' := [(.slice (some ⟨xq5.1, 0, none⟩) 1 xq5.2.1), (.slice none 0 0), (.slice none 0 0), (.slice none 0 0), (.slice (some ⟨xq38.1, 0, none⟩) 1 xq38.2.1), (.slice none 0 0), (.slice none 0 0), (.slice none 0 0)]) rfl rfl rfl T.sz38 rfl rfl rfl) (fun _ => (ulS (ulS (ulC (ulC (ulS (ulC ulR))))))) (fun _ _ => ?_)
          refine GH.done (by kernel_rfl) ?_
          refine GC.end0 rfl (fun wN HN => ?_)
          exact HN.frm (xq38, xq5) ⟨hq6.1, hq39.1⟩ (by rfl) (ulC (ulS (ulC (ulS (ulC (ulC ulR))))))
        refine GHs.cons rfl (Stp.buildSlice (cs := [(.int .i64 m)]) (vs := [(0, (.int .i64 m))]) Try.underlying38 T.zr3 T.sz3 rfl (by decide) (by decide) (by first | rfl | kernel_rfl) (by decide)) (fun _ => (ulS (ulC (ulC (ulS (ulC ulR)))))) (fun bq40 _ => ?_) ?_
        · refine GH.one 5 rfl (by kernel_rfl) (Ex.wp (v := (.slice none 0 0)) (Ex.load rfl T.ag38 (i := 3) rfl rfl) (by decide)) (fun _ => (ulS (ulC (ulC (ulS (ulC ulR)))))) (fun _ _ => ?_)
          refine GH.one 8 rfl (by kernel_rfl) (Stp.appendNil (vs := [(.int .i64 m)]) rfl rfl Try.underlying38 T.sz3 T.zr3 rfl T.by3 (fun wz hz => hz.rdOf (i := 0) rfl 0) rfl (by decide) (by decide) (by decide) (by decide)) (fun _ => (ulS (ulS (ulC (ulC (ulS (ulC ulR))))))) (fun xq41 hq42 => ?_)
          refine GH.take 11 (v := (.pointer (some ⟨kb, 4, none⟩))) rfl (by kernel_rfl) (by kernel_rfl) (by kernel_rfl) (fun _ _ _ h => h) (Ex.cast (Ex.indexArr (m := 4) rfl rfl Try.underlying39 T.sz38 (by decide) (by decide)) rfl) (ulS (ulS (ulC (ulC (ulS (ulC ulR)))))) (by decide) ?_
          refine GH.one 12 rfl (by kernel_rfl) (Stp.st4 (cs' := [(.slice (some ⟨xq5.1, 0, none⟩) 1 xq5.2.1), (.slice none 0 0), (.slice none 0 0), (.slice none 0 0), (.slice (some ⟨xq41.1, 0, none⟩) 1 xq41.2.1), (.slice none 0 0), (.slice none 0 0), (.slice none 0 0)]) rfl rfl rfl T.sz38 rfl rfl rfl) (fun _ => (ulS (ulS (ulC (ulC (ulS (ulC ulR))))))) (fun _ _ => ?_)
          refine GH.done (by kernel_rfl) ?_
          refine GC.end0 rfl (fun wN HN => ?_)
          exact HN.frm (xq41, xq5) ⟨hq6.1, hq42.1⟩ (by rfl) (ulC (ulS (ulC (ulS (ulC (ulC ulR))))))
        exact GHs.nil
      refine GHs.cons rfl (Stp.buildSlice (cs := [(.int .i64 m)]) (vs := [(0, (.int .i64 m))]) Try.underlying38 T.zr3 T.sz3 rfl (by decide) (by decide) (by first | rfl | kernel_rfl) (by decide)) (fun _ => (ulS (ulC (ulC (ulS (ulC ulR)))))) (fun bq43 _ => ?_) ?_
      · refine GH.one 2 rfl (by kernel_rfl) (Ex.wp (v := (.pointer (some ⟨kb, 0, none⟩))) (Ex.nilCheck rfl) (by decide)) (fun _ => (ulS (ulC (ulC (ulS (ulC ulR)))))) (fun _ _ => ?_)
        refine GH.take 3 (v := (.pointer (some ⟨kb, 4, none⟩))) rfl (by kernel_rfl) (by kernel_rfl) (by kernel_rfl) (fun _ _ _ h => h) (Ex.cast (Ex.fieldAddr rfl Try.underlying41 rfl T.sz39 (by decide)) rfl) (ulS (ulC (ulC (ulS (ulC ulR))))) (by decide) ?_
        refine GH.take 4 (v := (.pointer (some ⟨kb, 4, none⟩))) rfl (by kernel_rfl) (by kernel_rfl) (by kernel_rfl) (fun _ _ _ h => h) (Ex.cast (Ex.indexArr (m := 4) rfl rfl Try.underlying39 T.sz38 (by decide) (by decide)) rfl) (ulS (ulC (ulC (ulS (ulC ulR))))) (by decide) ?_
        refine GH.one 5 rfl (by kernel_rfl) (Ex.wp (v := (.slice none 0 0)) (Ex.load rfl T.ag38 (i := 3) rfl rfl) (by decide)) (fun _ => (ulS (ulC (ulC (ulS (ulC ulR)))))) (fun _ _ => ?_)
        refine GH.one 8 rfl (by kernel_rfl) (Stp.appendNil (vs := [(.int .i64 m)]) rfl rfl Try.underlying38 T.sz3 T.zr3 rfl T.by3 (fun wz hz => hz.rdOf (i := 0) rfl 0) rfl (by decide) (by decide) (by decide) (by decide)) (fun _ => (ulS (ulS (ulC (ulC (ulS (ulC ulR))))))) (fun xq44 hq45 => ?_)
        refine GH.take 11 (v := (.pointer (some ⟨kb, 4, none⟩))) rfl (by kernel_rfl) (by kernel_rfl) (by kernel_rfl) (fun _ _ _ h => h) (Ex.cast (Ex.indexArr (m := 4) rfl rfl Try.underlying39 T.sz38 (by decide) (by decide)) rfl) (ulS (ulS (ulC (ulC (ulS (ulC ulR)))))) (by decide) ?_
        refine GH.one 12 rfl (by kernel_rfl) (Stp.st4 (cs' := [(.slice (some ⟨xq5.1, 0, none⟩) 1 xq5.2.1), (.slice none 0 0), (.slice none 0 0), (.slice none 0 0), (.slice (some ⟨xq44.1, 0, none⟩) 1 xq44.2.1), (.slice none 0 0), (.slice none 0 0), (.slice none 0 0)]) rfl rfl rfl T.sz38 rfl rfl rfl) (fun _ => (ulS (ulS (ulC (ulC (ulS (ulC ulR))))))) (fun _ _ => ?_)
        refine GH.done (by kernel_rfl) ?_
        refine GC.end0 rfl (fun wN HN => ?_)
        exact HN.frm (xq44, xq5) ⟨hq6.1, hq45.1⟩ (by rfl) (ulC (ulS (ulC (ulS (ulC (ulC ulR))))))
      exact GHs.nil
    exact GHs.nil

set_option maxRecDepth 100000 in
set_option maxHeartbeats 1000000 in
theorem book_p01 (w0 : World) (R : List Blk) (W H : Int) (kb : Nat) (m : Int) (b n cap : Nat) (cs : List Value) (w : World) (hcap : cs.length = cap) (hb : cap ≤ 9223372036854775806) (hp0 : Hp None w0 (⟨kb, [(.slice none 0 0), (.slice none 0 0), (.slice none 0 0), (.slice none 0 0), (.slice none 0 0), (.slice none 0 0), (.slice none 0 0), (.slice none 0 0)], 41, true⟩ :: ⟨b, cs, 72, true⟩ :: R) w) :
    Calls Try.prog 21 #[(.pointer (some ⟨kb, 0, none⟩)), (.agg #[(.int .i64 W), (.int .i64 H), (.slice (some ⟨b, 0, none⟩) n cap)]), (.int .i64 m)] w (Frm (σ := (Nat × Nat × List Value) × (Nat × Nat × List Value)) None w0 (fun x => ([(Value.slice (some ⟨b, 0, none⟩) cap cap)] ++ x.2.2.2 : List Value).length = x.2.2.1 * 1 ∧ ([(Value.int .i64 m)] ++ x.1.2.2 : List Value).length = x.1.2.1 * 1) (fun x => .tuple #[]) (fun x => (⟨x.1.1, [(Value.int .i64 m)] ++ x.1.2.2, 3, true⟩ :: ⟨x.2.1, [(Value.slice (some ⟨b, 0, none⟩) cap cap)] ++ x.2.2.2, 30, true⟩ :: ⟨kb, [(.slice (some ⟨x.2.1, 0, none⟩) 1 x.2.2.1), (.slice none 0 0), (.slice none 0 0), (.slice none 0 0), (.slice (some ⟨x.1.1, 0, none⟩) 1 x.1.2.1), (.slice none 0 0), (.slice none 0 0), (.slice none 0 0)], 41, true⟩ :: ⟨b, (mks m cap).map u32, 72, true⟩ :: R))) := by
  refine enterF (w0 := w0) (M := None) (L := (⟨kb, [(.slice none 0 0), (.slice none 0 0), (.slice none 0 0), (.slice none 0 0), (.slice none 0 0), (.slice none 0 0), (.slice none 0 0), (.slice none 0 0)], 41, true⟩ :: ⟨b, cs, 72, true⟩ :: R)) (n := 11) (l := [(0, (.pointer (some ⟨kb, 0, none⟩))), (1, (.agg #[(.int .i64 W), (.int .i64 H), (.slice (some ⟨b, 0, none⟩) n cap)])), (2, (.int .i64 m))]) Try.func21 rfl rfl (Args.cons rfl (Args.cons rfl (Args.cons rfl (Args.nil _)))) hp0 ?_
  refine GC.seq ?_
  refine GC.region ?_
  refine GL.step (Stp.box (cs := [(.int .i64 W), (.int .i64 H), (.slice (some ⟨b, 0, none⟩) n cap)]) rfl rfl (by decide)) (fun bq1 _ => ?_)
  refine GL.nil ?_
  refine GE.thenN ?_
  refine GC.region ?_
  refine GL.val (Ex.move rfl) (by decide) ?_
  refine GL.val (v := (.pointer (some ⟨bq1, 2, none⟩))) (Ex.cast (Ex.fieldAddr rfl Try.underlying32 rfl T.sz30 (by decide)) rfl) (by decide) ?_
  refine GL.val (Ex.load rfl T.ag30 (i := 0) rfl rfl) (by decide) ?_
  refine GL.val (Ex.move rfl) (by decide) ?_
  refine GL.step (Stp.call (vs := [(.pointer (some ⟨kb, 0, none⟩)), (.slice (some ⟨b, 0, none⟩) n cap), (.int .i64 m)]) rfl rfl T.own56 (by decide) (fun wc hw => book_s01 w0 _ kb m b n cap cs wc hcap hb (Hp.pickT (A := [⟨bq1, [(.int .i64 W), (.int .i64 H), (.slice (some ⟨b, 0, none⟩) n cap)], 32, true⟩, ⟨kb, [(.slice none 0 0), (.slice none 0 0), (.slice none 0 0), (.slice none 0 0), (.slice none 0 0), (.slice none 0 0), (.slice none 0 0), (.slice none 0 0)], 41, true⟩, ⟨b, cs, 72, true⟩]) (R := R) hw (idx := [1, 2, 0]) (by decide) rfl))) (fun xq2 hq3 => ?_)
  refine GL.nil ?_
  refine GC.end0 rfl (fun wN HN => ?_)
  exact HN.frm xq2 hq3 (by rfl) (ulC (ulC (ulC (ulC (ulS ulR)))))

set_option maxRecDepth 100000 in
set_option maxHeartbeats 1000000 in
theorem book_s10 (w0 : World) (R : List Blk) (kb : Nat) (m : Int) (n1 b1 c1 b2 c2 : Nat) (xs1 sp1 xs2 sp2 : List Value) (w : World)  (hn1 : n1 ≤ 1000) (hx1 : xs1.length = n1) (hx2 : xs2.length = n1) (hc1 : (xs1 ++ sp1).length = c1 * 1) (hc2 : (xs2 ++ sp2).length = c2 * 1) (hp0 : Hp None w0 (⟨kb, [(.slice (some ⟨b1, 0, none⟩) n1 c1), (.slice none 0 0), (.slice none 0 0), (.slice none 0 0), (.slice (some ⟨b2, 0, none⟩) n1 c2), (.slice none 0 0), (.slice none 0 0), (.slice none 0 0)], 41, true⟩ :: ⟨b1, xs1 ++ sp1, 30, true⟩ :: ⟨b2, xs2 ++ sp2, 3, true⟩ :: R) w) :
    Calls Try.prog 56 #[(.pointer (some ⟨kb, 0, none⟩)), (.slice none 0 0), (.int .i64 m)] w (Frm (σ := (Nat × Nat × List Value) × (Nat × Nat × List Value)) None w0 (fun x => (xs1 ++ [(Value.slice none 0 0)] ++ x.2.2.2 : List Value).length = x.2.2.1 * 1 ∧ (xs2 ++ [(Value.int .i64 m)] ++ x.1.2.2 : List Value).length = x.1.2.1 * 1) (fun x => .tuple #[]) (fun x => (⟨x.1.1, xs2 ++ [(Value.int .i64 m)] ++ x.1.2.2, 3, true⟩ :: ⟨x.2.1, xs1 ++ [(Value.slice none 0 0)] ++ x.2.2.2, 30, true⟩ :: ⟨kb, [(.slice (some ⟨x.2.1, 0, none⟩) (n1 + 1) x.2.2.1), (.slice none 0 0), (.slice none 0 0), (.slice none 0 0), (.slice (some ⟨x.1.1, 0, none⟩) (n1 + 1) x.1.2.1), (.slice none 0 0), (.slice none 0 0), (.slice none 0 0)], 41, true⟩ :: R))) := by
  refine enterF (w0 := w0) (M := None) (L := (⟨kb, [(.slice (some ⟨b1, 0, none⟩) n1 c1), (.slice none 0 0), (.slice none 0 0), (.slice none 0 0), (.slice (some ⟨b2, 0, none⟩) n1 c2), (.slice none 0 0), (.slice none 0 0), (.slice none 0 0)], 41, true⟩ :: ⟨b1, xs1 ++ sp1, 30, true⟩ :: ⟨b2, xs2 ++ sp2, 3, true⟩ :: R)) (n := 46) (l := [(0, (.pointer (some ⟨kb, 0, none⟩))), (1, (.slice none 0 0)), (2, (.int .i64 m))]) Try.func56 rfl rfl (Args.cons rfl (Args.cons rfl (Args.cons rfl (Args.nil _)))) hp0 ?_
  refine GC.seq ?_
  refine GC.region ?_
  refine GL.val (Ex.move rfl) (by decide) ?_
  refine GL.val (Ex.move rfl) (by decide) ?_
  refine GL.val (v := (.int .i64 0)) (Ex.cap rfl Try.underlying30) (by decide) ?_
  refine GL.val (v := (.slice none 0 0)) (Ex.sliceH (m := 0) rfl rfl Try.underlying30 T.sz72 rfl (Nat.le_refl _)) (by decide) ?_
  refine GL.val (Ex.assign rfl) (by decide) ?_
  refine GL.nil ?_
  refine GE.thenN ?_
  refine GC.seq ?_
  refine GC.seq ?_
  refine GC.region ?_
  refine GL.val (Ex.assign rfl) (by decide) ?_
  refine GL.nil ?_
  refine GE.thenN ?_
  refine GC.block ?_
  refine GC.unroll 1 ?_
  refine GE.round ?_
  refine GC.seq ?_
  refine GC.seq ?_
  refine GC.region ?_
  refine GL.val (Ex.move rfl) (by decide) ?_
  refine GL.val (Ex.move rfl) (by decide) ?_
  refine GL.val (v := (.int .i64 0)) (Ex.len rfl Try.underlying30) (by decide) ?_
  refine GL.val (v := (.bool false)) (Ex.cast (Ex.lss rfl rfl) rfl) (by decide) ?_
  refine GL.nil ?_
  refine GE.thenN ?_
  refine GC.cond rfl (fun hq1 => by cases hq1) (fun _ => ?_)
  refine GC.exit ?_
  refine GE.thenE ?_
  refine GE.thenE ?_
  refine GE.blockE ?_
  refine GE.thenN ?_
  refine GC.seq ?_
  refine GC.region ?_
  refine GL.val (Ex.move rfl) (by decide) ?_
  refine GL.val (Ex.move rfl) (by decide) ?_
  refine GL.val (v := (.pointer (some ⟨kb, 0, none⟩))) (Ex.nilCheck rfl) (by decide) ?_
  refine GL.val (v := (.pointer (some ⟨kb, 0, none⟩))) (Ex.cast (Ex.fieldAddr rfl Try.underlying41 rfl T.sz34 (by decide)) rfl) (by decide) ?_
  refine GL.val (Ex.load rfl T.ag34 (i := 0) rfl rfl) (by decide) ?_
  refine GL.val (Ex.move rfl) (by decide) ?_
  refine GL.step (Stp.buildSlice (cs := [(.slice none 0 0)]) (vs := [(0, (.slice none 0 0))]) Try.underlying34 T.zr30 T.sz30 rfl (by decide) (by decide) (by first | rfl | kernel_rfl) (by decide)) (fun bq2 _ => ?_)
  refine GL.step (Stp.appendOwn (i := 2) (xs := xs1) (sp := sp1) (vs := [(.slice none 0 0)]) (L1 := (⟨bq2, [(.slice none 0 0)], 30, true⟩ :: ⟨kb, [(.slice (some ⟨b1, 0, none⟩) n1 c1), (.slice none 0 0), (.slice none 0 0), (.slice none 0 0), (.slice (some ⟨b2, 0, none⟩) n1 c2), (.slice none 0 0), (.slice none 0 0), (.slice none 0 0)], 41, true⟩ :: ⟨b2, xs2 ++ sp2, 3, true⟩ :: R)) rfl rfl Try.underlying34 T.sz30 T.zr30 rfl T.by30 rfl (by omega) hc1 (fun wz hz => hz.rdOf (i := 0) rfl 0) rfl rfl (by omega) (by omega) rfl (by decide)) (fun xq3 hq4 => ?_)
  refine GL.val (v := (.pointer (some ⟨kb, 0, none⟩))) (Ex.nilCheck rfl) (by decide) ?_
  refine GL.val (v := (.pointer (some ⟨kb, 0, none⟩))) (Ex.cast (Ex.fieldAddr rfl Try.underlying41 rfl T.sz34 (by decide)) rfl) (by decide) ?_
  refine GL.step (Stp.st2 (cs' := [(.slice (some ⟨xq3.1, 0, none⟩) (n1 + 1) xq3.2.1), (.slice none 0 0), (.slice none 0 0), (.slice none 0 0), (.slice (some ⟨b2, 0, none⟩) n1 c2), (.slice none 0 0), (.slice none 0 0), (.slice none 0 0)]) rfl rfl rfl T.sz34 rfl rfl rfl) (fun _ _ => ?_)
  refine GL.nil ?_
  refine GE.thenN ?_
  refine GC.draw (⟨xq3.1, xs1 ++ [(.slice none 0 0)] ++ xq3.2.2, 30, true⟩ :: ⟨bq2, [(.slice none 0 0)], 30, true⟩ :: R) T.mixed (fuel := 13) rfl rfl ?_
  refine GH.take 0 (v := (.pointer (some ⟨kb, 0, none⟩))) rfl (by kernel_rfl) (by kernel_rfl) (by kernel_rfl) (fun _ _ _ h => h) (Ex.move rfl) (ulC (ulC (ulS (ulS ulR)))) (by decide) ?_
  refine GH.take 1 (v := (.pointer (some ⟨kb, 0, none⟩))) rfl (by kernel_rfl) (by kernel_rfl) (by kernel_rfl) (fun _ _ _ h => h) (Ex.move rfl) (ulC (ulC (ulS (ulS ulR)))) (by decide) ?_
  refine GH.take 6 (v := (.int .i64 m)) rfl (by kernel_rfl) (by kernel_rfl) (by kernel_rfl) (fun _ _ _ h => h) (Ex.move rfl) (ulC (ulC (ulS (ulS ulR)))) (by decide) ?_
  refine GH.many (rs := [2, 7, 9]) (by kernel_rfl) (by simp) ?_
  refine GHs.cons rfl (Ex.wp (v := (.pointer (some ⟨kb, 0, none⟩))) (Ex.nilCheck rfl) (by decide)) (fun _ => (ulC (ulC (ulS (ulS ulR))))) (fun _ _ => ?_) ?_
  · refine GH.take 3 (v := (.pointer (some ⟨kb, 4, none⟩))) rfl (by kernel_rfl) (by kernel_rfl) (by kernel_rfl) (fun _ _ _ h => h) (Ex.cast (Ex.fieldAddr rfl Try.underlying41 rfl T.sz39 (by decide)) rfl) (ulC (ulC (ulS (ulS ulR)))) (by decide) ?_
    refine GH.take 4 (v := (.pointer (some ⟨kb, 4, none⟩))) rfl (by kernel_rfl) (by kernel_rfl) (by kernel_rfl) (fun _ _ _ h => h) (Ex.cast (Ex.indexArr (m := 4) rfl rfl Try.underlying39 T.sz38 (by decide) (by decide)) rfl) (ulC (ulC (ulS (ulS ulR)))) (by decide) ?_
    refine GH.many (rs := [5, 7, 9]) (by kernel_rfl) (by simp) ?_
    refine GHs.cons rfl (Ex.wp (v := (.slice (some ⟨b2, 0, none⟩) n1 c2)) (Ex.load rfl T.ag38 (i := 2) rfl rfl) (by decide)) (fun _ => (ulC (ulC (ulS (ulS ulR))))) (fun _ _ => ?_) ?_
    · refine GH.many (rs := [7, 9]) (by kernel_rfl) (by simp) ?_
      refine GHs.cons rfl (Stp.buildSlice (cs := [(.int .i64 m)]) (vs := [(0, (.int .i64 m))]) Try.underlying38 T.zr3 T.sz3 rfl (by decide) (by decide) (by first | rfl | kernel_rfl) (by decide)) (fun _ => (ulS (ulC (ulC (ulS (ulS ulR)))))) (fun bq5 _ => ?_) ?_
      · refine GH.many (rs := [8, 9]) (by kernel_rfl) (by simp) ?_
        refine GHs.cons rfl (Stp.appendOwn (i := 4) (xs := xs2) (sp := sp2) (vs := [(.int .i64 m)]) (L1 := (⟨bq5, [(.int .i64 m)], 3, true⟩ :: ⟨xq3.1, xs1 ++ [(.slice none 0 0)] ++ xq3.2.2, 30, true⟩ :: ⟨bq2, [(.slice none 0 0)], 30, true⟩ :: ⟨kb, [(.slice (some ⟨xq3.1, 0, none⟩) (n1 + 1) xq3.2.1), (.slice none 0 0), (.slice none 0 0), (.slice none 0 0), (.slice (some ⟨b2, 0, none⟩) n1 c2), (.slice none 0 0), (.slice none 0 0), (.slice none 0 0)], 41, true⟩ :: R)) rfl rfl Try.underlying38 T.sz3 T.zr3 rfl T.by3 rfl (by omega) hc2 (fun wz hz => hz.rdOf (i := 0) rfl 0) rfl rfl (by omega) (by omega) rfl (by decide)) (fun _ => (ulS (ulS (ulC (ulC (ulS ulR)))))) (fun xq6 hq7 => ?_) ?_
        · refine GH.one 9 rfl (by kernel_rfl) (Ex.wp (v := (.pointer (some ⟨kb, 0, none⟩))) (Ex.nilCheck rfl) (by decide)) (fun _ => (ulS (ulS (ulC (ulC (ulS ulR)))))) (fun _ _ => ?_)
          refine GH.take 10 (v := (.pointer (some ⟨kb, 4, none⟩))) rfl (by kernel_rfl) (by kernel_rfl) (by kernel_rfl) (fun _ _ _ h => h) (Ex.cast (Ex.fieldAddr rfl Try.underlying41 rfl T.sz39 (by decide)) rfl) (ulS (ulS (ulC (ulC (ulS ulR))))) (by decide) ?_
          refine GH.take 11 (v := (.pointer (some ⟨kb, 4, none⟩))) rfl (by kernel_rfl) (by kernel_rfl) (by kernel_rfl) (fun _ _ _ h => h) (Ex.cast (Ex.indexArr (m := 4) rfl rfl Try.underlying39 T.sz38 (by decide) (by decide)) rfl) (ulS (ulS (ulC (ulC (ulS ulR))))) (by decide) ?_
          refine GH.one 12 rfl (by kernel_rfl) (Stp.st4 (cs' := [(.slice (some ⟨xq3.1, 0, none⟩) (n1 + 1) xq3.2.1), (.slice none 0 0), (.slice none 0 0), (.slice none 0 0), (.slice (some ⟨xq6.1, 0, none⟩) (n1 + 1) xq6.2.1), (.slice none 0 0), (.slice none 0 0), (.slice none 0 0)]) rfl rfl rfl T.sz38 rfl rfl rfl) (fun _ => (ulS (ulS (ulC (ulC (ulS ulR)))))) (fun _ _ => ?_)
          refine GH.done (by kernel_rfl) ?_
          refine GC.end0 rfl (fun wN HN => ?_)
          exact HN.frm (xq6, xq3) ⟨hq4.1, hq7.1⟩ (by rfl) (ulC (ulS (ulC (ulS (ulC ulR)))))
        refine GHs.cons rfl (Ex.wp (v := (.pointer (some ⟨kb, 0, none⟩))) (Ex.nilCheck rfl) (by decide)) (fun _ => (ulS (ulC (ulC (ulS (ulS ulR)))))) (fun _ _ => ?_) ?_
        · refine GH.take 10 (v := (.pointer (some ⟨kb, 4, none⟩))) rfl (by kernel_rfl) (by kernel_rfl) (by kernel_rfl) (fun _ _ _ h => h) (Ex.cast (Ex.fieldAddr rfl Try.underlying41 rfl T.sz39 (by decide)) rfl) (ulS (ulC (ulC (ulS (ulS ulR))))) (by decide) ?_
          refine GH.one 8 rfl (by kernel_rfl) (Stp.appendOwn (i := 4) (xs := xs2) (sp := sp2) (vs := [(.int .i64 m)]) (L1 := (⟨bq5, [(.int .i64 m)], 3, true⟩ :: ⟨xq3.1, xs1 ++ [(.slice none 0 0)] ++ xq3.2.2, 30, true⟩ :: ⟨bq2, [(.slice none 0 0)], 30, true⟩ :: ⟨kb, [(.slice (some ⟨xq3.1, 0, none⟩) (n1 + 1) xq3.2.1), (.slice none 0 0), (.slice none 0 0), (.slice none 0 0), (.slice (some ⟨b2, 0, none⟩) n1 c2), (.slice none 0 0), (.slice none 0 0), (.slice none 0 0)], 41, true⟩ :: R)) rfl rfl Try.underlying38 T.sz3 T.zr3 rfl T.by3 rfl (by omega) hc2 (fun wz hz => hz.rdOf (i := 0) rfl 0) rfl rfl (by omega) (by omega) rfl (by decide)) (fun _ => (ulS (ulS (ulC (ulC (ulS ulR)))))) (fun xq8 hq9 => ?_)
          refine GH.take 11 (v := (.pointer (some ⟨kb, 4, none⟩))) rfl (by kernel_rfl) (by kernel_rfl) (by kernel_rfl) (fun _ _ _ h => h) (Ex.cast (Ex.indexArr (m := 4) rfl rfl Try.underlying39 T.sz38 (by decide) (by decide)) rfl) (ulS (ulS (ulC (ulC (ulS ulR))))) (by decide) ?_
          refine GH.one 12 rfl (by kernel_rfl) (Stp.st4 (cs' := [(.slice (some ⟨xq3.1, 0, none⟩) (n1 + 1) xq3.2.1), (.slice none 0 0), (.slice none 0 0), (.slice none 0 0), (.slice (some ⟨xq8.1, 0, none⟩) (n1 + 1) xq8.2.1), (.slice none 0 0), (.slice none 0 0), (.slice none 0 0)]) rfl rfl rfl T.sz38 rfl rfl rfl) (fun _ => (ulS (ulS (ulC (ulC (ulS ulR)))))) (fun _ _ => ?_)
          refine GH.done (by kernel_rfl) ?_
          refine GC.end0 rfl (fun wN HN => ?_)
          exact HN.frm (xq8, xq3) ⟨hq4.1, hq9.1⟩ (by rfl) (ulC (ulS (ulC (ulS (ulC ulR)))))
        exact GHs.nil
      refine GHs.cons rfl (Ex.wp (v := (.pointer (some ⟨kb, 0, none⟩))) (Ex.nilCheck rfl) (by decide)) (fun _ => (ulC (ulC (ulS (ulS ulR))))) (fun _ _ => ?_) ?_
      · refine GH.take 10 (v := (.pointer (some ⟨kb, 4, none⟩))) rfl (by kernel_rfl) (by kernel_rfl) (by kernel_rfl) (fun _ _ _ h => h) (Ex.cast (Ex.fieldAddr rfl Try.underlying41 rfl T.sz39 (by decide)) rfl) (ulC (ulC (ulS (ulS ulR)))) (by decide) ?_
        refine GH.one 7 rfl (by kernel_rfl) (Stp.buildSlice (cs := [(.int .i64 m)]) (vs := [(0, (.int .i64 m))]) Try.underlying38 T.zr3 T.sz3 rfl (by decide) (by decide) (by first | rfl | kernel_rfl) (by decide)) (fun _ => (ulS (ulC (ulC (ulS (ulS ulR)))))) (fun bq10 _ => ?_)
        refine GH.one 8 rfl (by kernel_rfl) (Stp.appendOwn (i := 4) (xs := xs2) (sp := sp2) (vs := [(.int .i64 m)]) (L1 := (⟨bq10, [(.int .i64 m)], 3, true⟩ :: ⟨xq3.1, xs1 ++ [(.slice none 0 0)] ++ xq3.2.2, 30, true⟩ :: ⟨bq2, [(.slice none 0 0)], 30, true⟩ :: ⟨kb, [(.slice (some ⟨xq3.1, 0, none⟩) (n1 + 1) xq3.2.1), (.slice none 0 0), (.slice none 0 0), (.slice none 0 0), (.slice (some ⟨b2, 0, none⟩) n1 c2), (.slice none 0 0), (.slice none 0 0), (.slice none 0 0)], 41, true⟩ :: R)) rfl rfl Try.underlying38 T.sz3 T.zr3 rfl T.by3 rfl (by omega) hc2 (fun wz hz => hz.rdOf (i := 0) rfl 0) rfl rfl (by omega) (by omega) rfl (by decide)) (fun _ => (ulS (ulS (ulC (ulC (ulS ulR)))))) (fun xq11 hq12 => ?_)
        refine GH.take 11 (v := (.pointer (some ⟨kb, 4, none⟩))) rfl (by kernel_rfl) (by kernel_rfl) (by kernel_rfl) (fun _ _ _ h => h) (Ex.cast (Ex.indexArr (m := 4) rfl rfl Try.underlying39 T.sz38 (by decide) (by decide)) rfl) (ulS (ulS (ulC (ulC (ulS ulR))))) (by decide) ?_
        refine GH.one 12 rfl (by kernel_rfl) (Stp.st4 (cs' := [(.slice (some ⟨xq3.1, 0, none⟩) (n1 + 1) xq3.2.1), (.slice none 0 0), (.slice none 0 0), (.slice none 0 0), (.slice (some ⟨xq11.1, 0, none⟩) (n1 + 1) xq11.2.1), (.slice none 0 0), (.slice none 0 0), (.slice none 0 0)]) rfl rfl rfl T.sz38 rfl rfl rfl) (fun _ => (ulS (ulS (ulC (ulC (ulS ulR)))))) (fun _ _ => ?_)
        refine GH.done (by kernel_rfl) ?_
        refine GC.end0 rfl (fun wN HN => ?_)
        exact HN.frm (xq11, xq3) ⟨hq4.1, hq12.1⟩ (by rfl) (ulC (ulS (ulC (ulS (ulC ulR)))))
      exact GHs.nil
    refine GHs.cons rfl (Stp.buildSlice (cs := [(.int .i64 m)]) (vs := [(0, (.int .i64 m))]) Try.underlying38 T.zr3 T.sz3 rfl (by decide) (by decide) (by first | rfl | kernel_rfl) (by decide)) (fun _ => (ulS (ulC (ulC (ulS (ulS ulR)))))) (fun bq13 _ => ?_) ?_
    · refine GH.many (rs := [5, 9]) (by kernel_rfl) (by simp) ?_
      refine GHs.cons rfl (Ex.wp (v := (.slice (some ⟨b2, 0, none⟩) n1 c2)) (Ex.load rfl T.ag38 (i := 3) rfl rfl) (by decide)) (fun _ => (ulS (ulC (ulC (ulS (ulS ulR)))))) (fun _ _ => ?_) ?_
      · refine GH.many (rs := [8, 9]) (by kernel_rfl) (by simp) ?_
        refine GHs.cons rfl (Stp.appendOwn (i := 4) (xs := xs2) (sp := sp2) (vs := [(.int .i64 m)]) (L1 := (⟨bq13, [(.int .i64 m)], 3, true⟩ :: ⟨xq3.1, xs1 ++ [(.slice none 0 0)] ++ xq3.2.2, 30, true⟩ :: ⟨bq2, [(.slice none 0 0)], 30, true⟩ :: ⟨kb, [(.slice (some ⟨xq3.1, 0, none⟩) (n1 + 1) xq3.2.1), (.slice none 0 0), (.slice none 0 0), (.slice none 0 0), (.slice (some ⟨b2, 0, none⟩) n1 c2), (.slice none 0 0), (.slice none 0 0), (.slice none 0 0)], 41, true⟩ :: R)) rfl rfl Try.underlying38 T.sz3 T.zr3 rfl T.by3 rfl (by omega) hc2 (fun wz hz => hz.rdOf (i := 0) rfl 0) rfl rfl (by omega) (by omega) rfl (by decide)) (fun _ => (ulS (ulS (ulC (ulC (ulS ulR)))))) (fun xq14 hq15 => ?_) ?_
        · refine GH.one 9 rfl (by kernel_rfl) (Ex.wp (v := (.pointer (some ⟨kb, 0, none⟩))) (Ex.nilCheck rfl) (by decide)) (fun _ => (ulS (ulS (ulC (ulC (ulS ulR)))))) (fun _ _ => ?_)
          refine GH.take 10 (v := (.pointer (some ⟨kb, 4, none⟩))) rfl (by kernel_rfl) (by kernel_rfl) (by kernel_rfl) (fun _ _ _ h => h) (Ex.cast (Ex.fieldAddr rfl Try.underlying41 rfl T.sz39 (by decide)) rfl) (ulS (ulS (ulC (ulC (ulS ulR))))) (by decide) ?_
          refine GH.take 11 (v := (.pointer (some ⟨kb, 4, none⟩))) rfl (by kernel_rfl) (by kernel_rfl) (by kernel_rfl) (fun _ _ _ h => h) (Ex.cast (Ex.indexArr (m := 4) rfl rfl Try.underlying39 T.sz38 (by decide) (by decide)) rfl) (ulS (ulS (ulC (ulC (ulS ulR))))) (by decide) ?_
          refine GH.one 12 rfl (by kernel_rfl) (Stp.st4 (cs' := [(.slice (some ⟨xq3.1, 0, none⟩) (n1 + 1) xq3.2.1), (.slice none 0 0), (.slice none 0 0), (.slice none 0 0), (.slice (some ⟨xq14.1, 0, none⟩) (n1 + 1) xq14.2.1), (.slice none 0 0), (.slice none 0 0), (.slice none 0 0)]) rfl rfl rfl T.sz38 rfl rfl rfl) (fun _ => (ulS (ulS (ulC (ulC (ulS ulR)))))) (fun _ _ => ?_)
          refine GH.done (by kernel_rfl) ?_
          refine GC.end0 rfl (fun wN HN => ?_)
          exact HN.frm (xq14, xq3) ⟨hq4.1, hq15.1⟩ (by rfl) (ulC (ulS (ulC (ulS (ulC ulR)))))
        refine GHs.cons rfl (Ex.wp (v := (.pointer (some ⟨kb, 0, none⟩))) (Ex.nilCheck rfl) (by decide)) (fun _ => (ulS (ulC (ulC (ulS (ulS ulR)))))) (fun _ _ => ?_) ?_
        · refine GH.take 10 (v := (.pointer (some ⟨kb, 4, none⟩))) rfl (by kernel_rfl) (by kernel_rfl) (by kernel_rfl) (fun _ _ _ h => h) (Ex.cast (Ex.fieldAddr rfl Try.underlying41 rfl T.sz39 (by decide)) rfl) (ulS (ulC (ulC (ulS (ulS ulR))))) (by decide) ?_
          refine GH.one 8 rfl (by kernel_rfl) (Stp.appendOwn (i := 4) (xs := xs2) (sp := sp2) (vs := [(.int .i64 m)]) (L1 := (⟨bq13, [(.int .i64 m)], 3, true⟩ :: ⟨xq3.1, xs1 ++ [(.slice none 0 0)] ++ xq3.2.2, 30, true⟩ :: ⟨bq2, [(.slice none 0 0)], 30, true⟩ :: ⟨kb, [(.slice (some ⟨xq3.1, 0, none⟩) (n1 + 1) xq3.2.1), (.slice none 0 0), (.slice none 0 0), (.slice none 0 0), (.slice (some ⟨b2, 0, none⟩) n1 c2), (.slice none 0 0), (.slice none 0 0), (.slice none 0 0)], 41, true⟩ :: R)) rfl rfl Try.underlying38 T.sz3 T.zr3 rfl T.by3 rfl (by omega) hc2 (fun wz hz => hz.rdOf (i := 0) rfl 0) rfl rfl (by omega) (by omega) rfl (by decide)) (fun _ => (ulS (ulS (ulC (ulC (ulS ulR)))))) (fun xq16 hq17 => ?_)
          refine GH.take 11 (v := (.pointer (some ⟨kb, 4, none⟩))) rfl (by kernel_rfl) (by kernel_rfl) (by kernel_rfl) (fun _ _ _ h => h) (Ex.cast (Ex.indexArr (m := 4) rfl rfl Try.underlying39 T.sz38 (by decide) (by decide)) rfl) (ulS (ulS (ulC (ulC (ulS ulR))))) (by decide) ?_
          refine GH.one 12 rfl (by kernel_rfl) (Stp.st4 (cs' := [(.slice (some ⟨xq3.1, 0, none⟩) (n1 + 1) xq3.2.1), (.slice none 0 0), (.slice none 0 0), (.slice none 0 0), (.slice (some ⟨xq16.1, 0, none⟩) (n1 + 1) xq16.2.1), (.slice none 0 0), (.slice none 0 0), (.slice none 0 0)]) rfl rfl rfl T.sz38 rfl rfl rfl) (fun _ => (ulS (ulS (ulC (ulC (ulS ulR)))))) (fun _ _ => ?_)
          refine GH.done (by kernel_rfl) ?_
          refine GC.end0 rfl (fun wN HN => ?_)
          exact HN.frm (xq16, xq3) ⟨hq4.1, hq17.1⟩ (by rfl) (ulC (ulS (ulC (ulS (ulC ulR)))))
        exact GHs.nil
      refine GHs.cons rfl (Ex.wp (v := (.pointer (some ⟨kb, 0, none⟩))) (Ex.nilCheck rfl) (by decide)) (fun _ => (ulS (ulC (ulC (ulS (ulS ulR)))))) (fun _ _ => ?_) ?_
      · refine GH.take 10 (v := (.pointer (some ⟨kb, 4, none⟩))) rfl (by kernel_rfl) (by kernel_rfl) (by kernel_rfl) (fun _ _ _ h => h) (Ex.cast (Ex.fieldAddr rfl Try.underlying41 rfl T.sz39 (by decide)) rfl) (ulS (ulC (ulC (ulS (ulS ulR))))) (by decide) ?_
        refine GH.one 5 rfl (by kernel_rfl) (Ex.wp (v := (.slice (some ⟨b2, 0, none⟩) n1 c2)) (Ex.load rfl T.ag38 (i := 3) rfl rfl) (by decide)) (fun _ => (ulS (ulC (ulC (ulS (ulS ulR)))))) (fun _ _ => ?_)
        refine GH.one 8 rfl (by kernel_rfl) (Stp.appendOwn (i := 4) (xs := xs2) (sp := sp2) (vs := [(.int .i64 m)]) (L1 := (⟨bq13, [(.int .i64 m)], 3, true⟩ :: ⟨xq3.1, xs1 ++ [(.slice none 0 0)] ++ xq3.2.2, 30, true⟩ :: ⟨bq2, [(.slice none 0 0)], 30, true⟩ :: ⟨kb, [(.slice (some ⟨xq3.1, 0, none⟩) (n1 + 1) xq3.2.1), (.slice none 0 0), (.slice none 0 0), (.slice none 0 0), (.slice (some ⟨b2, 0, none⟩) n1 c2), (.slice none 0 0), (.slice none 0 0), (.slice none 0 0)], 41, true⟩ :: R)) rfl rfl Try.underlying38 T.sz3 T.zr3 rfl T.by3 rfl (by omega) hc2 (fun wz hz => hz.rdOf (i := 0) rfl 0) rfl rfl (by omega) (by omega) rfl (by decide)) (fun _ => (ulS (ulS (ulC (ulC (ulS ulR)))))) (fun xq18 hq19 => ?_)
        refine GH.take 11 (v := (.pointer (some ⟨kb, 4, none⟩))) rfl (by kernel_rfl) (by kernel_rfl) (by kernel_rfl) (fun _ _ _ h => h) (Ex.cast (Ex.indexArr (m := 4) rfl rfl Try.underlying39 T.sz38 (by decide) (by decide)) rfl) (ulS (ulS (ulC (ulC (ulS ulR))))) (by decide) ?_
        refine GH.one 12 rfl (by kernel_rfl) (Stp.st4 (cs' := [(.slice (some ⟨xq3.1, 0, none⟩) (n1 + 1) xq3.2.1), (.slice none 0 0), (.slice none 0 0), (.slice none 0 0), (.slice (some ⟨xq18.1, 0, none⟩) (n1 + 1) xq18.2.1), (.slice none 0 0), (.slice none 0 0), (.slice none 0 0)]) rfl rfl rfl T.sz38 rfl rfl rfl) (fun _ => (ulS (ulS (ulC (ulC (ulS ulR)))))) (fun _ _ => ?_)
        refine GH.done (by kernel_rfl) ?_
        refine GC.end0 rfl (fun wN HN => ?_)
        exact HN.frm (xq18, xq3) ⟨hq4.1, hq19.1⟩ (by rfl) (ulC (ulS (ulC (ulS (ulC ulR)))))
      exact GHs.nil
    refine GHs.cons rfl (Ex.wp (v := (.pointer (some ⟨kb, 0, none⟩))) (Ex.nilCheck rfl) (by decide)) (fun _ => (ulC (ulC (ulS (ulS ulR))))) (fun _ _ => ?_) ?_
    · refine GH.take 10 (v := (.pointer (some ⟨kb, 4, none⟩))) rfl (by kernel_rfl) (by kernel_rfl) (by kernel_rfl) (fun _ _ _ h => h) (Ex.cast (Ex.fieldAddr rfl Try.underlying41 rfl T.sz39 (by decide)) rfl) (ulC (ulC (ulS (ulS ulR)))) (by decide) ?_
      refine GH.many (rs := [5, 7]) (by kernel_rfl) (by simp) ?_
      refine GHs.cons rfl (Ex.wp (v := (.slice (some ⟨b2, 0, none⟩) n1 c2)) (Ex.load rfl T.ag38 (i := 2) rfl rfl) (by decide)) (fun _ => (ulC (ulC (ulS (ulS ulR))))) (fun _ _ => ?_) ?_
      · refine GH.one 7 rfl (by kernel_rfl) (Stp.buildSlice (cs := [(.int .i64 m)]) (vs := [(0, (.int .i64 m))]) Try.underlying38 T.zr3 T.sz3 rfl (by decide) (by decide) (by first | rfl | kernel_rfl) (by decide)) (fun _ => (ulS (ulC (ulC (ulS (ulS ulR)))))) (fun bq20 _ => ?_)
        refine GH.one 8 rfl (by kernel_rfl) (Stp.appendOwn (i := 4) (xs := xs2) (sp := sp2) (vs := [(.int .i64 m)]) (L1 := (⟨bq20, [(.int .i64 m)], 3, true⟩ :: ⟨xq3.1, xs1 ++ [(.slice none 0 0)] ++ xq3.2.2, 30, true⟩ :: ⟨bq2, [(.slice none 0 0)], 30, true⟩ :: ⟨kb, [(.slice (some ⟨xq3.1, 0, none⟩) (n1 + 1) xq3.2.1), (.slice none 0 0), (.slice none 0 0), (.slice none 0 0), (.slice (some ⟨b2, 0, none⟩) n1 c2), (.slice none 0 0), (.slice none 0 0), (.slice none 0 0)], 41, true⟩ :: R)) rfl rfl Try.underlying38 T.sz3 T.zr3 rfl T.by3 rfl (by omega) hc2 (fun wz hz => hz.rdOf (i := 0) rfl 0) rfl rfl (by omega) (by omega) rfl (by decide)) (fun _ => (ulS (ulS (ulC (ulC (ulS ulR)))))) (fun xq21 hq22 => ?_)
        refine GH.take 11 (v := (.pointer (some ⟨kb, 4, none⟩))) rfl (by kernel_rfl) (by kernel_rfl) (by kernel_rfl) (fun _ _ _ h => h) (Ex.cast (Ex.indexArr (m := 4) rfl rfl Try.underlying39 T.sz38 (by decide) (by decide)) rfl) (ulS (ulS (ulC (ulC (ulS ulR))))) (by decide) ?_
        refine GH.one 12 rfl (by kernel_rfl) (Stp.st4 (cs' := [(.slice (some ⟨xq3.1, 0, none⟩) (n1 + 1) xq3.2.1), (.slice none 0 0), (.slice none 0 0), (.slice none 0 0), (.slice (some ⟨xq21.1, 0, none⟩) (n1 + 1) xq21.2.1), (.slice none 0 0), (.slice none 0 0), (.slice none 0 0)]) rfl rfl rfl T.sz38 rfl rfl rfl) (fun _ => (ulS (ulS (ulC (ulC (ulS ulR)))))) (fun _ _ => ?_)
        refine GH.done (by kernel_rfl) ?_
        refine GC.end0 rfl (fun wN HN => ?_)
        exact HN.frm (xq21, xq3) ⟨hq4.1, hq22.1⟩ (by rfl) (ulC (ulS (ulC (ulS (ulC ulR)))))
      refine GHs.cons rfl (Stp.buildSlice (cs := [(.int .i64 m)]) (vs := [(0, (.int .i64 m))]) Try.underlying38 T.zr3 T.sz3 rfl (by decide) (by decide) (by first | rfl | kernel_rfl) (by decide)) (fun _ => (ulS (ulC (ulC (ulS (ulS ulR)))))) (fun bq23 _ => ?_) ?_
      · refine GH.one 5 rfl (by kernel_rfl) (Ex.wp (v := (.slice (some ⟨b2, 0, none⟩) n1 c2)) (Ex.load rfl T.ag38 (i := 3) rfl rfl) (by decide)) (fun _ => (ulS (ulC (ulC (ulS (ulS ulR)))))) (fun _ _ => ?_)
        refine GH.one 8 rfl (by kernel_rfl) (Stp.appendOwn (i := 4) (xs := xs2) (sp := sp2) (vs := [(.int .i64 m)]) (L1 := (⟨bq23, [(.int .i64 m)], 3, true⟩ :: ⟨xq3.1, xs1 ++ [(.slice none 0 0)] ++ xq3.2.2, 30, true⟩ :: ⟨bq2, [(.slice none 0 0)], 30, true⟩ :: ⟨kb, [(.slice (some ⟨xq3.1, 0, none⟩) (n1 + 1) xq3.2.1), (.slice none 0 0), (.slice none 0 0), (.slice none 0 0), (.slice (some ⟨b2, 0, none⟩) n1 c2), (.slice none 0 0), (.slice none 0 0), (.slice none 0 0)], 41, true⟩ :: R)) rfl rfl Try.underlying38 T.sz3 T.zr3 rfl T.by3 rfl (by omega) hc2 (fun wz hz => hz.rdOf (i := 0) rfl 0) rfl rfl (by omega) (by omega) rfl (by decide)) (fun _ => (ulS (ulS (ulC (ulC (ulS ulR)))))) (fun xq24 hq25 => ?_)
        refine GH.take 11 (v := (.pointer (some ⟨kb, 4, none⟩))) rfl (by kernel_rfl) (by kernel_rfl) (by kernel_rfl) (fun _ _ _ h => h) (Ex.cast (Ex.indexArr (m := 4) rfl rfl Try.underlying39 T.sz38 (by decide) (by decide)) rfl) (ulS (ulS (ulC (ulC (ulS ulR))))) (by decide) ?_
        refine GH.one 12 rfl (by kernel_rfl) (Stp.st4 (cs' := [(.slice (some ⟨xq3.1, 0, none⟩) (n1 + 1) xq3.2.1), (.slice none 0 0), (.slice none 0 0), (.slice none 0 0), (.slice (some ⟨xq24.1, 0, none⟩) (n1 + 1) xq24.2.1), (.slice none 0 0), (.slice none 0 0), (.slice none 0 0)]) rfl rfl rfl T.sz38 rfl rfl rfl) (fun _ => (ulS (ulS (ulC (ulC (ulS ulR)))))) (fun _ _ => ?_)
        refine GH.done (by kernel_rfl) ?_
        refine GC.end0 rfl (fun wN HN => ?_)
        exact HN.frm (xq24, xq3) ⟨hq4.1, hq25.1⟩ (by rfl) (ulC (ulS (ulC (ulS (ulC ulR)))))
      exact GHs.nil
    exact GHs.nil
  refine GHs.cons rfl (Stp.buildSlice (cs := [(.int .i64 m)]) (vs := [(0, (.int .i64 m))]) Try.underlying38 T.zr3 T.sz3 rfl (by decide) (by decide) (by first | rfl | kernel_rfl) (by decide)) (fun _ => (ulS (ulC (ulC (ulS (ulS ulR)))))) (fun bq26 _ => ?_) ?_
  · refine GH.many (rs := [2, 9]) (by kernel_rfl) (by simp) ?_
    refine GHs.cons rfl (Ex.wp (v := (.pointer (some ⟨kb, 0, none⟩))) (Ex.nilCheck rfl) (by decide)) (fun _ => (ulS (ulC (ulC (ulS (ulS ulR)))))) (fun _ _ => ?_) ?_
    · refine GH.take 3 (v := (.pointer (some ⟨kb, 4, none⟩))) rfl (by kernel_rfl) (by kernel_rfl) (by kernel_rfl) (fun _ _ _ h => h) (Ex.cast (Ex.fieldAddr rfl Try.underlying41 rfl T.sz39 (by decide)) rfl) (ulS (ulC (ulC (ulS (ulS ulR))))) (by decide) ?_
      refine GH.take 4 (v := (.pointer (some ⟨kb, 4, none⟩))) rfl (by kernel_rfl) (by kernel_rfl) (by kernel_rfl) (fun _ _ _ h => h) (Ex.cast (Ex.indexArr (m := 4) rfl rfl Try.underlying39 T.sz38 (by decide) (by decide)) rfl) (ulS (ulC (ulC (ulS (ulS ulR))))) (by decide) ?_
      refine GH.many (rs := [5, 9]) (by kernel_rfl) (by simp) ?_
      refine GHs.cons rfl (Ex.wp (v := (.slice (some ⟨b2, 0, none⟩) n1 c2)) (Ex.load rfl T.ag38 (i := 3) rfl rfl) (by decide)) (fun _ => (ulS (ulC (ulC (ulS (ulS ulR)))))) (fun _ _ => ?_) ?_
      · refine GH.many (rs := [8, 9]) (by kernel_rfl) (by simp) ?_
        refine GHs.cons rfl (Stp.appendOwn (i := 4) (xs := xs2) (sp := sp2) (vs := [(.int .i64 m)]) (L1 := (⟨bq26, [(.int .i64 m)], 3, true⟩ :: ⟨xq3.1, xs1 ++ [(.slice none 0 0)] ++ xq3.2.2, 30, true⟩ :: ⟨bq2, [(.slice none 0 0)], 30, true⟩ :: ⟨kb, [(.slice (some ⟨xq3.1, 0, none⟩) (n1 + 1) xq3.2.1), (.slice none 0 0), (.slice none 0 0), (.slice none 0 0), (.slice (some ⟨b2, 0, none⟩) n1 c2), (.slice none 0 0), (.slice none 0 0), (.slice none 0 0)], 41, true⟩ :: R)) rfl rfl Try.underlying38 T.sz3 T.zr3 rfl T.by3 rfl (by omega) hc2 (fun wz hz => hz.rdOf (i := 0) rfl 0) rfl rfl (by omega) (by omega) rfl (by decide)) (fun _ => (ulS (ulS (ulC (ulC (ulS ulR)))))) (fun xq27 hq28 => ?_) ?_
        · refine GH.one 9 rfl (by kernel_rfl) (Ex.wp (v := (.pointer (some ⟨kb, 0, none⟩))) (Ex.nilCheck rfl) (by decide)) (fun _ => (ulS (ulS (ulC (ulC (ulS ulR)))))) (fun _ _ => ?_)
          refine GH.take 10 (v := (.pointer (some ⟨kb, 4, none⟩))) rfl (by kernel_rfl) (by kernel_rfl) (by kernel_rfl) (fun _ _ _ h => h) (Ex.cast (Ex.fieldAddr rfl Try.underlying41 rfl T.sz39 (by decide)) rfl) (ulS (ulS (ulC (ulC (ulS ulR))))) (by decide) ?_
          refine GH.take 11 (v := (.pointer (some ⟨kb, 4, none⟩))) rfl (by kernel_rfl) (by kernel_rfl) (by kernel_rfl) (fun _ _ _ h => h) (Ex.cast (Ex.indexArr (m := 4) rfl rfl Try.underlying39 T.sz38 (by decide) (by decide)) rfl) (ulS (ulS (ulC (ulC (ulS ulR))))) (by decide) ?_
          refine GH.one 12 rfl (by kernel_rfl) (Stp.st4 (cs' := [(.slice (some ⟨xq3.1, 0, none⟩) (n1 + 1) xq3.2.1), (.slice none 0 0), (.slice none 0 0), (.slice none 0 0), (.slice (some ⟨xq27.1, 0, none⟩) (n1 + 1) xq27.2.1), (.slice none 0 0), (.slice none 0 0), (.slice none 0 0)]) rfl rfl rfl T.sz38 rfl rfl rfl) (fun _ => (ulS (ulS (ulC (ulC (ulS ulR)))))) (fun _ _ => ?_)
          refine GH.done (by kernel_rfl) ?_
          refine GC.end0 rfl (fun wN HN => ?_)
          exact HN.frm (xq27, xq3) ⟨hq4.1, hq28.1⟩ (by rfl) (ulC (ulS (ulC (ulS (ulC ulR)))))
        refine GHs.cons rfl (Ex.wp (v := (.pointer (some ⟨kb, 0, none⟩))) (Ex.nilCheck rfl) (by decide)) (fun _ => (ulS (ulC (ulC (ulS (ulS ulR)))))) (fun _ _ => ?_) ?_
        · refine GH.take 10 (v := (.pointer (some ⟨kb, 4, none⟩))) rfl (by kernel_rfl) (by kernel_rfl) (by kernel_rfl) (fun _ _ _ h => h) (Ex.cast (Ex.fieldAddr rfl Try.underlying41 rfl T.sz39 (by decide)) rfl) (ulS (ulC (ulC (ulS (ulS ulR))))) (by decide) ?_
          refine GH.one 8 rfl (by kernel_rfl) (Stp.appendOwn (i := 4) (xs := xs2) (sp := sp2) (vs := [(.int .i64 m)]) (L1 := (⟨bq26, [(.int .i64 m)], 3, true⟩ :: ⟨xq3.1, xs1 ++ [(.slice none 0 0)] ++ xq3.2.2, 30, true⟩ :: ⟨bq2, [(.slice none 0 0)], 30, true⟩ :: ⟨kb, [(.slice (some ⟨xq3.1, 0, none⟩) (n1 + 1) xq3.2.1), (.slice none 0 0), (.slice none 0 0), (.slice none 0 0), (.slice (some ⟨b2, 0, none⟩) n1 c2), (.slice none 0 0), (.slice none 0 0), (.slice none 0 0)], 41, true⟩ :: R)) rfl rfl Try.underlying38 T.sz3 T.zr3 rfl T.by3 rfl (by omega) hc2 (fun wz hz => hz.rdOf (i := 0) rfl 0) rfl rfl (by omega) (by omega) rfl (by decide)) (fun _ => (ulS (ulS (ulC (ulC (ulS ulR)))))) (fun xq29 hq30 => ?_)
          refine GH.take 11 (v := (.pointer (some ⟨kb, 4, none⟩))) rfl (by kernel_rfl) (by kernel_rfl) (by kernel_rfl) (fun _ _ _ h => h) (Ex.cast (Ex.indexArr (m := 4) rfl rfl Try.underlying39 T.sz38 (by decide) (by decide)) rfl) (ulS (ulS (ulC (ulC (ulS ulR))))) (by decide) ?_
          refine GH.one 12 rfl (by kernel_rfl) (Stp.st4 (cs' := [(.slice (some ⟨xq3.1, 0, none⟩) (n1 + 1) xq3.2.1), (.slice none 0 0), (.slice none 0 0), (.slice none 0 0), (.slice (some ⟨xq29.1, 0, none⟩) (n1 + 1) xq29.2.1), (.slice none 0 0), (.slice none 0 0), (.slice none 0 0)]) rfl rfl rfl T.sz38 rfl rfl rfl) (fun _ => (ulS (ulS (ulC (ulC (ulS ulR)))))) (fun _ _ => ?_)
          refine GH.done (by kernel_rfl) ?_
          refine GC.end0 rfl (fun wN HN => ?_)
          exact HN.frm (xq29, xq3) ⟨hq4.1, hq30.1⟩ (by rfl) (ulC (ulS (ulC (ulS (ulC ulR)))))
        exact GHs.nil
      refine GHs.cons rfl (Ex.wp (v := (.pointer (some ⟨kb, 0, none⟩))) (Ex.nilCheck rfl) (by decide)) (fun _ => (ulS (ulC (ulC (ulS (ulS ulR)))))) (fun _ _ => ?_) ?_
      · refine GH.take 10 (v := (.pointer (some ⟨kb, 4, none⟩))) rfl (by kernel_rfl) (by kernel_rfl) (by kernel_rfl) (fun _ _ _ h => h) (Ex.cast (Ex.fieldAddr rfl Try.underlying41 rfl T.sz39 (by decide)) rfl) (ulS (ulC (ulC (ulS (ulS ulR))))) (by decide) ?_
        refine GH.one 5 rfl (by kernel_rfl) (Ex.wp (v := (.slice (some ⟨b2, 0, none⟩) n1 c2)) (Ex.load rfl T.ag38 (i := 3) rfl rfl) (by decide)) (fun _ => (ulS (ulC (ulC (ulS (ulS ulR)))))) (fun _ _ => ?_)
        refine GH.one 8 rfl (by kernel_rfl) (Stp.appendOwn (i := 4) (xs := xs2) (sp := sp2) (vs := [(.int .i64 m)]) (L1 := (⟨bq26, [(.int .i64 m)], 3, true⟩ :: ⟨xq3.1, xs1 ++ [(.slice none 0 0)] ++ xq3.2.2, 30, true⟩ :: ⟨bq2, [(.slice none 0 0)], 30, true⟩ :: ⟨kb, [(.slice (some ⟨xq3.1, 0, none⟩) (n1 + 1) xq3.2.1), (.slice none 0 0), (.slice none 0 0), (.slice none 0 0), (.slice (some ⟨b2, 0, none⟩) n1 c2), (.slice none 0 0), (.slice none 0 0), (.slice none 0 0)], 41, true⟩ :: R)) rfl rfl Try.underlying38 T.sz3 T.zr3 rfl T.by3 rfl (by omega) hc2 (fun wz hz => hz.rdOf (i := 0) rfl 0) rfl rfl (by omega) (by omega) rfl (by decide)) (fun _ => (ulS (ulS (ulC (ulC (ulS ulR)))))) (fun xq31 hq32 => ?_)
        refine GH.take 11 (v := (.pointer (some ⟨kb, 4, none⟩))) rfl (by kernel_rfl) (by kernel_rfl) (by kernel_rfl) (fun _ _ _ h => h) (Ex.cast (Ex.indexArr (m := 4) rfl rfl Try.underlying39 T.sz38 (by decide) (by decide)) rfl) (ulS (ulS (ulC (ulC (ulS ulR))))) (by decide) ?_
        refine GH.one 12 rfl (by kernel_rfl) (Stp.st4 (cs' := [(.slice (some ⟨xq3.1, 0, none⟩) (n1 + 1) xq3.2.1), (.slice none 0 0), (.slice none 0 0), (.slice none 0 0), (.slice (some ⟨xq31.1, 0, none⟩) (n1 + 1) xq31.2.1), (.slice none 0 0), (.slice none 0 0), (.slice none 0 0)]) rfl rfl rfl T.sz38 rfl rfl rfl) (fun _ => (ulS (ulS (ulC (ulC (ulS ulR)))))) (fun _ _ => ?_)
        refine GH.done (by kernel_rfl) ?_
        refine GC.end0 rfl (fun wN HN => ?_)
        exact HN.frm (xq31, xq3) ⟨hq4.1, hq32.1⟩ (by rfl) (ulC (ulS (ulC (ulS (ulC ulR)))))
      exact GHs.nil
    refine GHs.cons rfl (Ex.wp (v := (.pointer (some ⟨kb, 0, none⟩))) (Ex.nilCheck rfl) (by decide)) (fun _ => (ulS (ulC (ulC (ulS (ulS ulR)))))) (fun _ _ => ?_) ?_
    · refine GH.take 10 (v := (.pointer (some ⟨kb, 4, none⟩))) rfl (by kernel_rfl) (by kernel_rfl) (by kernel_rfl) (fun _ _ _ h => h) (Ex.cast (Ex.fieldAddr rfl Try.underlying41 rfl T.sz39 (by decide)) rfl) (ulS (ulC (ulC (ulS (ulS ulR))))) (by decide) ?_
      refine GH.one 2 rfl (by kernel_rfl) (Ex.wp (v := (.pointer (some ⟨kb, 0, none⟩))) (Ex.nilCheck rfl) (by decide)) (fun _ => (ulS (ulC (ulC (ulS (ulS ulR)))))) (fun _ _ => ?_)
      refine GH.take 3 (v := (.pointer (some ⟨kb, 4, none⟩))) rfl (by kernel_rfl) (by kernel_rfl) (by kernel_rfl) (fun _ _ _ h => h) (Ex.cast (Ex.fieldAddr rfl Try.underlying41 rfl T.sz39 (by decide)) rfl) (ulS (ulC (ulC (ulS (ulS ulR))))) (by decide) ?_
      refine GH.take 4 (v := (.pointer (some ⟨kb, 4, none⟩))) rfl (by kernel_rfl) (by kernel_rfl) (by kernel_rfl) (fun _ _ _ h => h) (Ex.cast (Ex.indexArr (m := 4) rfl rfl Try.underlying39 T.sz38 (by decide) (by decide)) rfl) (ulS (ulC (ulC (ulS (ulS ulR))))) (by decide) ?_
      refine GH.one 5 rfl (by kernel_rfl) (Ex.wp (v := (.slice (some ⟨b2, 0, none⟩) n1 c2)) (Ex.load rfl T.ag38 (i := 3) rfl rfl) (by decide)) (fun _ => (ulS (ulC (ulC (ulS (ulS ulR)))))) (fun _ _ => ?_)
      refine GH.one 8 rfl (by kernel_rfl) (Stp.appendOwn (i := 4) (xs := xs2) (sp := sp2) (vs := [(.int .i64 m)]) (L1 := (⟨bq26, [(.int .i64 m)], 3, true⟩ :: ⟨xq3.1, xs1 ++ [(.slice none 0 0)] ++ xq3.2.2, 30, true⟩ :: ⟨bq2, [(.slice none 0 0)], 30, true⟩ :: ⟨kb, [(.slice (some ⟨xq3.1, 0, none⟩) (n1 + 1) xq3.2.1), (.slice none 0 0), (.slice none 0 0), (.slice none 0 0), (.slice (some ⟨b2, 0, none⟩) n1 c2), (.slice none 0 0), (.slice none 0 0), (.slice none 0 0)], 41, true⟩ :: R)) rfl rfl Try.underlying38 T.sz3 T.zr3 rfl T.by3 rfl (by omega) hc2 (fun wz hz => hz.rdOf (i := 0) rfl 0) rfl rfl (by omega) (by omega) rfl (by decide)) (fun _ => (ulS (ulS (ulC (ulC (ulS ulR)))))) (fun xq33 hq34 => ?_)
      refine GH.take 11 (v := (.pointer (some ⟨kb, 4, none⟩))) rfl (by kernel_rfl) (by kernel_rfl) (by kernel_rfl) (fun _ _ _ h => h) (Ex.cast (Ex.indexArr (m := 4) rfl rfl Try.underlying39 T.sz38 (by decide) (by decide)) rfl) (ulS (ulS (ulC (ulC (ulS ulR))))) (by decide) ?_
      refine GH.one 12 rfl (by kernel_rfl) (Stp.st4 (cs' := [(.slice (some ⟨xq3.1, 0, none⟩) (n1 + 1) xq3.2.1), (.slice none 0 0), (.slice none 0 0), (.slice none 0 0), (.slice (some ⟨xq33.1, 0, none⟩) (n1 + 1) xq33.2.1), (.slice none 0 0), (.slice none 0 0), (.slice none 0 0)]) rfl rfl rfl T.sz38 rfl rfl rfl) (fun _ => (ulS (ulS (ulC (ulC (ulS ulR)))))) (fun _ _ => ?_)
      refine GH.done (by kernel_rfl) ?_
      refine GC.end0 rfl (fun wN HN => ?_)
      exact HN.frm (xq33, xq3) ⟨hq4.1, hq34.1⟩ (by rfl) (ulC (ulS (ulC (ulS (ulC ulR)))))
    exact GHs.nil
  refine GHs.cons rfl (Ex.wp (v := (.pointer (some ⟨kb, 0, none⟩))) (Ex.nilCheck rfl) (by decide)) (fun _ => (ulC (ulC (ulS (ulS ulR))))) (fun _ _ => ?_) ?_
  · refine GH.take 10 (v := (.pointer (some ⟨kb, 4, none⟩))) rfl (by kernel_rfl) (by kernel_rfl) (by kernel_rfl) (fun _ _ _ h => h) (Ex.cast (Ex.fieldAddr rfl Try.underlying41 rfl T.sz39 (by decide)) rfl) (ulC (ulC (ulS (ulS ulR)))) (by decide) ?_
    refine GH.many (rs := [2, 7]) (by kernel_rfl) (by simp) ?_
    refine GHs.cons rfl (Ex.wp (v := (.pointer (some ⟨kb, 0, none⟩))) (Ex.nilCheck rfl) (by decide)) (fun _ => (ulC (ulC (ulS (ulS ulR))))) (fun _ _ => ?_) ?_
    · refine GH.take 3 (v := (.pointer (some ⟨kb, 4, none⟩))) rfl (by kernel_rfl) (by kernel_rfl) (by kernel_rfl) (fun _ _ _ h => h) (Ex.cast (Ex.fieldAddr rfl Try.underlying41 rfl T.sz39 (by decide)) rfl) (ulC (ulC (ulS (ulS ulR)))) (by decide) ?_
      refine GH.take 4 (v := (.pointer (some ⟨kb, 4, none⟩))) rfl (by kernel_rfl) (by kernel_rfl) (by kernel_rfl) (fun _ _ _ h => h) (Ex.cast (Ex.indexArr (m := 4) rfl rfl Try.underlying39 T.sz38 (by decide) (by decide)) rfl) (ulC (ulC (ulS (ulS ulR)))) (by decide) ?_
      refine GH.many (rs := [5, 7]) (by kernel_rfl) (by simp) ?_
      refine GHs.cons rfl (Ex.wp (v := (.slice (some ⟨b2, 0, none⟩) n1 c2)) (Ex.load rfl T.ag38 (i := 2) rfl rfl) (by decide)) (fun _ => (ulC (ulC (ulS (ulS ulR))))) (fun _ _ => ?_) ?_
      · refine GH.one 7 rfl (by kernel_rfl) (Stp.buildSlice (cs := [(.int .i64 m)]) (vs := [(0, (.int .i64 m))]) Try.underlying38 T.zr3 T.sz3 rfl (by decide) (by decide) (by first | rfl | kernel_rfl) (by decide)) (fun _ => (ulS (ulC (ulC (ulS (ulS ulR)))))) (fun bq35 _ => ?_)
        refine GH.one 8 rfl (by kernel_rfl) (Stp.appendOwn (i := 4) (xs := xs2) (sp := sp2) (vs := [(.int .i64 m)]) (L1 := (⟨bq35, [(.int .i64 m)], 3, true⟩ :: ⟨xq3.1, xs1 ++ [(.slice none 0 0)] ++ xq3.2.2, 30, true⟩ :: ⟨bq2, [(.slice none 0 0)], 30, true⟩ :: ⟨kb, [(.slice (some ⟨xq3.1, 0, none⟩) (n1 + 1) xq3.2.1), (.slice none 0 0), (.slice none 0 0), (.slice none 0 0), (.slice (some ⟨b2, 0, none⟩) n1 c2), (.slice none 0 0), (.slice none 0 0), (.slice none 0 0)], 41, true⟩ :: R)) rfl rfl Try.underlying38 T.sz3 T.zr3 rfl T.by3 rfl (by omega) hc2 (fun wz hz => hz.rdOf (i := 0) rfl 0) rfl rfl (by omega) (by omega) rfl (by decide)) (fun _ => (ulS (ulS (ulC (ulC (ulS ulR)))))) (fun xq36 hq37 => ?_)
        refine GH.take 11 (v := (.pointer (some ⟨kb, 4, none⟩))) rfl (by kernel_rfl) (by kernel_rfl) (by kernel_rfl) (fun _ _ _ h => h) (Ex.cast (Ex.indexArr (m := 4) rfl rfl Try.underlying39 T.sz38 (by decide) (by decide)) rfl) (ulS (ulS (ulC (ulC (ulS ulR))))) (by decide) ?_
        refine GH.one 12 rfl (by kernel_rfl) (Stp.st4 (cs' := [(.slice (some ⟨xq3.1, 0, none⟩) (n1 + 1) xq3.2.1), (.slice none 0 0), (.slice none 0 0), (.slice none 0 0), (.slice (some ⟨xq36.1, 0, none⟩) (n1 + 1) xq36.2.1), (.slice none 0 0), (.slice none 0 0), (.slice none 0 0)]) rfl rfl rfl T.sz38 rfl rfl rfl) (fun _ => (ulS (ulS (ulC (ulC (ulS ulR)))))) (fun _ _ => ?_)
        refine GH.done (by kernel_rfl) ?_
        refine GC.end0 rfl (fun wN HN => ?_)
        exact HN.frm (xq36, xq3) ⟨hq4.1, hq37.1⟩ (by rfl) (ulC (ulS (ulC (ulS (ulC ulR)))))
      refine GHs.cons rfl (Stp.buildSlice (cs := [(.int .i64 m)]) (vs := [(0, (.int .i64 m))]) Try.underlying38 T.zr3 T.sz3 rfl (by decide) (by decide) (by first | rfl | kernel_rfl) (by decide)) (fun _ => (ulS (ulC (ulC (ulS (ulS ulR)))))) (fun bq38 _ => ?_) ?_
      · refine GH.one 5 rfl (by kernel_rfl) (Ex.wp (v := (.slice (some ⟨b2, 0, none⟩) n1 c2)) (Ex.load rfl T.ag38 (i := 3) rfl rfl) (by decide)) (fun _ => (ulS (ulC (ulC (ulS (ulS ulR)))))) (fun _ _ => ?_)
        refine GH.one 8 rfl (by kernel_rfl) (Stp.appendOwn (i := 4) (xs := xs2) (sp := sp2) (vs := [(.int .i64 m)]) (L1 := (⟨bq38, [(.int .i64 m)], 3, true⟩ :: ⟨xq3.1, xs1 ++ [(.slice none 0 0)] ++ xq3.2.2, 30, true⟩ :: ⟨bq2, [(.slice none 0 0)], 30, true⟩ :: ⟨kb, [(.slice (some ⟨xq3.1, 0, none⟩) (n1 + 1) xq3.2.1), (.slice none 0 0), (.slice none 0 0), (.slice none 0 0), (.slice (some ⟨b2, 0, none⟩) n1 c2), (.slice none 0 0), (.slice none 0 0), (.slice none 0 0)], 41, true⟩ :: R)) rfl rfl Try.underlying38 T.sz3 T.zr3 rfl T.by3 rfl (by omega) hc2 (fun wz hz => hz.rdOf (i := 0) rfl 0) rfl rfl (by omega) (by omega) rfl (by decide)) (fun _ => (ulS (ulS (ulC (ulC (ulS ulR)))))) (fun xq39 hq40 => ?_)
        refine GH.take 11 (v := (.pointer (some ⟨kb, 4, none⟩))) rfl (by kernel_rfl) (by kernel_rfl) (by kernel_rfl) (fun _ _ _ h => h) (Ex.cast (Ex.indexArr (m := 4) rfl rfl Try.underlying39 T.sz38 (by decide) (by decide)) rfl) (ulS (ulS (ulC (ulC (ulS ulR))))) (by decide) ?_
        refine GH.one 12 rfl (by kernel_rfl) (Stp.st4 (cs' := [(.slice (some ⟨xq3.1, 0, none⟩) (n1 + 1) xq3.2.1), (.slice none 0 0), (.slice none 0 0), (.slice none 0 0), (.slice (some ⟨xq39.1, 0, none⟩) (n1 + 1) xq39.2.1), (.slice none 0 0), (.slice none 0 0), (.slice none 0 0)]) rfl rfl rfl T.sz38 rfl rfl rfl) (fun _ => (ulS (ulS (ulC (ulC (ulS ulR)))))) (fun _ _ => ?_)
        refine GH.done (by kernel_rfl) ?_
        refine GC.end0 rfl (fun wN HN => ?_)
        exact HN.frm (xq39, xq3) ⟨hq4.1, hq40.1⟩ (by rfl) (ulC (ulS (ulC (ulS (ulC ulR)))))
      exact GHs.nil
    refine GHs.cons rfl (Stp.buildSlice (cs := [(.int .i64 m)]) (vs := [(0, (.int .i64 m))]) Try.underlying38 T.zr3 T.sz3 rfl (by decide) (by decide) (by first | rfl | kernel_rfl) (by decide)) (fun _ => (ulS (ulC (ulC (ulS (ulS ulR)))))) (fun bq41 _ => ?_) ?_
    · refine GH.one 2 rfl (by kernel_rfl) (Ex.wp (v := (.pointer (some ⟨kb, 0, none⟩))) (Ex.nilCheck rfl) (by decide)) (fun _ => (ulS (ulC (ulC (ulS (ulS ulR)))))) (fun _ _ => ?_)
      refine GH.take 3 (v := (.pointer (some ⟨kb, 4, none⟩))) rfl (by kernel_rfl) (by kernel_rfl) (by kernel_rfl) (fun _ _ _ h => h) (Ex.cast (Ex.fieldAddr rfl Try.underlying41 rfl T.sz39 (by decide)) rfl) (ulS (ulC (ulC (ulS (ulS ulR))))) (by decide) ?_
      refine GH.take 4 (v := (.pointer (some ⟨kb, 4, none⟩))) rfl (by kernel_rfl) (by kernel_rfl) (by kernel_rfl) (fun _ _ _ h => h) (Ex.cast (Ex.indexArr (m := 4) rfl rfl Try.underlying39 T.sz38 (by decide) (by decide)) rfl) (ulS (ulC (ulC (ulS (ulS ulR))))) (by decide) ?_
      refine GH.one 5 rfl (by kernel_rfl) (Ex.wp (v := (.slice (some ⟨b2, 0, none⟩) n1 c2)) (Ex.load rfl T.ag38 (i := 3) rfl rfl) (by decide)) (fun _ => (ulS (ulC (ulC (ulS (ulS ulR)))))) (fun _ _ => ?_)
      refine GH.one 8 rfl (by kernel_rfl) (Stp.appendOwn (i := 4) (xs := xs2) (sp := sp2) (vs := [(.int .i64 m)]) (L1 := (⟨bq41, [(.int .i64 m)], 3, true⟩ :: ⟨xq3.1, xs1 ++ [(.slice none 0 0)] ++ xq3.2.2, 30, true⟩ :: ⟨bq2, [(.slice none 0 0)], 30, true⟩ :: ⟨kb, [(.slice (some ⟨xq3.1, 0, none⟩) (n1 + 1) xq3.2.1), (.slice none 0 0), (.slice none 0 0), (.slice none 0 0), (.slice (some ⟨b2, 0, none⟩) n1 c2), (.slice none 0 0), (.slice none 0 0), (.slice none 0 0)], 41, true⟩ :: R)) rfl rfl Try.underlying38 T.sz3 T.zr3 rfl T.by3 rfl (by omega) hc2 (fun wz hz => hz.rdOf (i := 0) rfl 0) rfl rfl (by omega) (by omega) rfl (by decide)) (fun _ => (ulS (ulS (ulC (ulC (ulS ulR)))))) (fun xq42 hq43 => ?_)
      refine GH.take 11 (v := (.pointer (some ⟨kb, 4, none⟩))) rfl (by kernel_rfl) (by kernel_rfl) (by kernel_rfl) (fun _ _ _ h => h) (Ex.cast (Ex.indexArr (m := 4) rfl rfl Try.underlying39 T.sz38 (by decide) (by decide)) rfl) (ulS (ulS (ulC (ulC (ulS ulR))))) (by decide) ?_
      refine GH.one 12 rfl (by kernel_rfl) (Stp.st4 (cs' := [(.slice (some ⟨xq3.1, 0, none⟩) (n1 + 1) xq3.2.1), (.slice none 0 0), (.slice none 0 0), (.slice none 0 0), (.slice (some ⟨xq42.1, 0, none⟩) (n1 + 1) xq42.2.1), (.slice none 0 0), (.slice none 0 0), (.slice none 0 0)]) rfl rfl rfl T.sz38 rfl rfl rfl) (fun _ => (ulS (ulS (ulC (ulC (ulS ulR)))))) (fun _ _ => ?_)
      refine GH.done (by kernel_rfl) ?_
      refine GC.end0 rfl (fun wN HN => ?_)
      exact HN.frm (xq42, xq3) ⟨hq4.1, hq43.1⟩ (by rfl) (ulC (ulS (ulC (ulS (ulC ulR)))))
    exact GHs.nil
  exact GHs.nil

set_option maxRecDepth 100000 in
set_option maxHeartbeats 1000000 in
theorem book_p10 (w0 : World) (R : List Blk) (W H : Int) (kb : Nat) (m : Int) (n1 b1 c1 b2 c2 : Nat) (xs1 sp1 xs2 sp2 : List Value) (w : World)  (hn1 : n1 ≤ 1000) (hx1 : xs1.length = n1) (hx2 : xs2.length = n1) (hc1 : (xs1 ++ sp1).length = c1 * 1) (hc2 : (xs2 ++ sp2).length = c2 * 1) (hp0 : Hp None w0 (⟨kb, [(.slice (some ⟨b1, 0, none⟩) n1 c1), (.slice none 0 0), (.slice none 0 0), (.slice none 0 0), (.slice (some ⟨b2, 0, none⟩) n1 c2), (.slice none 0 0), (.slice none 0 0), (.slice none 0 0)], 41, true⟩ :: ⟨b1, xs1 ++ sp1, 30, true⟩ :: ⟨b2, xs2 ++ sp2, 3, true⟩ :: R) w) :
    Calls Try.prog 21 #[(.pointer (some ⟨kb, 0, none⟩)), (.agg #[(.int .i64 W), (.int .i64 H), (.slice none 0 0)]), (.int .i64 m)] w (Frm (σ := (Nat × Nat × List Value) × (Nat × Nat × List Value)) None w0 (fun x => (xs1 ++ [(Value.slice none 0 0)] ++ x.2.2.2 : List Value).length = x.2.2.1 * 1 ∧ (xs2 ++ [(Value.int .i64 m)] ++ x.1.2.2 : List Value).length = x.1.2.1 * 1) (fun x => .tuple #[]) (fun x => (⟨x.1.1, xs2 ++ [(Value.int .i64 m)] ++ x.1.2.2, 3, true⟩ :: ⟨x.2.1, xs1 ++ [(Value.slice none 0 0)] ++ x.2.2.2, 30, true⟩ :: ⟨kb, [(.slice (some ⟨x.2.1, 0, none⟩) (n1 + 1) x.2.2.1), (.slice none 0 0), (.slice none 0 0), (.slice none 0 0), (.slice (some ⟨x.1.1, 0, none⟩) (n1 + 1) x.1.2.1), (.slice none 0 0), (.slice none 0 0), (.slice none 0 0)], 41, true⟩ :: R))) := by
  refine enterF (w0 := w0) (M := None) (L := (⟨kb, [(.slice (some ⟨b1, 0, none⟩) n1 c1), (.slice none 0 0), (.slice none 0 0), (.slice none 0 0), (.slice (some ⟨b2, 0, none⟩) n1 c2), (.slice none 0 0), (.slice none 0 0), (.slice none 0 0)], 41, true⟩ :: ⟨b1, xs1 ++ sp1, 30, true⟩ :: ⟨b2, xs2 ++ sp2, 3, true⟩ :: R)) (n := 11) (l := [(0, (.pointer (some ⟨kb, 0, none⟩))), (1, (.agg #[(.int .i64 W), (.int .i64 H), (.slice none 0 0)])), (2, (.int .i64 m))]) Try.func21 rfl rfl (Args.cons rfl (Args.cons rfl (Args.cons rfl (Args.nil _)))) hp0 ?_
  refine GC.seq ?_
  refine GC.region ?_
  refine GL.step (Stp.box (cs := [(.int .i64 W), (.int .i64 H), (.slice none 0 0)]) rfl rfl (by decide)) (fun bq1 _ => ?_)
  refine GL.nil ?_
  refine GE.thenN ?_
  refine GC.region ?_
  refine GL.val (Ex.move rfl) (by decide) ?_
  refine GL.val (v := (.pointer (some ⟨bq1, 2, none⟩))) (Ex.cast (Ex.fieldAddr rfl Try.underlying32 rfl T.sz30 (by decide)) rfl) (by decide) ?_
  refine GL.val (Ex.load rfl T.ag30 (i := 0) rfl rfl) (by decide) ?_
  refine GL.val (Ex.move rfl) (by decide) ?_
  refine GL.step (Stp.call (vs := [(.pointer (some ⟨kb, 0, none⟩)), (.slice none 0 0), (.int .i64 m)]) rfl rfl T.own56 (by decide) (fun wc hw => book_s10 w0 _ kb m n1 b1 c1 b2 c2 xs1 sp1 xs2 sp2 wc (by first | decide | omega) (by first | rfl | omega) (by first | rfl | omega) hc1 hc2 (Hp.pickT (A := [⟨bq1, [(.int .i64 W), (.int .i64 H), (.slice none 0 0)], 32, true⟩, ⟨kb, [(.slice (some ⟨b1, 0, none⟩) n1 c1), (.slice none 0 0), (.slice none 0 0), (.slice none 0 0), (.slice (some ⟨b2, 0, none⟩) n1 c2), (.slice none 0 0), (.slice none 0 0), (.slice none 0 0)], 41, true⟩, ⟨b1, xs1 ++ sp1, 30, true⟩, ⟨b2, xs2 ++ sp2, 3, true⟩]) (R := R) hw (idx := [1, 2, 3, 0]) (by decide) rfl))) (fun xq2 hq3 => ?_)
  refine GL.nil ?_
  refine GC.end0 rfl (fun wN HN => ?_)
  exact HN.frm xq2 hq3 (by rfl) (ulC (ulC (ulC (ulS ulR))))

set_option maxRecDepth 100000 in
set_option maxHeartbeats 1000000 in
theorem book_s11 (w0 : World) (R : List Blk) (kb : Nat) (m : Int) (b n cap : Nat) (cs : List Value) (n1 b1 c1 b2 c2 : Nat) (xs1 sp1 xs2 sp2 : List Value) (w : World) (hcap : cs.length = cap) (hb : cap ≤ 9223372036854775806) (hn1 : n1 ≤ 1000) (hx1 : xs1.length = n1) (hx2 : xs2.length = n1) (hc1 : (xs1 ++ sp1).length = c1 * 1) (hc2 : (xs2 ++ sp2).length = c2 * 1) (hp0 : Hp None w0 (⟨kb, [(.slice (some ⟨b1, 0, none⟩) n1 c1), (.slice none 0 0), (.slice none 0 0), (.slice none 0 0), (.slice (some ⟨b2, 0, none⟩) n1 c2), (.slice none 0 0), (.slice none 0 0), (.slice none 0 0)], 41, true⟩ :: ⟨b1, xs1 ++ sp1, 30, true⟩ :: ⟨b2, xs2 ++ sp2, 3, true⟩ :: ⟨b, cs, 72, true⟩ :: R) w) :
    Calls Try.prog 56 #[(.pointer (some ⟨kb, 0, none⟩)), (.slice (some ⟨b, 0, none⟩) n cap), (.int .i64 m)] w (Frm (σ := (Nat × Nat × List Value) × (Nat × Nat × List Value)) None w0 (fun x => (xs1 ++ [(Value.slice (some ⟨b, 0, none⟩) cap cap)] ++ x.2.2.2 : List Value).length = x.2.2.1 * 1 ∧ (xs2 ++ [(Value.int .i64 m)] ++ x.1.2.2 : List Value).length = x.1.2.1 * 1) (fun x => .tuple #[]) (fun x => (⟨x.1.1, xs2 ++ [(Value.int .i64 m)] ++ x.1.2.2, 3, true⟩ :: ⟨x.2.1, xs1 ++ [(Value.slice (some ⟨b, 0, none⟩) cap cap)] ++ x.2.2.2, 30, true⟩ :: ⟨kb, [(.slice (some ⟨x.2.1, 0, none⟩) (n1 + 1) x.2.2.1), (.slice none 0 0), (.slice none 0 0), (.slice none 0 0), (.slice (some ⟨x.1.1, 0, none⟩) (n1 + 1) x.1.2.1), (.slice none 0 0), (.slice none 0 0), (.slice none 0 0)], 41, true⟩ :: ⟨b, (mks m cap).map u32, 72, true⟩ :: R))) := by
  refine enterF (w0 := w0) (M := None) (L := (⟨kb, [(.slice (some ⟨b1, 0, none⟩) n1 c1), (.slice none 0 0), (.slice none 0 0), (.slice none 0 0), (.slice (some ⟨b2, 0, none⟩) n1 c2), (.slice none 0 0), (.slice none 0 0), (.slice none 0 0)], 41, true⟩ :: ⟨b1, xs1 ++ sp1, 30, true⟩ :: ⟨b2, xs2 ++ sp2, 3, true⟩ :: ⟨b, cs, 72, true⟩ :: R)) (n := 46) (l := [(0, (.pointer (some ⟨kb, 0, none⟩))), (1, (.slice (some ⟨b, 0, none⟩) n cap)), (2, (.int .i64 m))]) Try.func56 rfl rfl (Args.cons rfl (Args.cons rfl (Args.cons rfl (Args.nil _)))) hp0 ?_
  refine GC.seq ?_
  refine GC.region ?_
  refine GL.val (Ex.move rfl) (by decide) ?_
  refine GL.val (Ex.move rfl) (by decide) ?_
  refine GL.val (v := (.int .i64 ((cap : Int)))) (Ex.cap rfl Try.underlying30) (by decide) ?_
  refine GL.val (v := (.slice (some ⟨b, 0, none⟩) cap cap)) (Ex.sliceH (m := cap) rfl rfl Try.underlying30 T.sz72 rfl (Nat.le_refl _)) (by decide) ?_
  refine GL.val (Ex.assign rfl) (by decide) ?_
  refine GL.nil ?_
  refine GE.thenN ?_
  refine GC.seq ?_
  refine GC.seq ?_
  rw [show cs = mkC m cs 0 from (mkC_zero m cs).symm]
  refine GC.region ?_
  refine GL.val (Ex.assign rfl) (by decide) ?_
  refine GL.nil ?_
  refine GE.thenN ?_
  refine GC.block ?_
  refine GC.loop (σ := Nat) (fun k => k ≤ cap) (fun k => [(0, (.pointer (some ⟨kb, 0, none⟩))), (1, (.slice (some ⟨b, 0, none⟩) cap cap)), (2, (.int .i64 m)), (6, (.int .i64 (((k : Nat) : Int))))]) (fun k => (⟨kb, [(.slice (some ⟨b1, 0, none⟩) n1 c1), (.slice none 0 0), (.slice none 0 0), (.slice none 0 0), (.slice (some ⟨b2, 0, none⟩) n1 c2), (.slice none 0 0), (.slice none 0 0), (.slice none 0 0)], 41, true⟩ :: ⟨b1, xs1 ++ sp1, 30, true⟩ :: ⟨b2, xs2 ++ sp2, 3, true⟩ :: ⟨b, mkC m cs k, 72, true⟩ :: R)) (fun k => cap - k) (0) (Nat.zero_le _) ((sub_cons rfl ((sub_cons rfl ((sub_cons rfl ((sub_cons rfl ((sub_nil _)))))))))) (ulC (ulC (ulC (ulC ulR)))) (fun k hp => ?_)
  refine GC.seq ?_
  refine GC.seq ?_
  refine GC.region ?_
  refine GL.val (Ex.move rfl) (by decide) ?_
  refine GL.val (Ex.move rfl) (by decide) ?_
  refine GL.val (v := (.int .i64 ((cap : Int)))) (Ex.len rfl Try.underlying30) (by decide) ?_
  refine GL.val (v := (.bool (decide ((((k : Nat) : Int)) < ((cap : Int)))))) (Ex.lss rfl rfl) (by decide) ?_
  refine GL.nil ?_
  refine GE.thenN ?_
  refine GC.cond rfl (fun hq1 => ?_) (fun hq1 => ?_)
  · replace hq1 := of_decide_eq_true hq1
    refine GC.skip ?_
    refine GE.thenN ?_
    refine GC.seq ?_
    refine GC.block ?_
    refine GC.region ?_
    refine GL.val (Ex.move rfl) (by decide) ?_
    refine GL.val (Ex.move rfl) (by decide) ?_
    refine GL.val (Ex.move rfl) (by decide) ?_
    refine GL.val (Ex.move rfl) (by decide) ?_
    refine GL.step (Stp.callR (vs := [(.int .i64 m), (.int .i64 (((k : Nat) : Int)))]) rfl rfl T.own57 (by decide) (fun wc hw => bkmark m (((k : Nat) : Int)) wc)) (fun xq2 hq3 => ?_)
    refine GL.val (v := (.int .u32 (mk m k))) (Ex.conv rfl Try.underlying3 Try.underlying72 (Z := mk m k) (by rw [wu32]; rfl)) (by decide) ?_
    refine GL.val (v := (.pointer (some ⟨b, k, none⟩))) (Ex.cast (Ex.indexAddr rfl rfl Try.underlying30 T.sz72 (by omega) (by omega)) (by simp)) (by decide) ?_
    refine GL.step (Stp.storeL (i := 3) (cs := mkC m cs k) (vs := [.int .u32 (mk m k)]) (o := k) (L1 := (⟨kb, [(.slice (some ⟨b1, 0, none⟩) n1 c1), (.slice none 0 0), (.slice none 0 0), (.slice none 0 0), (.slice (some ⟨b2, 0, none⟩) n1 c2), (.slice none 0 0), (.slice none 0 0), (.slice none 0 0)], 41, true⟩ :: ⟨b1, xs1 ++ sp1, 30, true⟩ :: ⟨b2, xs2 ++ sp2, 3, true⟩ :: ⟨b, mkC m cs (k + 1), 72, true⟩ :: R)) rfl rfl rfl T.sz72 rfl (Nat.ble_eq_true_of_le (by rw [mkC_len _ _ _ (by omega)]; simp; omega)) rfl (by rw [mkC_store (by omega)]; rfl)) (fun _ _ => ?_)
    refine GL.nil ?_
    refine GE.blockN ?_
    refine GE.thenN ?_
    refine GC.region ?_
    refine GL.val (Ex.move rfl) (by decide) ?_
    refine GL.val (v := (.int .i64 (((k + 1 : Nat) : Int)))) (Ex.add rfl rfl (Z := ((k + 1 : Nat) : Int)) (by rw [w64 (by omega)]; rfl)) (by decide) ?_
    refine GL.val (Ex.assign rfl) (by decide) ?_
    refine GL.nil ?_
    refine GE.thenN ?_
    exact Head.mk (k + 1) (by omega) (by omega) ((sub_cons rfl ((sub_cons rfl ((sub_cons rfl ((sub_cons rfl ((sub_nil _)))))))))) (ulC (ulC (ulC (ulC ulR))))
  · replace hq1 := of_decide_eq_false hq1
    refine GC.exit ?_
    refine GE.thenE ?_
    refine GE.thenE ?_
    refine GE.blockE ?_
    refine GE.thenN ?_
    refine GC.seq ?_
    rw [mkC_full m cs k (by omega), show k = cap from by omega]
    refine GC.region ?_
    refine GL.val (Ex.move rfl) (by decide) ?_
    refine GL.val (Ex.move rfl) (by decide) ?_
    refine GL.val (v := (.pointer (some ⟨kb, 0, none⟩))) (Ex.nilCheck rfl) (by decide) ?_
    refine GL.val (v := (.pointer (some ⟨kb, 0, none⟩))) (Ex.cast (Ex.fieldAddr rfl Try.underlying41 rfl T.sz34 (by decide)) rfl) (by decide) ?_
    refine GL.val (Ex.load rfl T.ag34 (i := 0) rfl rfl) (by decide) ?_
    refine GL.val (Ex.move rfl) (by decide) ?_
    refine GL.step (Stp.buildSlice (cs := [(.slice (some ⟨b, 0, none⟩) cap cap)]) (vs := [(0, (.slice (some ⟨b, 0, none⟩) cap cap))]) Try.underlying34 T.zr30 T.sz30 rfl (by decide) (by decide) (by first | rfl | kernel_rfl) (by decide)) (fun bq4 _ => ?_)
    refine GL.step (Stp.appendOwn (i := 2) (xs := xs1) (sp := sp1) (vs := [(.slice (some ⟨b, 0, none⟩) cap cap)]) (L1 := (⟨bq4, [(.slice (some ⟨b, 0, none⟩) cap cap)], 30, true⟩ :: ⟨kb, [(.slice (some ⟨b1, 0, none⟩) n1 c1), (.slice none 0 0), (.slice none 0 0), (.slice none 0 0), (.slice (some ⟨b2, 0, none⟩) n1 c2), (.slice none 0 0), (.slice none 0 0), (.slice none 0 0)], 41, true⟩ :: ⟨b2, xs2 ++ sp2, 3, true⟩ :: ⟨b, (mks m cap).map u32, 72, true⟩ :: R)) rfl rfl Try.underlying34 T.sz30 T.zr30 rfl T.by30 rfl (by omega) hc1 (fun wz hz => hz.rdOf (i := 0) rfl 0) rfl rfl (by omega) (by omega) rfl (by decide)) (fun xq5 hq6 => ?_)
    refine GL.val (v := (.pointer (some ⟨kb, 0, none⟩))) (Ex.nilCheck rfl) (by decide) ?_
    refine GL.val (v := (.pointer (some ⟨kb, 0, none⟩))) (Ex.cast (Ex.fieldAddr rfl Try.underlying41 rfl T.sz34 (by decide)) rfl) (by decide) ?_
    refine GL.step (Stp.st2 (cs' := [(.slice (some ⟨xq5.1, 0, none⟩) (n1 + 1) xq5.2.1), (.slice none 0 0), (.slice none 0 0), (.slice none 0 0), (.slice (some ⟨b2, 0, none⟩) n1 c2), (.slice none 0 0), (.slice none 0 0), (.slice none 0 0)]) rfl rfl rfl T.sz34 rfl rfl rfl) (fun _ _ => ?_)
    refine GL.nil ?_
    refine GE.thenN ?_
    refine GC.draw (⟨xq5.1, xs1 ++ [(.slice (some ⟨b, 0, none⟩) cap cap)] ++ xq5.2.2, 30, true⟩ :: ⟨bq4, [(.slice (some ⟨b, 0, none⟩) cap cap)], 30, true⟩ :: ⟨b, (mks m cap).map u32, 72, true⟩ :: R) T.mixed (fuel := 13) rfl rfl ?_
    refine GH.take 0 (v := (.pointer (some ⟨kb, 0, none⟩))) rfl (by kernel_rfl) (by kernel_rfl) (by kernel_rfl) (fun _ _ _ h => h) (Ex.move rfl) (ulC (ulC (ulS (ulS (ulC ulR))))) (by decide) ?_
    refine GH.take 1 (v := (.pointer (some ⟨kb, 0, none⟩))) rfl (by kernel_rfl) (by kernel_rfl) (by kernel_rfl) (fun _ _ _ h => h) (Ex.move rfl) (ulC (ulC (ulS (ulS (ulC ulR))))) (by decide) ?_
    refine GH.take 6 (v := (.int .i64 m)) rfl (by kernel_rfl) (by kernel_rfl) (by kernel_rfl) (fun _ _ _ h => h) (Ex.move rfl) (ulC (ulC (ulS (ulS (ulC ulR))))) (by decide) ?_
    refine GH.many (rs := [2, 7, 9]) (by kernel_rfl) (by simp) ?_
    refine GHs.cons rfl (Ex.wp (v := (.pointer (some ⟨kb, 0, none⟩))) (Ex.nilCheck rfl) (by decide)) (fun _ => (ulC (ulC (ulS (ulS (ulC ulR)))))) (fun _ _ => ?_) ?_
    · refine GH.take 3 (v := (.pointer (some ⟨kb, 4, none⟩))) rfl (by kernel_rfl) (by kernel_rfl) (by kernel_rfl) (fun _ _ _ h => h) (Ex.cast (Ex.fieldAddr rfl Try.underlying41 rfl T.sz39 (by decide)) rfl) (ulC (ulC (ulS (ulS (ulC ulR))))) (by decide) ?_
      refine GH.take 4 (v := (.pointer (some ⟨kb, 4, none⟩))) rfl (by kernel_rfl) (by kernel_rfl) (by kernel_rfl) (fun _ _ _ h => h) (Ex.cast (Ex.indexArr (m := 4) rfl rfl Try.underlying39 T.sz38 (by decide) (by decide)) rfl) (ulC (ulC (ulS (ulS (ulC ulR))))) (by decide) ?_
      refine GH.many (rs := [5, 7, 9]) (by kernel_rfl) (by simp) ?_
      refine GHs.cons rfl (Ex.wp (v := (.slice (some ⟨b2, 0, none⟩) n1 c2)) (Ex.load rfl T.ag38 (i := 2) rfl rfl) (by decide)) (fun _ => (ulC (ulC (ulS (ulS (ulC ulR)))))) (fun _ _ => ?_) ?_
      · refine GH.many (rs := [7, 9]) (by kernel_rfl) (by simp) ?_
        refine GHs.cons rfl (Stp.buildSlice (cs := [(.int .i64 m)]) (vs := [(0, (.int .i64 m))]) Try.underlying38 T.zr3 T.sz3 rfl (by decide) (by decide) (by first | rfl | kernel_rfl) (by decide)) (fun _ => (ulS (ulC (ulC (ulS (ulS (ulC ulR))))))) (fun bq7 _ => ?_) ?_
        · refine GH.many (rs := [8, 9]) (by kernel_rfl) (by simp) ?_
          refine GHs.cons rfl (Stp.appendOwn (i := 4) (xs := xs2) (sp := sp2) (vs := [(.int .i64 m)]) (L1 := (⟨bq7, [(.int .i64 m)], 3, true⟩ :: ⟨xq5.1, xs1 ++ [(.slice (some ⟨b, 0, none⟩) cap cap)] ++ xq5.2.2, 30, true⟩ :: ⟨bq4, [(.slice (some ⟨b, 0, none⟩) cap cap)], 30, true⟩ :: ⟨kb, [(.slice (some ⟨xq5.1, 0, none⟩) (n1 + 1) xq5.2.1), (.slice none 0 0), (.slice none 0 0), (.slice none 0 0), (.slice (some ⟨b2, 0, none⟩) n1 c2), (.slice none 0 0), (.slice none 0 0), (.slice none 0 0)], 41, true⟩ :: ⟨b, (mks m cap).map u32, 72, true⟩ :: R)) rfl rfl Try.underlying38 T.sz3 T.zr3 rfl T.by3 rfl (by omega) hc2 (fun wz hz => hz.rdOf (i := 0) rfl 0) rfl rfl (by omega) (by omega) rfl (by decide)) (fun _ => (ulS (ulS (ulC (ulC (ulS (ulC ulR))))))) (fun xq8 hq9 => ?_) ?_
          · refine GH.one 9 rfl (by kernel_rfl) (Ex.wp (v := (.pointer (some ⟨kb, 0, none⟩))) (Ex.nilCheck rfl) (by decide)) (fun _ => (ulS (ulS (ulC (ulC (ulS (ulC ulR))))))) (fun _ _ => ?_)
            refine GH.take 10 (v := (.pointer (some ⟨kb, 4, none⟩))) rfl (by kernel_rfl) (by kernel_rfl) (by kernel_rfl) (fun _ _ _ h => h) (Ex.cast (Ex.fieldAddr rfl Try.underlying41 rfl T.sz39 (by decide)) rfl) (ulS (ulS (ulC (ulC (ulS (ulC ulR)))))) (by decide) ?_
            refine GH.take 11 (v := (.pointer (some ⟨kb, 4, none⟩))) rfl (by kernel_rfl) (by kernel_rfl) (by kernel_rfl) (fun _ _ _ h => h) (Ex.cast (Ex.indexArr (m := 4) rfl rfl Try.underlying39 T.sz38 (by decide) (by decide)) rfl) (ulS (ulS (ulC (ulC (ulS (ulC ulR)))))) (by decide) ?_
            refine GH.one 12 rfl (by kernel_rfl) (Stp.st4 (cs' := [(.slice (some ⟨xq5.1, 0, none⟩) (n1 + 1) xq5.2.1), (.slice none 0 0), (.slice none 0 0), (.slice none 0 0), (.slice (some ⟨xq8.1, 0, none⟩) (n1 + 1) xq8.2.1), (.slice none 0 0), (.slice none 0 0), (.slice none 0 0)]) rfl rfl rfl T.sz38 rfl rfl rfl) (fun _ => (ulS (ulS (ulC (ulC (ulS (ulC ulR))))))) (fun _ _ => ?_)
            refine GH.done (by kernel_rfl) ?_
            refine GC.end0 rfl (fun wN HN => ?_)
            exact HN.frm (xq8, xq5) ⟨hq6.1, hq9.1⟩ (by rfl) (ulC (ulS (ulC (ulS (ulC (ulC ulR))))))
          refine GHs.cons rfl (Ex.wp (v := (.pointer (some ⟨kb, 0, none⟩))) (Ex.nilCheck rfl) (by decide)) (fun _ => (ulS (ulC (ulC (ulS (ulS (ulC ulR))))))) (fun _ _ => ?_) ?_
          · refine GH.take 10 (v := (.pointer (some ⟨kb, 4, none⟩))) rfl (by kernel_rfl) (by kernel_rfl) (by kernel_rfl) (fun _ _ _ h => h) (Ex.cast (Ex.fieldAddr rfl Try.underlying41 rfl T.sz39 (by decide)) rfl) (ulS (ulC (ulC (ulS (ulS (ulC ulR)))))) (by decide) ?_
            refine GH.one 8 rfl (by kernel_rfl) (Stp.appendOwn (i := 4) (xs := xs2) (sp := sp2) (vs := [(.int .i64 m)]) (L1 := (⟨bq7, [(.int .i64 m)], 3, true⟩ :: ⟨xq5.1, xs1 ++ [(.slice (some ⟨b, 0, none⟩) cap cap)] ++ xq5.2.2, 30, true⟩ :: ⟨bq4, [(.slice (some ⟨b, 0, none⟩) cap cap)], 30, true⟩ :: ⟨kb, [(.slice (some ⟨xq5.1, 0, none⟩) (n1 + 1) xq5.2.1), (.slice none 0 0), (.slice none 0 0), (.slice none 0 0), (.slice (some ⟨b2, 0, none⟩) n1 c2), (.slice none 0 0), (.slice none 0 0), (.slice none 0 0)], 41, true⟩ :: ⟨b, (mks m cap).map u32, 72, true⟩ :: R)) rfl rfl Try.underlying38 T.sz3 T.zr3 rfl T.by3 rfl (by omega) hc2 (fun wz hz => hz.rdOf (i := 0) rfl 0) rfl rfl (by omega) (by omega) rfl (by decide)) (fun _ => (ulS (ulS (ulC (ulC (ulS (ulC ulR))))))) (fun xq10 hq11 => ?_)
            refine GH.take 11 (v := (.pointer (some ⟨kb, 4, none⟩))) rfl (by kernel_rfl) (by kernel_rfl) (by kernel_rfl) (fun _ _ _ h => h) (Ex.cast (Ex.indexArr (m := 4) rfl rfl Try.underlying39 T.sz38 (by decide) (by decide)) rfl) (ulS (ulS (ulC (ulC (ulS (ulC ulR)))))) (by decide) ?_
            refine GH.one 12 rfl (by kernel_rfl) (Stp.st4 (cs' := [(.slice (some ⟨xq5.1, 0, none⟩) (n1 + 1) xq5.2.1), (.slice none 0 0), (.slice none 0 0), (.slice none 0 0), (.slice (some ⟨xq10.1, 0, none⟩) (n1 + 1) xq10.2.1), (.slice none 0 0), (.slice none 0 0), (.slice none 0 0)]) rfl rfl rfl T.sz38 rfl rfl rfl) (fun _ => (ulS (ulS (ulC (ulC (ulS (ulC ulR))))))) (fun _ _ => ?_)
            refine GH.done (by kernel_rfl) ?_
            refine GC.end0 rfl (fun wN HN => ?_)
            exact HN.frm (xq10, xq5) ⟨hq6.1, hq11.1⟩ (by rfl) (ulC (ulS (ulC (ulS (ulC (ulC ulR))))))
          exact GHs.nil
        refine GHs.cons rfl (Ex.wp (v := (.pointer (some ⟨kb, 0, none⟩))) (Ex.nilCheck rfl) (by decide)) (fun _ => (ulC (ulC (ulS (ulS (ulC ulR)))))) (fun _ _ => ?_) ?_
        · refine GH.take 10 (v := (.pointer (some ⟨kb, 4, none⟩))) rfl (by kernel_rfl) (by kernel_rfl) (by kernel_rfl) (fun _ _ _ h => h) (Ex.cast (Ex.fieldAddr rfl Try.underlying41 rfl T.sz39 (by decide)) rfl) (ulC (ulC (ulS (ulS (ulC ulR))))) (by decide) ?_
          refine GH.one 7 rfl (by kernel_rfl) (Stp.buildSlice (cs := [(.int .i64 m)]) (vs := [(0, (.int .i64 m))]) Try.underlying38 T.zr3 T.sz3 rfl (by decide) (by decide) (by first | rfl | kernel_rfl) (by decide)) (fun _ => (ulS (ulC (ulC (ulS (ulS (ulC ulR))))))) (fun bq12 _ => ?_)
          refine GH.one 8 rfl (by kernel_rfl) (Stp.appendOwn (i := 4) (xs := xs2) (sp := sp2) (vs := [(.int .i64 m)]) (L1 := (⟨bq12, [(.int .i64 m)], 3, true⟩ :: ⟨xq5.1, xs1 ++ [(.slice (some ⟨b, 0, none⟩) cap cap)] ++ xq5.2.2, 30, true⟩ :: ⟨bq4, [(.slice (some ⟨b, 0, none⟩) cap cap)], 30, true⟩ :: ⟨kb, [(.slice (some ⟨xq5.1, 0, none⟩) (n1 + 1) xq5.2.1), (.slice none 0 0), (.slice none 0 0), (.slice none 0 0), (.slice (some ⟨b2, 0, none⟩) n1 c2), (.slice none 0 0), (.slice none 0 0), (.slice none 0 0)], 41, true⟩ :: ⟨b, (mks m cap).map u32, 72, true⟩ :: R)) rfl rfl Try.underlying38 T.sz3 T.zr3 rfl T.by3 rfl (by omega) hc2 (fun wz hz => hz.rdOf (i := 0) rfl 0) rfl rfl (by omega) (by omega) rfl (by decide)) (fun _ => (ulS (ulS (ulC (ulC (ulS (ulC ulR))))))) (fun xq13 hq14 => ?_)
          refine GH.take 11 (v := (.pointer (some ⟨kb, 4, none⟩))) rfl (by kernel_rfl) (by kernel_rfl) (by kernel_rfl) (fun _ _ _ h => h) (Ex.cast (Ex.indexArr (m := 4) rfl rfl Try.underlying39 T.sz38 (by decide) (by decide)) rfl) (ulS (ulS (ulC (ulC (ulS (ulC ulR)))))) (by decide) ?_
          refine GH.one 12 rfl (by kernel_rfl) (Stp.st4 (cs' := [(.slice (some ⟨xq5.1, 0, none⟩) (n1 + 1) xq5.2.1), (.slice none 0 0), (.slice none 0 0), (.slice none 0 0), (.slice (some ⟨xq13.1, 0, none⟩) (n1 + 1) xq13.2.1), (.slice none 0 0), (.slice none 0 0), (.slice none 0 0)]) rfl rfl rfl T.sz38 rfl rfl rfl) (fun _ => (ulS (ulS (ulC (ulC (ulS (ulC ulR))))))) (fun _ _ => ?_)
          refine GH.done (by kernel_rfl) ?_
          refine GC.end0 rfl (fun wN HN => ?_)
          exact HN.frm (xq13, xq5) ⟨hq6.1, hq14.1⟩ (by rfl) (ulC (ulS (ulC (ulS (ulC (ulC ulR))))))
        exact GHs.nil
      refine GHs.cons rfl (Stp.buildSlice (cs := [(.int .i64 m)]) (vs := [(0, (.int .i64 m))]) Try.underlying38 T.zr3 T.sz3 rfl (by decide) (by decide) (by first | rfl | kernel_rfl) (by decide)) (fun _ => (ulS (ulC (ulC (ulS (ulS (ulC ulR))))))) (fun bq15 _ => ?_) ?_
      · refine GH.many (rs := [5, 9]) (by kernel_rfl) (by simp) ?_
        refine GHs.cons rfl (Ex.wp (v := (.slice (some ⟨b2, 0, none⟩) n1 c2)) (Ex.load rfl T.ag38 (i := 3) rfl rfl) (by decide)) (fun _ => (ulS (ulC (ulC (ulS (ulS (ulC ulR))))))) (fun _ _ => ?_) ?_
        · refine GH.many (rs := [8, 9]) (by kernel_rfl) (by simp) ?_
          refine GHs.cons rfl (Stp.appendOwn (i := 4) (xs := xs2) (sp := sp2) (vs := [(.int .i64 m)]) (L1 := (⟨bq15, [(.int .i64 m)], 3, true⟩ :: ⟨xq5.1, xs1 ++ [(.slice (some ⟨b, 0, none⟩) cap cap)] ++ xq5.2.2, 30, true⟩ :: ⟨bq4, [(.slice (some ⟨b, 0, none⟩) cap cap)], 30, true⟩ :: ⟨kb, [(.slice (some ⟨xq5.1, 0, none⟩) (n1 + 1) xq5.2.1), (.slice none 0 0), (.slice none 0 0), (.slice none 0 0), (.slice (some ⟨b2, 0, none⟩) n1 c2), (.slice none 0 0), (.slice none 0 0), (.slice none 0 0)], 41, true⟩ :: ⟨b, (mks m cap).map u32, 72, true⟩ :: R)) rfl rfl Try.underlying38 T.sz3 T.zr3 rfl T.by3 rfl (by omega) hc2 (fun wz hz => hz.rdOf (i := 0) rfl 0) rfl rfl (by omega) (by omega) rfl (by decide)) (fun _ => (ulS (ulS (ulC (ulC (ulS (ulC ulR))))))) (fun xq16 hq17 => ?_) ?_
          · refine GH.one 9 rfl (by kernel_rfl) (Ex.wp (v := (.pointer (some ⟨kb, 0, none⟩))) (Ex.nilCheck rfl) (by decide)) (fun _ => (ulS (ulS (ulC (ulC (ulS (ulC ulR))))))) (fun _ _ => ?_)
            refine GH.take 10 (v := (.pointer (some ⟨kb, 4, none⟩))) rfl (by kernel_rfl) (by kernel_rfl) (by kernel_rfl) (fun _ _ _ h => h) (Ex.cast (Ex.fieldAddr rfl Try.underlying41 rfl T.sz39 (by decide)) rfl) (ulS (ulS (ulC (ulC (ulS (ulC ulR)))))) (by decide) ?_
            refine GH.take 11 (v := (.pointer (some ⟨kb, 4, none⟩))) rfl (by kernel_rfl) (by kernel_rfl) (by kernel_rfl) (fun _ _ _ h => h) (Ex.cast (Ex.indexArr (m := 4) rfl rfl Try.underlying39 T.sz38 (by decide) (by decide)) rfl) (ulS (ulS (ulC (ulC (ulS (ulC ulR)))))) (by decide) ?_
            refine GH.one 12 rfl (by kernel_rfl) (Stp.st4 (cs' := [(.slice (some ⟨xq5.1, 0, none⟩) (n1 + 1) xq5.2.1), (.slice none 0 0), (.slice none 0 0), (.slice none 0 0), (.slice (some ⟨xq16.1, 0, none⟩) (n1 + 1) xq16.2.1), (.slice none 0 0), (.slice none 0 0), (.slice none 0 0)]) rfl rfl rfl T.sz38 rfl rfl rfl) (fun _ => (ulS (ulS (ulC (ulC (ulS (ulC ulR))))))) (fun _ _ => ?_)
            refine GH.done (by kernel_rfl) ?_
            refine GC.end0 rfl (fun wN HN => ?_)
            exact HN.frm (xq16, xq5) ⟨hq6.1, hq17.1⟩ (by rfl) (ulC (ulS (ulC (ulS (ulC (ulC ulR))))))
          refine GHs.cons rfl (Ex.wp (v := (.pointer (some ⟨kb, 0, none⟩))) (Ex.nilCheck rfl) (by decide)) (fun _ => (ulS (ulC (ulC (ulS (ulS (ulC ulR))))))) (fun _ _ => ?_) ?_
          · refine GH.take 10 (v := (.pointer (some ⟨kb, 4, none⟩))) rfl (by kernel_rfl) (by kernel_rfl) (by kernel_rfl) (fun _ _ _ h => h) (Ex.cast (Ex.fieldAddr rfl Try.underlying41 rfl T.sz39 (by decide)) rfl) (ulS (ulC (ulC (ulS (ulS (ulC ulR)))))) (by decide) ?_
            refine GH.one 8 rfl (by kernel_rfl) (Stp.appendOwn (i := 4) (xs := xs2) (sp := sp2) (vs := [(.int .i64 m)]) (L1 := (⟨bq15, [(.int .i64 m)], 3, true⟩ :: ⟨xq5.1, xs1 ++ [(.slice (some ⟨b, 0, none⟩) cap cap)] ++ xq5.2.2, 30, true⟩ :: ⟨bq4, [(.slice (some ⟨b, 0, none⟩) cap cap)], 30, true⟩ :: ⟨kb, [(.slice (some ⟨xq5.1, 0, none⟩) (n1 + 1) xq5.2.1), (.slice none 0 0), (.slice none 0 0), (.slice none 0 0), (.slice (some ⟨b2, 0, none⟩) n1 c2), (.slice none 0 0), (.slice none 0 0), (.slice none 0 0)], 41, true⟩ :: ⟨b, (mks m cap).map u32, 72, true⟩ :: R)) rfl rfl Try.underlying38 T.sz3 T.zr3 rfl T.by3 rfl (by omega) hc2 (fun wz hz => hz.rdOf (i := 0) rfl 0) rfl rfl (by omega) (by omega) rfl (by decide)) (fun _ => (ulS (ulS (ulC (ulC (ulS (ulC ulR))))))) (fun xq18 hq19 => ?_)
            refine GH.take 11 (v := (.pointer (some ⟨kb, 4, none⟩))) rfl (by kernel_rfl) (by kernel_rfl) (by kernel_rfl) (fun _ _ _ h => h) (Ex.cast (Ex.indexArr (m := 4) rfl rfl Try.underlying39 T.sz38 (by decide) (by decide)) rfl) (ulS (ulS (ulC (ulC (ulS (ulC ulR)))))) (by decide) ?_
            refine GH.one 12 rfl (by kernel_rfl) (Stp.st4 (cs' := [(.slice (some ⟨xq5.1, 0, none⟩) (n1 + 1) xq5.2.1), (.slice none 0 0), (.slice none 0 0), (.slice none 0 0), (.slice (some ⟨xq18.1, 0, none⟩) (n1 + 1) xq18.2.1), (.slice none 0 0), (.slice none 0 0), (.slice none 0 0)]) rfl rfl rfl T.sz38 rfl rfl rfl) (fun _ => (ulS (ulS (ulC (ulC (ulS (ulC ulR))))))) (fun _ _ => ?_)
            refine GH.done (by kernel_rfl) ?_
            refine GC.end0 rfl (fun wN HN => ?_)
            exact HN.frm (xq18, xq5) ⟨hq6.1, hq19.1⟩ (by rfl) (ulC (ulS (ulC (ulS (ulC (ulC ulR))))))
          exact GHs.nil
        refine GHs.cons rfl (Ex.wp (v := (.pointer (some ⟨kb, 0, none⟩))) (Ex.nilCheck rfl) (by decide)) (fun _ => (ulS (ulC (ulC (ulS (ulS (ulC ulR))))))) (fun _ _ => ?_) ?_
        · refine GH.take 10 (v := (.pointer (some ⟨kb, 4, none⟩))) rfl (by kernel_rfl) (by kernel_rfl) (by kernel_rfl) (fun _ _ _ h => h) (Ex.cast (Ex.fieldAddr rfl Try.underlying41 rfl T.sz39 (by decide)) rfl) (ulS (ulC (ulC (ulS (ulS (ulC ulR)))))) (by decide) ?_
          refine GH.one 5 rfl (by kernel_rfl) (Ex.wp (v := (.slice (some ⟨b2, 0, none⟩) n1 c2)) (Ex.load rfl T.ag38 (i := 3) rfl rfl) (by decide)) (fun _ => (ulS (ulC (ulC (ulS (ulS (ulC ulR))))))) (fun _ _ => ?_)
          refine GH.one 8 rfl (by kernel_rfl) (Stp.appendOwn (i := 4) (xs := xs2) (sp := sp2) (vs := [(.int .i64 m)]) (L1 := (⟨bq15, [(.int .i64 m)], 3, true⟩ :: ⟨xq5.1, xs1 ++ [(.slice (some ⟨b, 0, none⟩) cap cap)] ++ xq5.2.2, 30, true⟩ :: ⟨bq4, [(.slice (some ⟨b, 0, none⟩) cap cap)], 30, true⟩ :: ⟨kb, [(.slice (some ⟨xq5.1, 0, none⟩) (n1 + 1) xq5.2.1), (.slice none 0 0), (.slice none 0 0), (.slice none 0 0), (.slice (some ⟨b2, 0, none⟩) n1 c2), (.slice none 0 0), (.slice none 0 0), (.slice none 0 0)], 41, true⟩ :: ⟨b, (mks m cap).map u32, 72, true⟩ :: R)) rfl rfl Try.underlying38 T.sz3 T.zr3 rfl T.by3 rfl (by omega) hc2 (fun wz hz => hz.rdOf (i := 0) rfl 0) rfl rfl (by omega) (by omega) rfl (by decide)) (fun _ => (ulS (ulS (ulC (ulC (ulS (ulC ulR))))))) (fun xq20 hq21 => ?_)
          refine GH.take 11 (v := (.pointer (some ⟨kb, 4, none⟩))) rfl (by kernel_rfl) (by kernel_rfl) (by kernel_rfl) (fun _ _ _ h => h) (Ex.cast (Ex.indexArr (m := 4) rfl rfl Try.underlying39 T.sz38 (by decide) (by decide)) rfl) (ulS (ulS (ulC (ulC (ulS (ulC ulR)))))) (by decide) ?_
          refine GH.one 12 rfl (by kernel_rfl) (Stp.st4 (cs' := [(.slice (some ⟨xq5.1, 0, none⟩) (n1 + 1) xq5.2.1), (.slice none 0 0), (.slice none 0 0), (.slice none 0 0), (.slice (some ⟨xq20.1, 0, none⟩) (n1 + 1) xq20.2.1), (.slice none 0 0), (.slice none 0 0), (.slice none 0 0)]) rfl rfl rfl T.sz38 rfl rfl rfl) (fun _ => (ulS (ulS (ulC (ulC (ulS (ulC ulR))))))) (fun _ _ => ?_)
          refine GH.done (by kernel_rfl) ?_
          refine GC.end0 rfl (fun wN HN => ?_)
          exact HN.frm (xq20, xq5) ⟨hq6.1, hq21.1⟩ (by rfl) (ulC (ulS (ulC (ulS (ulC (ulC ulR))))))
        exact GHs.nil
      refine GHs.cons rfl (Ex.wp (v := (.pointer (some ⟨kb, 0, none⟩))) (Ex.nilCheck rfl) (by decide)) (fun _ => (ulC (ulC (ulS (ulS (ulC ulR)))))) (fun _ _ => ?_) ?_
      · refine GH.take 10 (v := (.pointer (some ⟨kb, 4, none⟩))) rfl (by kernel_rfl) (by kernel_rfl) (by kernel_rfl) (fun _ _ _ h => h) (Ex.cast (Ex.fieldAddr rfl Try.underlying41 rfl T.sz39 (by decide)) rfl) (ulC (ulC (ulS (ulS (ulC ulR))))) (by decide) ?_
        refine GH.many (rs := [5, 7]) (by kernel_rfl) (by simp) ?_
        refine GHs.cons rfl (Ex.wp (v := (.slice (some ⟨b2, 0, none⟩) n1 c2)) (Ex.load rfl T.ag38 (i := 2) rfl rfl) (by decide)) (fun _ => (ulC (ulC (ulS (ulS (ulC ulR)))))) (fun _ _ => ?_) ?_
        · refine GH.one 7 rfl (by kernel_rfl) (Stp.buildSlice (cs := [(.int .i64 m)]) (vs := [(0, (.int .i64 m))]) Try.underlying38 T.zr3 T.sz3 rfl (by decide) (by decide) (by first | rfl | kernel_rfl) (by decide)) (fun _ => (ulS (ulC (ulC (ulS (ulS (ulC ulR))))))) (fun bq22 _ => ?_)
          refine GH.one 8 rfl (by kernel_rfl) (Stp.appendOwn (i := 4) (xs := xs2) (sp := sp2) (vs := [(.int .i64 m)]) (L1 := (⟨bq22, [(.int .i64 m)], 3, true⟩ :: ⟨xq5.1, xs1 ++ [(.slice (some ⟨b, 0, none⟩) cap cap)] ++ xq5.2.2, 30, true⟩ :: ⟨bq4, [(.slice (some ⟨b, 0, none⟩) cap cap)], 30, true⟩ :: ⟨kb, [(.slice (some ⟨xq5.1, 0, none⟩) (n1 + 1) xq5.2.1), (.slice none 0 0), (.slice none 0 0), (.slice none 0 0), (.slice (some ⟨b2, 0, none⟩) n1 c2), (.slice none 0 0), (.slice none 0 0), (.slice none 0 0)], 41, true⟩ :: ⟨b, (mks m cap).map u32, 72, true⟩ :: R)) rfl rfl Try.underlying38 T.sz3 T.zr3 rfl T.by3 rfl (by omega) hc2 (fun wz hz => hz.rdOf (i := 0) rfl 0) rfl rfl (by omega) (by omega) rfl (by decide)) (fun _ => (ulS (ulS (ulC (ulC (ulS (ulC ulR))))))) (fun xq23 hq24 => ?_)
          refine GH.take 11 (v := (.pointer (some ⟨kb, 4, none⟩))) rfl (by kernel_rfl) (by kernel_rfl) (by kernel_rfl) (fun _ _ _ h => h) (Ex.cast (Ex.indexArr (m := 4) rfl rfl Try.underlying39 T.sz38 (by decide) (by decide)) rfl) (ulS (ulS (ulC (ulC (ulS (ulC ulR)))))) (by decide) ?_
          refine GH.one 12 rfl (by kernel_rfl) (Stp.st4 (cs' := [(.slice (some ⟨xq5.1, 0, none⟩) (n1 + 1) xq5.2.1), (.slice none 0 0), (.slice none 0 0), (.slice none 0 0), (.slice (some ⟨xq23.1, 0, none⟩) (n1 + 1) xq23.2.1), (.slice none 0 0), (.slice none 0 0), (.slice none 0 0)]) rfl rfl rfl T.sz38 rfl rfl rfl) (fun _ => (ulS (ulS (ulC (ulC (ulS (ulC ulR))))))) (fun _ _ => ?_)
          refine GH.done (by kernel_rfl) ?_
          refine GC.end0 rfl (fun wN HN => ?_)
          exact HN.frm (xq23, xq5) ⟨hq6.1, hq24.1⟩ (by rfl) (ulC (ulS (ulC (ulS (ulC (ulC ulR))))))
        refine GHs.cons rfl (Stp.buildSlice (cs := [(.int .i64 m)]) (vs := [(0, (.int .i64 m))]) Try.underlying38 T.zr3 T.sz3 rfl (by decide) (by decide) (by first | rfl | kernel_rfl) (by decide)) (fun _ => (ulS (ulC (ulC (ulS (ulS (ulC ulR))))))) (fun bq25 _ => ?_) ?_
        · refine GH.one 5 rfl (by kernel_rfl) (Ex.wp (v := (.slice (some ⟨b2, 0, none⟩) n1 c2)) (Ex.load rfl T.ag38 (i := 3) rfl rfl) (by decide)) (fun _ => (ulS (ulC (ulC (ulS (ulS (ulC ulR))))))) (fun _ _ => ?_)
          refine GH.one 8 rfl (by kernel_rfl) (Stp.appendOwn (i := 4) (xs := xs2) (sp := sp2) (vs := [(.int .i64 m)]) (L1 := (⟨bq25, [(.int .i64 m)], 3, true⟩ :: ⟨xq5.1, xs1 ++ [(.slice (some ⟨b, 0, none⟩) cap cap)] ++ xq5.2.2, 30, true⟩ :: ⟨bq4, [(.slice (some ⟨b, 0, none⟩) cap cap)], 30, true⟩ :: ⟨kb, [(.slice (some ⟨xq5.1, 0, none⟩) (n1 + 1) xq5.2.1), (.slice none 0 0), (.slice none 0 0), (.slice none 0 0), (.slice (some ⟨b2, 0, none⟩) n1 c2), (.slice none 0 0), (.slice none 0 0), (.slice none 0 0)], 41, true⟩ :: ⟨b, (mks m cap).map u32, 72, true⟩ :: R)) rfl rfl Try.underlying38 T.sz3 T.zr3 rfl T.by3 rfl (by omega) hc2 (fun wz hz => hz.rdOf (i := 0) rfl 0) rfl rfl (by omega) (by omega) rfl (by decide)) (fun _ => (ulS (ulS (ulC (ulC (ulS (ulC ulR))))))) (fun xq26 hq27 => ?_)
          refine GH.take 11 (v := (.pointer (some ⟨kb, 4, none⟩))) rfl (by kernel_rfl) (by kernel_rfl) (by kernel_rfl) (fun _ _ _ h => h) (Ex.cast (Ex.indexArr (m := 4) rfl rfl Try.underlying39 T.sz38 (by decide) (by decide)) rfl) (ulS (ulS (ulC (ulC (ulS (ulC ulR)))))) (by decide) ?_
          refine GH.one 12 rfl (by kernel_rfl) (Stp.st4 (cs' := [(.slice (some ⟨xq5.1, 0, none⟩) (n1 + 1) xq5.2.1), (.slice none 0 0), (.slice none 0 0), (.slice none 0 0), (.slice (some ⟨xq26.1, 0, none⟩) (n1 + 1) xq26.2.1), (.slice none 0 0), (.slice none 0 0), (.slice none 0 0)]) rfl rfl rfl T.sz38 rfl rfl rfl) (fun _ => (ulS (ulS (ulC (ulC (ulS (ulC ulR))))))) (fun _ _ => ?_)
          refine GH.done (by kernel_rfl) ?_
          refine GC.end0 rfl (fun wN HN => ?_)
          exact HN.frm (xq26, xq5) ⟨hq6.1, hq27.1⟩ (by rfl) (ulC (ulS (ulC (ulS (ulC (ulC ulR))))))
        exact GHs.nil
      exact GHs.nil
    refine GHs.cons rfl (Stp.buildSlice (cs := [(.int .i64 m)]) (vs := [(0, (.int .i64 m))]) Try.underlying38 T.zr3 T.sz3 rfl (by decide) (by decide) (by first | rfl | kernel_rfl) (by decide)) (fun _ => (ulS (ulC (ulC (ulS (ulS (ulC ulR))))))) (fun bq28 _ => ?_) ?_
    · refine GH.many (rs := [2, 9]) (by kernel_rfl) (by simp) ?_
      refine GHs.cons rfl (Ex.wp (v := (.pointer (some ⟨kb, 0, none⟩))) (Ex.nilCheck rfl) (by decide)) (fun _ => (ulS (ulC (ulC (ulS (ulS (ulC ulR))))))) (fun _ _ => ?_) ?_
      · refine GH.take 3 (v := (.pointer (some ⟨kb, 4, none⟩))) rfl (by kernel_rfl) (by kernel_rfl) (by kernel_rfl) (fun _ _ _ h => h) (Ex.cast (Ex.fieldAddr rfl Try.underlying41 rfl T.sz39 (by decide)) rfl) (ulS (ulC (ulC (ulS (ulS (ulC ulR)))))) (by decide) ?_
        refine GH.take 4 (v := (.pointer (some ⟨kb, 4, none⟩))) rfl (by kernel_rfl) (by kernel_rfl) (by kernel_rfl) (fun _ _ _ h => h) (Ex.cast (Ex.indexArr (m := 4) rfl rfl Try.underlying39 T.sz38 (by decide) (by decide)) rfl) (ulS (ulC (ulC (ulS (ulS (ulC ulR)))))) (by decide) ?_
        refine GH.many (rs := [5, 9]) (by kernel_rfl) (by simp) ?_
        refine GHs.cons rfl (Ex.wp (v := (.slice (some ⟨b2, 0, none⟩) n1 c2)) (Ex.load rfl T.ag38 (i := 3) rfl rfl) (by decide)) (fun _ => (ulS (ulC (ulC (ulS (ulS (ulC ulR))))))) (fun _ _ => ?_) ?_
        · refine GH.many (rs := [8, 9]) (by kernel_rfl) (by simp) ?_
          refine GHs.cons rfl (Stp.appendOwn (i := 4) (xs := xs2) (sp := sp2) (vs := [(.int .i64 m)]) (L1 := (⟨bq28, [(.int .i64 m)], 3, true⟩ :: ⟨xq5.1, xs1 ++ [(.slice (some ⟨b, 0, none⟩) cap cap)] ++ xq5.2.2, 30, true⟩ :: ⟨bq4, [(.slice (some ⟨b, 0, none⟩) cap cap)], 30, true⟩ :: ⟨kb, [(.slice (some ⟨xq5.1, 0, none⟩) (n1 + 1) xq5.2.1), (.slice none 0 0), (.slice none 0 0), (.slice none 0 0), (.slice (some ⟨b2, 0, none⟩) n1 c2), (.slice none 0 0), (.slice none 0 0), (.slice none 0 0)], 41, true⟩ :: ⟨b, (mks m cap).map u32, 72, true⟩ :: R)) rfl rfl Try.underlying38 T.sz3 T.zr3 rfl T.by3 rfl (by omega) hc2 (fun wz hz => hz.rdOf (i := 0) rfl 0) rfl rfl (by omega) (by omega) rfl (by decide)) (fun _ => (ulS (ulS (ulC (ulC (ulS (ulC ulR))))))) (fun xq29 hq30 => ?_) ?_
          · refine GH.one 9 rfl (by kernel_rfl) (Ex.wp (v := (.pointer (some ⟨kb, 0, none⟩))) (Ex.nilCheck rfl) (by decide)) (fun _ => (ulS (ulS (ulC (ulC (ulS (ulC ulR))))))) (fun _ _ => ?_)
            refine GH.take 10 (v := (.pointer (some ⟨kb, 4, none⟩))) rfl (by kernel_rfl) (by kernel_rfl) (by kernel_rfl) (fun _ _ _ h => h) (Ex.cast (Ex.fieldAddr rfl Try.underlying41 rfl T.sz39 (by decide)) rfl) (ulS (ulS (ulC (ulC (ulS (ulC ulR)))))) (by decide) ?_
            refine GH.take 11 (v := (.pointer (some ⟨kb, 4, none⟩))) rfl (by kernel_rfl) (by kernel_rfl) (by kernel_rfl) (fun _ _ _ h => h) (Ex.cast (Ex.indexArr (m := 4) rfl rfl Try.underlying39 T.sz38 (by decide) (by decide)) rfl) (ulS (ulS (ulC (ulC (ulS (ulC ulR)))))) (by decide) ?_
            refine GH.one 12 rfl (by kernel_rfl) (Stp.st4 (cs' := [(.slice (some ⟨xq5.1, 0, none⟩) (n1 + 1) xq5.2.1), (.slice none 0 0), (.slice none 0 0), (.slice none 0 0), (.slice (some ⟨xq29.1, 0, none⟩) (n1 + 1) xq29.2.1), (.slice none 0 0), (.slice none 0 0), (.slice none 0 0)]) rfl rfl rfl T.sz38 rfl rfl rfl) (fun _ => (ulS (ulS (ulC (ulC (ulS (ulC ulR))))))) (fun _ _ => ?_)
            refine GH.done (by kernel_rfl) ?_
            refine GC.end0 rfl (fun wN HN => ?_)
            exact HN.frm (xq29, xq5) ⟨hq6.1, hq30.1⟩ (by rfl) (ulC (ulS (ulC (ulS (ulC (ulC ulR))))))
          refine GHs.cons rfl (Ex.wp (v := (.pointer (some ⟨kb, 0, none⟩))) (Ex.nilCheck rfl) (by decide)) (fun _ => (ulS (ulC (ulC (ulS (ulS (ulC ulR))))))) (fun _ _ => ?_) ?_
          · refine GH.take 10 (v := (.pointer (some ⟨kb, 4, none⟩))) rfl (by kernel_rfl) (by kernel_rfl) (by kernel_rfl) (fun _ _ _ h => h) (Ex.cast (Ex.fieldAddr rfl Try.underlying41 rfl T.sz39 (by decide)) rfl) (ulS (ulC (ulC (ulS (ulS (ulC ulR)))))) (by decide) ?_
            refine GH.one 8 rfl (by kernel_rfl) (Stp.appendOwn (i := 4) (xs := xs2) (sp := sp2) (vs := [(.int .i64 m)]) (L1 := (⟨bq28, [(.int .i64 m)], 3, true⟩ :: ⟨xq5.1, xs1 ++ [(.slice (some ⟨b, 0, none⟩) cap cap)] ++ xq5.2.2, 30, true⟩ :: ⟨bq4, [(.slice (some ⟨b, 0, none⟩) cap cap)], 30, true⟩ :: ⟨kb, [(.slice (some ⟨xq5.1, 0, none⟩) (n1 + 1) xq5.2.1), (.slice none 0 0), (.slice none 0 0), (.slice none 0 0), (.slice (some ⟨b2, 0, none⟩) n1 c2), (.slice none 0 0), (.slice none 0 0), (.slice none 0 0)], 41, true⟩ :: ⟨b, (mks m cap).map u32, 72, true⟩ :: R)) rfl rfl Try.underlying38 T.sz3 T.zr3 rfl T.by3 rfl (by omega) hc2 (fun wz hz => hz.rdOf (i := 0) rfl 0) rfl rfl (by omega) (by omega) rfl (by decide)) (fun _ => (ulS (ulS (ulC (ulC (ulS (ulC ulR))))))) (fun xq31 hq32 => ?_)
            refine GH.take 11 (v := (.pointer (some ⟨kb, 4, none⟩))) rfl (by kernel_rfl) (by kernel_rfl) (by kernel_rfl) (fun _ _ _ h => h) (Ex.cast (Ex.indexArr (m := 4) rfl rfl Try.underlying39 T.sz38 (by decide) (by decide)) rfl) (ulS (ulS (ulC (ulC (ulS (ulC ulR)))))) (by decide) ?_
            refine GH.one 12 rfl (by kernel_rfl) (Stp.st4 (cs' := [(.slice (some ⟨xq5.1, 0, none⟩) (n1 + 1) xq5.2.1), (.slice none 0 0), (.slice none 0 0), (.slice none 0 0), (.slice (some ⟨xq31.1, 0, none⟩) (n1 + 1) xq31.2.1), (.slice none 0 0), (.slice none 0 0), (.slice none 0 0)]) rfl rfl rfl T.sz38 rfl rfl rfl) (fun _ => (ulS (ulS (ulC (ulC (ulS (ulC ulR))))))) (fun _ _ => ?_)
            refine GH.done (by kernel_rfl) ?_
            refine GC.end0 rfl (fun wN HN => ?_)
            exact HN.frm (xq31, xq5) ⟨hq6.1, hq32.1⟩ (by rfl) (ulC (ulS (ulC (ulS (ulC (ulC ulR))))))
          exact GHs.nil
        refine GHs.cons rfl (Ex.wp (v := (.pointer (some ⟨kb, 0, none⟩))) (Ex.nilCheck rfl) (by decide)) (fun _ => (ulS (ulC (ulC (ulS (ulS (ulC ulR))))))) (fun _ _ => ?_) ?_
        · refine GH.take 10 (v := (.pointer (some ⟨kb, 4, none⟩))) rfl (by kernel_rfl) (by kernel_rfl) (by kernel_rfl) (fun _ _ _ h => h) (Ex.cast (Ex.fieldAddr rfl Try.underlying41 rfl T.sz39 (by decide)) rfl) (ulS (ulC (ulC (ulS (ulS (ulC ulR)))))) (by decide) ?_
          refine GH.one 5 rfl (by kernel_rfl) (Ex.wp (v := (.slice (some ⟨b2, 0, none⟩) n1 c2)) (Ex.load rfl T.ag38 (i := 3) rfl rfl) (by decide)) (fun _ => (ulS (ulC (ulC (ulS (ulS (ulC ulR))))))) (fun _ _ => ?_)
          refine GH.one 8 rfl (by kernel_rfl) (Stp.appendOwn (i := 4) (xs := xs2) (sp := sp2) (vs := [(.int .i64 m)]) (L1 := (⟨bq28, [(.int .i64 m)], 3, true⟩ :: ⟨xq5.1, xs1 ++ [(.slice (some ⟨b, 0, none⟩) cap cap)] ++ xq5.2.2, 30, true⟩ :: ⟨bq4, [(.slice (some ⟨b, 0, none⟩) cap cap)], 30, true⟩ :: ⟨kb, [(.slice (some ⟨xq5.1, 0, none⟩) (n1 + 1) xq5.2.1), (.slice none 0 0), (.slice none 0 0), (.slice none 0 0), (.slice (some ⟨b2, 0, none⟩) n1 c2), (.slice none 0 0), (.slice none 0 0), (.slice none 0 0)], 41, true⟩ :: ⟨b, (mks m cap).map u32, 72, true⟩ :: R)) rfl rfl Try.underlying38 T.sz3 T.zr3 rfl T.by3 rfl (by omega) hc2 (fun wz hz => hz.rdOf (i := 0) rfl 0) rfl rfl (by omega) (by omega) rfl (by decide)) (fun _ => (ulS (ulS (ulC (ulC (ulS (ulC ulR))))))) (fun xq33 hq34 => ?_)
          refine GH.take 11 (v := (.pointer (some ⟨kb, 4, none⟩))) rfl (by kernel_rfl) (by kernel_rfl) (by kernel_rfl) (fun _ _ _ h => h) (Ex.cast (Ex.indexArr (m := 4) rfl rfl Try.underlying39 T.sz38 (by decide) (by decide)) rfl) (ulS (ulS (ulC (ulC (ulS (ulC ulR)))))) (by decide) ?_
          refine GH.one 12 rfl (by kernel_rfl) (Stp.st4 (cs' := [(.slice (some ⟨xq5.1, 0, none⟩) (n1 + 1) xq5.2.1), (.slice none 0 0), (.slice none 0 0), (.slice none 0 0), (.slice (some ⟨xq33.1, 0, none⟩) (n1 + 1) xq33.2.1), (.slice none 0 0), (.slice none 0 0), (.slice none 0 0)]) rfl rfl rfl T.sz38 rfl rfl rfl) (fun _ => (ulS (ulS (ulC (ulC (ulS (ulC ulR))))))) (fun _ _ => ?_)
          refine GH.done (by kernel_rfl) ?_
          refine GC.end0 rfl (fun wN HN => ?_)
          exact HN.frm (xq33, xq5) ⟨hq6.1, hq34.1⟩ (by rfl) (ulC (ulS (ulC (ulS (ulC (ulC ulR))))))
        exact GHs.nil
      refine GHs.cons rfl (Ex.wp (v := (.pointer (some ⟨kb, 0, none⟩))) (Ex.nilCheck rfl) (by decide)) (fun _ => (ulS (ulC (ulC (ulS (ulS (ulC ulR))))))) (fun _ _ => ?_) ?_
      · refine GH.take 10 (v := (.pointer (some ⟨kb, 4, none⟩))) rfl (by kernel_rfl) (by kernel_rfl) (by kernel_rfl) (fun _ _ _ h => h) (Ex.cast (Ex.fieldAddr rfl Try.underlying41 rfl T.sz39 (by decide)) rfl) (ulS (ulC (ulC (ulS (ulS (ulC ulR)))))) (by decide) ?_
        refine GH.one 2 rfl (by kernel_rfl) (Ex.wp (v := (.pointer (some ⟨kb, 0, none⟩))) (Ex.nilCheck rfl) (by decide)) (fun _ => (ulS (ulC (ulC (ulS (ulS (ulC ulR))))))) (fun _ _ => ?_)
        refine GH.take 3 (v := (.pointer (some ⟨kb, 4, none⟩))) rfl (by kernel_rfl) (by kernel_rfl) (by kernel_rfl) (fun _ _ _ h => h) (Ex.cast (Ex.fieldAddr rfl Try.underlying41 rfl T.sz39 (by decide)) rfl) (ulS (ulC (ulC (ulS (ulS (ulC ulR)))))) (by decide) ?_
        refine GH.take 4 (v := (.pointer (some ⟨kb, 4, none⟩))) rfl (by kernel_rfl) (by kernel_rfl) (by kernel_rfl) (fun _ _ _ h => h) (Ex.cast (Ex.indexArr (m := 4) rfl rfl Try.underlying39 T.sz38 (by decide) (by decide)) rfl) (ulS (ulC (ulC (ulS (ulS (ulC ulR)))))) (by decide) ?_
        refine GH.one 5 rfl (by kernel_rfl) (Ex.wp (v := (.slice (some ⟨b2, 0, none⟩) n1 c2)) (Ex.load rfl T.ag38 (i := 3) rfl rfl) (by decide)) (fun _ => (ulS (ulC (ulC (ulS (ulS (ulC ulR))))))) (fun _ _ => ?_)
        refine GH.one 8 rfl (by kernel_rfl) (Stp.appendOwn (i := 4) (xs := xs2) (sp := sp2) (vs := [(.int .i64 m)]) (L1 := (⟨bq28, [(.int .i64 m)], 3, true⟩ :: ⟨xq5.1, xs1 ++ [(.slice (some ⟨b, 0, none⟩) cap cap)] ++ xq5.2.2, 30, true⟩ :: ⟨bq4, [(.slice (some ⟨b, 0, none⟩) cap cap)], 30, true⟩ :: ⟨kb, [(.slice (some ⟨xq5.1, 0, none⟩) (n1 + 1) xq5.2.1), (.slice none 0 0), (.slice none 0 0), (.slice none 0 0), (.slice (some ⟨b2, 0, none⟩) n1 c2), (.slice none 0 0), (.slice none 0 0), (.slice none 0 0)], 41, true⟩ :: ⟨b, (mks m cap).map u32, 72, true⟩ :: R)) rfl rfl Try.underlying38 T.sz3 T.zr3 rfl T.by3 rfl (by omega) hc2 (fun wz hz => hz.rdOf (i := 0) rfl 0) rfl rfl (by omega) (by omega) rfl (by decide)) (fun _ => (ulS (ulS (ulC (ulC (ulS (ulC ulR))))))) (fun xq35 hq36 => ?_)
        refine GH.take 11 (v := (.pointer (some ⟨kb, 4, none⟩))) rfl (by kernel_rfl) (by kernel_rfl) (by kernel_rfl) (fun _ _ _ h => h) (Ex.cast (Ex.indexArr (m := 4) rfl rfl Try.underlying39 T.sz38 (by decide) (by decide)) rfl) (ulS (ulS (ulC (ulC (ulS (ulC ulR)))))) (by decide) ?_
        refine GH.one 12 rfl (by kernel_rfl) (Stp.st4 (cs' := [(.slice (some ⟨xq5.1, 0, none⟩) (n1 + 1) xq5.2.1), (.slice none 0 0), (.slice none 0 0), (.slice none 0 0), (.slice (some ⟨xq35.1, 0, none⟩) (n1 + 1) xq35.2.1), (.slice none 0 0), (.slice none 0 0), (.slice none 0 0)]) rfl rfl rfl T.sz38 rfl rfl rfl) (fun _ => (ulS (ulS (ulC (ulC (ulS (ulC ulR))))))) (fun _ _ => ?_)
        refine GH.done (by kernel_rfl) ?_
        refine GC.end0 rfl (fun wN HN => ?_)
        exact HN.frm (xq35, xq5) ⟨hq6.1, hq36.1⟩ (by rfl) (ulC (ulS (ulC (ulS (ulC (ulC ulR))))))
      exact GHs.nil
    refine GHs.cons rfl (Ex.wp (v := (.pointer (some ⟨kb, 0, none⟩))) (Ex.nilCheck rfl) (by decide)) (fun _ => (ulC (ulC (ulS (ulS (ulC ulR)))))) (fun _ _ => ?_) ?_
    · refine GH.take 10 (v := (.pointer (some ⟨kb, 4, none⟩))) rfl (by kernel_rfl) (by kernel_rfl) (by kernel_rfl) (fun _ _ _ h => h) (Ex.cast (Ex.fieldAddr rfl Try.underlying41 rfl T.sz39 (by decide)) rfl) (ulC (ulC (ulS (ulS (ulC ulR))))) (by decide) ?_
      refine GH.many (rs := [2, 7]) (by kernel_rfl) (by simp) ?_
      refine GHs.cons rfl (Ex.wp (v := (.pointer (some ⟨kb, 0, none⟩))) (Ex.nilCheck rfl) (by decide)) (fun _ => (ulC (ulC (ulS (ulS (ulC ulR)))))) (fun _ _ => ?_) ?_
      · refine GH.take 3 (v := (.pointer (some ⟨kb, 4, none⟩))) rfl (by kernel_rfl) (by kernel_rfl) (by kernel_rfl) (fun _ _ _ h => h) (Ex.cast (Ex.fieldAddr rfl Try.underlying41 rfl T.sz39 (by decide)) rfl) (ulC (ulC (ulS (ulS (ulC ulR))))) (by decide) ?_
        refine GH.take 4 (v := (.pointer (some ⟨kb, 4, none⟩))) rfl (by kernel_rfl) (by kernel_rfl) (by kernel_rfl) (fun _ _ _ h => h) (Ex.cast (Ex.indexArr (m := 4) rfl rfl Try.underlying39 T.sz38 (by decide) (by decide)) rfl) (ulC (ulC (ulS (ulS (ulC ulR))))) (by decide) ?_
        refine GH.many (rs := [5, 7]) (by kernel_rfl) (by simp) ?_
        refine GHs.cons rfl (Ex.wp (v := (.slice (some ⟨b2, 0, none⟩) n1 c2)) (Ex.load rfl T.ag38 (i := 2) rfl rfl) (by decide)) (fun _ => (ulC (ulC (ulS (ulS (ulC ulR)))))) (fun _ _ => ?_) ?_
        · refine GH.one 7 rfl (by kernel_rfl) (Stp.buildSlice (cs := [(.int .i64 m)]) (vs := [(0, (.int .i64 m))]) Try.underlying38 T.zr3 T.sz3 rfl (by decide) (by decide) (by first | rfl | kernel_rfl) (by decide)) (fun _ => (ulS (ulC (ulC (ulS (ulS (ulC ulR))))))) (fun bq37 _ => ?_)
          refine GH.one 8 rfl (by kernel_rfl) (Stp.appendOwn (i := 4) (xs := xs2) (sp := sp2) (vs := [(.int .i64 m)]) (L1 := (⟨bq37, [(.int .i64 m)], 3, true⟩ :: ⟨xq5.1, xs1 ++ [(.slice (some ⟨b, 0, none⟩) cap cap)] ++ xq5.2.2, 30, true⟩ :: ⟨bq4, [(.slice (some ⟨b, 0, none⟩) cap cap)], 30, true⟩ :: ⟨kb, [(.slice (some ⟨xq5.1, 0, none⟩) (n1 + 1) xq5.2.1), (.slice none 0 0), (.slice none 0 0), (.slice none 0 0), (.slice (some ⟨b2, 0, none⟩) n1 c2), (.slice none 0 0), (.slice none 0 0), (.slice none 0 0)], 41, true⟩ :: ⟨b, (mks m cap).map u32, 72, true⟩ :: R)) rfl rfl Try.underlying38 T.sz3 T.zr3 rfl T.by3 rfl (by omega) hc2 (fun wz hz => hz.rdOf (i := 0) rfl 0) rfl rfl (by omega) (by omega) rfl (by decide)) (fun _ => (ulS (ulS (ulC (ulC (ulS (ulC ulR))))))) (fun xq38 hq39 => ?_)
          refine GH.take 11 (v := (.pointer (some ⟨kb, 4, none⟩))) rfl (by kernel_rfl) (by kernel_rfl) (by kernel_rfl) (fun _ _ _ h => h) (Ex.cast (Ex.indexArr (m := 4) rfl rfl Try.underlying39 T.sz38 (by decide) (by decide)) rfl) (ulS (ulS (ulC (ulC (ulS (ulC ulR)))))) (by decide) ?_
          refine GH.one 12 rfl (by kernel_rfl) (Stp.st4 (cs' := [(.slice (some ⟨xq5.1, 0, none⟩) (n1 + 1) xq5.2.1), (.slice none 0 0), (.slice none 0 0), (.slice none 0 0), (.slice (some ⟨xq38.1, 0, none⟩) (n1 + 1) xq38.2.1), (.slice none 0 0), (.slice none 0 0), (.slice none 0 0)]) rfl rfl rfl T.sz38 rfl rfl rfl) (fun _ => (ulS (ulS (ulC (ulC (ulS (ulC ulR))))))) (fun _ _ => ?_)
          refine GH.done (by kernel_rfl) ?_
          refine GC.end0 rfl (fun wN HN => ?_)
          exact HN.frm (xq38, xq5) ⟨hq6.1, hq39.1⟩ (by rfl) (ulC (ulS (ulC (ulS (ulC (ulC ulR))))))
        refine GHs.cons rfl (Stp.buildSlice (cs := [(.int .i64 m)]) (vs := [(0, (.int .i64 m))]) Try.underlying38 T.zr3 T.sz3 rfl (by decide) (by decide) (by first | rfl | kernel_rfl) (by decide)) (fun _ => (ulS (ulC (ulC (ulS (ulS (ulC ulR))))))) (fun bq40 _ => ?_) ?_
        · refine GH.one 5 rfl (by kernel_rfl) (Ex.wp (v := (.slice (some ⟨b2, 0, none⟩) n1 c2)) (Ex.load rfl T.ag38 (i := 3) rfl rfl) (by decide)) (fun _ => (ulS (ulC (ulC (ulS (ulS (ulC ulR))))))) (fun _ _ => ?_)
          refine GH.one 8 rfl (by kernel_rfl) (Stp.appendOwn (i := 4) (xs := xs2) (sp := sp2) (vs := [(.int .i64 m)]) (L1 := (⟨bq40, [(.int .i64 m)], 3, true⟩ :: ⟨xq5.1, xs1 ++ [(.slice (some ⟨b, 0, none⟩) cap cap)] ++ xq5.2.2, 30, true⟩ :: ⟨bq4, [(.slice (some ⟨b, 0, none⟩) cap cap)], 30, true⟩ :: ⟨kb, [(.slice (some ⟨xq5.1, 0, none⟩) (n1 + 1) xq5.2.1), (.slice none 0 0), (.slice none 0 0), (.slice none 0 0), (.slice (some ⟨b2, 0, none⟩) n1 c2), (.slice none 0 0), (.slice none 0 0), (.slice none 0 0)], 41, true⟩ :: ⟨b, (mks m cap).map u32, 72, true⟩ :: R)) rfl rfl Try.underlying38 T.sz3 T.zr3 rfl T.by3 rfl (by omega) hc2 (fun wz hz => hz.rdOf (i := 0) rfl 0) rfl rfl (by omega) (by omega) rfl (by decide)) (fun _ => (ulS (ulS (ulC (ulC (ulS (ulC ulR))))))) (fun xq41 hq42 => ?_)
          refine GH.take 11 (v := (.pointer (some ⟨kb, 4, none⟩))) rfl (by kernel_rfl) (by kernel_rfl) (by kernel_rfl) (fun _ _ _ h => h) (Ex.cast (Ex.indexArr (m := 4) rfl rfl Try.underlying39 T.sz38 (by decide) (by decide)) rfl) (ulS (ulS (ulC (ulC (ulS (ulC ulR)))))) (by decide) ?_
          refine GH.one 12 rfl (by kernel_rfl) (Stp.st4 (cs' := [(.slice (some ⟨xq5.1, 0, none⟩) (n1 + 1) xq5.2.1), (.slice none 0 0), (.slice none 0 0), (.slice none 0 0), (.slice (some ⟨xq41.1, 0, none⟩) (n1 + 1) xq41.2.1), (.slice none 0 0), (.slice none 0 0), (.slice none 0 0)]) rfl rfl rfl T.sz38 rfl rfl rfl) (fun _ => (ulS (ulS (ulC (ulC (ulS (ulC ulR))))))) (fun _ _ => ?_)
          refine GH.done (by kernel_rfl) ?_
          refine GC.end0 rfl (fun wN HN => ?_)
          exact HN.frm (xq41, xq5) ⟨hq6.1, hq42.1⟩ (by rfl) (ulC (ulS (ulC (ulS (ulC (ulC ulR))))))
        exact GHs.nil
      refine GHs.cons rfl (Stp.buildSlice (cs := [(.int .i64 m)]) (vs := [(0, (.int .i64 m))]) Try.underlying38 T.zr3 T.sz3 rfl (by decide) (by decide) (by first | rfl | kernel_rfl) (by decide)) (fun _ => (ulS (ulC (ulC (ulS (ulS (ulC ulR))))))) (fun bq43 _ => ?_) ?_
      · refine GH.one 2 rfl (by kernel_rfl) (Ex.wp (v := (.pointer (some ⟨kb, 0, none⟩))) (Ex.nilCheck rfl) (by decide)) (fun _ => (ulS (ulC (ulC (ulS (ulS (ulC ulR))))))) (fun _ _ => ?_)
        refine GH.take 3 (v := (.pointer (some ⟨kb, 4, none⟩))) rfl (by kernel_rfl) (by kernel_rfl) (by kernel_rfl) (fun _ _ _ h => h) (Ex.cast (Ex.fieldAddr rfl Try.underlying41 rfl T.sz39 (by decide)) rfl) (ulS (ulC (ulC (ulS (ulS (ulC ulR)))))) (by decide) ?_
        refine GH.take 4 (v := (.pointer (some ⟨kb, 4, none⟩))) rfl (by kernel_rfl) (by kernel_rfl) (by kernel_rfl) (fun _ _ _ h => h) (Ex.cast (Ex.indexArr (m := 4) rfl rfl Try.underlying39 T.sz38 (by decide) (by decide)) rfl) (ulS (ulC (ulC (ulS (ulS (ulC ulR)))))) (by decide) ?_
        refine GH.one 5 rfl (by kernel_rfl) (Ex.wp (v := (.slice (some ⟨b2, 0, none⟩) n1 c2)) (Ex.load rfl T.ag38 (i := 3) rfl rfl) (by decide)) (fun _ => (ulS (ulC (ulC (ulS (ulS (ulC ulR))))))) (fun _ _ => ?_)
        refine GH.one 8 rfl (by kernel_rfl) (Stp.appendOwn (i := 4) (xs := xs2) (sp := sp2) (vs := [(.int .i64 m)]) (L1 := (⟨bq43, [(.int .i64 m)], 3, true⟩ :: ⟨xq5.1, xs1 ++ [(.slice (some ⟨b, 0, none⟩) cap cap)] ++ xq5.2.2, 30, true⟩ :: ⟨bq4, [(.slice (some ⟨b, 0, none⟩) cap cap)], 30, true⟩ :: ⟨kb, [(.slice (some ⟨xq5.1, 0, none⟩) (n1 + 1) xq5.2.1), (.slice none 0 0), (.slice none 0 0), (.slice none 0 0), (.slice (some ⟨b2, 0, none⟩) n1 c2), (.slice none 0 0), (.slice none 0 0), (.slice none 0 0)], 41, true⟩ :: ⟨b, (mks m cap).map u32, 72, true⟩ :: R)) rfl rfl Try.underlying38 T.sz3 T.zr3 rfl T.by3 rfl (by omega) hc2 (fun wz hz => hz.rdOf (i := 0) rfl 0) rfl rfl (by omega) (by omega) rfl (by decide)) (fun _ => (ulS (ulS (ulC (ulC (ulS (ulC ulR))))))) (fun xq44 hq45 => ?_)
        refine GH.take 11 (v := (.pointer (some ⟨kb, 4, none⟩))) rfl (by kernel_rfl) (by kernel_rfl) (by kernel_rfl) (fun _ _ _ h => h) (Ex.cast (Ex.indexArr (m := 4) rfl rfl Try.underlying39 T.sz38 (by decide) (by decide)) rfl) (ulS (ulS (ulC (ulC (ulS (ulC ulR)))))) (by decide) ?_
        refine GH.one 12 rfl (by kernel_rfl) (Stp.st4 (cs' := [(.slice (some ⟨xq5.1, 0, none⟩) (n1 + 1) xq5.2.1), (.slice none 0 0), (.slice none 0 0), (.slice none 0 0), (.slice (some ⟨xq44.1, 0, none⟩) (n1 + 1) xq44.2.1), (.slice none 0 0), (.slice none 0 0), (.slice none 0 0)]) rfl rfl rfl T.sz38 rfl rfl rfl) (fun _ => (ulS (ulS (ulC (ulC (ulS (ulC ulR))))))) (fun _ _ => ?_)
        refine GH.done (by kernel_rfl) ?_
        refine GC.end0 rfl (fun wN HN => ?_)
        exact HN.frm (xq44, xq5) ⟨hq6.1, hq45.1⟩ (by rfl) (ulC (ulS (ulC (ulS (ulC (ulC ulR))))))
      exact GHs.nil
    exact GHs.nil

set_option maxRecDepth 100000 in
set_option maxHeartbeats 1000000 in
theorem book_p11 (w0 : World) (R : List Blk) (W H : Int) (kb : Nat) (m : Int) (b n cap : Nat) (cs : List Value) (n1 b1 c1 b2 c2 : Nat) (xs1 sp1 xs2 sp2 : List Value) (w : World) (hcap : cs.length = cap) (hb : cap ≤ 9223372036854775806) (hn1 : n1 ≤ 1000) (hx1 : xs1.length = n1) (hx2 : xs2.length = n1) (hc1 : (xs1 ++ sp1).length = c1 * 1) (hc2 : (xs2 ++ sp2).length = c2 * 1) (hp0 : Hp None w0 (⟨kb, [(.slice (some ⟨b1, 0, none⟩) n1 c1), (.slice none 0 0), (.slice none 0 0), (.slice none 0 0), (.slice (some ⟨b2, 0, none⟩) n1 c2), (.slice none 0 0), (.slice none 0 0), (.slice none 0 0)], 41, true⟩ :: ⟨b1, xs1 ++ sp1, 30, true⟩ :: ⟨b2, xs2 ++ sp2, 3, true⟩ :: ⟨b, cs, 72, true⟩ :: R) w) :
    Calls Try.prog 21 #[(.pointer (some ⟨kb, 0, none⟩)), (.agg #[(.int .i64 W), (.int .i64 H), (.slice (some ⟨b, 0, none⟩) n cap)]), (.int .i64 m)] w (Frm (σ := (Nat × Nat × List Value) × (Nat × Nat × List Value)) None w0 (fun x => (xs1 ++ [(Value.slice (some ⟨b, 0, none⟩) cap cap)] ++ x.2.2.2 : List Value).length = x.2.2.1 * 1 ∧ (xs2 ++ [(Value.int .i64 m)] ++ x.1.2.2 : List Value).length = x.1.2.1 * 1) (fun x => .tuple #[]) (fun x => (⟨x.1.1, xs2 ++ [(Value.int .i64 m)] ++ x.1.2.2, 3, true⟩ :: ⟨x.2.1, xs1 ++ [(Value.slice (some ⟨b, 0, none⟩) cap cap)] ++ x.2.2.2, 30, true⟩ :: ⟨kb, [(.slice (some ⟨x.2.1, 0, none⟩) (n1 + 1) x.2.2.1), (.slice none 0 0), (.slice none 0 0), (.slice none 0 0), (.slice (some ⟨x.1.1, 0, none⟩) (n1 + 1) x.1.2.1), (.slice none 0 0), (.slice none 0 0), (.slice none 0 0)], 41, true⟩ :: ⟨b, (mks m cap).map u32, 72, true⟩ :: R))) := by
  refine enterF (w0 := w0) (M := None) (L := (⟨kb, [(.slice (some ⟨b1, 0, none⟩) n1 c1), (.slice none 0 0), (.slice none 0 0), (.slice none 0 0), (.slice (some ⟨b2, 0, none⟩) n1 c2), (.slice none 0 0), (.slice none 0 0), (.slice none 0 0)], 41, true⟩ :: ⟨b1, xs1 ++ sp1, 30, true⟩ :: ⟨b2, xs2 ++ sp2, 3, true⟩ :: ⟨b, cs, 72, true⟩ :: R)) (n := 11) (l := [(0, (.pointer (some ⟨kb, 0, none⟩))), (1, (.agg #[(.int .i64 W), (.int .i64 H), (.slice (some ⟨b, 0, none⟩) n cap)])), (2, (.int .i64 m))]) Try.func21 rfl rfl (Args.cons rfl (Args.cons rfl (Args.cons rfl (Args.nil _)))) hp0 ?_
  refine GC.seq ?_
  refine GC.region ?_
  refine GL.step (Stp.box (cs := [(.int .i64 W), (.int .i64 H), (.slice (some ⟨b, 0, none⟩) n cap)]) rfl rfl (by decide)) (fun bq1 _ => ?_)
  refine GL.nil ?_
  refine GE.thenN ?_
  refine GC.region ?_
  refine GL.val (Ex.move rfl) (by decide) ?_
  refine GL.val (v := (.pointer (some ⟨bq1, 2, none⟩))) (Ex.cast (Ex.fieldAddr rfl Try.underlying32 rfl T.sz30 (by decide)) rfl) (by decide) ?_
  refine GL.val (Ex.load rfl T.ag30 (i := 0) rfl rfl) (by decide) ?_
  refine GL.val (Ex.move rfl) (by decide) ?_
  refine GL.step (Stp.call (vs := [(.pointer (some ⟨kb, 0, none⟩)), (.slice (some ⟨b, 0, none⟩) n cap), (.int .i64 m)]) rfl rfl T.own56 (by decide) (fun wc hw => book_s11 w0 _ kb m b n cap cs n1 b1 c1 b2 c2 xs1 sp1 xs2 sp2 wc hcap hb (by first | decide | omega) (by first | rfl | omega) (by first | rfl | omega) hc1 hc2 (Hp.pickT (A := [⟨bq1, [(.int .i64 W), (.int .i64 H), (.slice (some ⟨b, 0, none⟩) n cap)], 32, true⟩, ⟨kb, [(.slice (some ⟨b1, 0, none⟩) n1 c1), (.slice none 0 0), (.slice none 0 0), (.slice none 0 0), (.slice (some ⟨b2, 0, none⟩) n1 c2), (.slice none 0 0), (.slice none 0 0), (.slice none 0 0)], 41, true⟩, ⟨b1, xs1 ++ sp1, 30, true⟩, ⟨b2, xs2 ++ sp2, 3, true⟩, ⟨b, cs, 72, true⟩]) (R := R) hw (idx := [1, 2, 3, 4, 0]) (by decide) rfl))) (fun xq2 hq3 => ?_)
  refine GL.nil ?_
  refine GC.end0 rfl (fun wN HN => ?_)
  exact HN.frm xq2 hq3 (by rfl) (ulC (ulC (ulC (ulC (ulS ulR)))))

set_option maxRecDepth 100000 in
set_option maxHeartbeats 1000000 in
theorem book_hold (kb n1 b1 c1 b2 c2 : Nat) (its : List It) (sp1 sp2 : List Value) (w : World) (hn1 : its.length = n1) (hn2 : n1 ≤ 1000) (hit : ∀ t ∈ its, It.Ok w t) (hh : Has w [⟨kb, [(.slice (some ⟨b1, 0, none⟩) n1 c1), (.slice none 0 0), (.slice none 0 0), (.slice none 0 0), (.slice (some ⟨b2, 0, none⟩) n1 c2), (.slice none 0 0), (.slice none 0 0), (.slice none 0 0)], 41, false⟩, ⟨b1, its.map It.v ++ sp1, 30, false⟩, ⟨b2, its.map It.mv ++ sp2, 3, false⟩]) :
    Calls Try.prog 22 #[(.pointer (some ⟨kb, 0, none⟩))] w (Ret w (fun _ : Unit => True) (fun _ => .bool true) (fun _ => [])) := by
  refine enter (M := None) (L := [⟨kb, [(.slice (some ⟨b1, 0, none⟩) n1 c1), (.slice none 0 0), (.slice none 0 0), (.slice none 0 0), (.slice (some ⟨b2, 0, none⟩) n1 c2), (.slice none 0 0), (.slice none 0 0), (.slice none 0 0)], 41, false⟩, ⟨b1, its.map It.v ++ sp1, 30, false⟩, ⟨b2, its.map It.mv ++ sp2, 3, false⟩]) (n := 182) (l := [(0, (.pointer (some ⟨kb, 0, none⟩)))]) Try.func22 rfl rfl (Args.cons rfl (Args.nil _)) (Hp.reads hh rfl) ?_
  refine GC.seq ?_
  refine GC.region ?_
  refine GL.val (Ex.assign rfl) (by decide) ?_
  refine GL.nil ?_
  refine GE.thenN ?_
  refine GC.seq ?_
  refine GC.seq ?_
  refine GC.region ?_
  refine GL.val (Ex.assign rfl) (by decide) ?_
  refine GL.nil ?_
  refine GE.thenN ?_
  refine GC.block ?_
  refine GC.loop (σ := Nat) (fun n => n ≤ n1) (fun n => [(0, (.pointer (some ⟨kb, 0, none⟩))), (3, (.int .i64 (((n : Nat) : Int))))]) (fun n => [⟨kb, [(.slice (some ⟨b1, 0, none⟩) n1 c1), (.slice none 0 0), (.slice none 0 0), (.slice none 0 0), (.slice (some ⟨b2, 0, none⟩) n1 c2), (.slice none 0 0), (.slice none 0 0), (.slice none 0 0)], 41, false⟩, ⟨b1, its.map It.v ++ sp1, 30, false⟩, ⟨b2, its.map It.mv ++ sp2, 3, false⟩]) (fun n => n1 - n) (0) (Nat.zero_le _) ((sub_cons rfl ((sub_cons rfl ((sub_nil _)))))) (ulC (ulC (ulC ulN))) (fun n hp => ?_)
  refine GC.seq ?_
  refine GC.seq ?_
  refine GC.region ?_
  refine GL.val (Ex.move rfl) (by decide) ?_
  refine GL.val (Ex.move rfl) (by decide) ?_
  refine GL.val (v := (.pointer (some ⟨kb, 0, none⟩))) (Ex.nilCheck rfl) (by decide) ?_
  refine GL.val (v := (.pointer (some ⟨kb, 0, none⟩))) (Ex.cast (Ex.fieldAddr rfl Try.underlying41 rfl T.sz34 (by decide)) rfl) (by decide) ?_
  refine GL.val (Ex.load rfl T.ag34 (i := 0) rfl rfl) (by decide) ?_
  refine GL.val (v := (.int .i64 ((n1 : Int)))) (Ex.len rfl Try.underlying34) (by decide) ?_
  refine GL.val (v := (.bool (decide ((((n : Nat) : Int)) < ((n1 : Int)))))) (Ex.lss rfl rfl) (by decide) ?_
  refine GL.nil ?_
  refine GE.thenN ?_
  refine GC.cond rfl (fun hq1 => ?_) (fun hq1 => ?_)
  · replace hq1 := of_decide_eq_true hq1
    refine GC.skip ?_
    refine GE.thenN ?_
    refine GC.seq ?_
    refine GC.block ?_
    refine GC.seq ?_
    have hnl : n < its.length := by omega
    have hio := it_ok hnl hit
    refine GC.region ?_
    refine GL.val (Ex.assign rfl) (by decide) ?_
    refine GL.nil ?_
    refine GE.thenN ?_
    refine GC.block ?_
    refine GC.loop (σ := Nat) (fun k => k ≤ (itAt its n).cap) (fun k => [(0, (.pointer (some ⟨kb, 0, none⟩))), (3, (.int .i64 (((n : Nat) : Int)))), (4, (.int .i64 (((k : Nat) : Int))))]) (fun k => [⟨kb, [(.slice (some ⟨b1, 0, none⟩) n1 c1), (.slice none 0 0), (.slice none 0 0), (.slice none 0 0), (.slice (some ⟨b2, 0, none⟩) n1 c2), (.slice none 0 0), (.slice none 0 0), (.slice none 0 0)], 41, false⟩, ⟨b1, its.map It.v ++ sp1, 30, false⟩, ⟨b2, its.map It.mv ++ sp2, 3, false⟩]) (fun k => (itAt its n).cap - k) (0) (Nat.zero_le _) ((sub_cons rfl ((sub_cons rfl ((sub_cons rfl ((sub_nil _)))))))) (ulC (ulC (ulC ulN))) (fun k hp => ?_)
    refine GC.seq ?_
    refine GC.seq ?_
    refine GC.region ?_
    refine GL.val (Ex.move rfl) (by decide) ?_
    refine GL.val (Ex.move rfl) (by decide) ?_
    refine GL.val (v := (.pointer (some ⟨kb, 0, none⟩))) (Ex.nilCheck rfl) (by decide) ?_
    refine GL.val (v := (.pointer (some ⟨kb, 0, none⟩))) (Ex.cast (Ex.fieldAddr rfl Try.underlying41 rfl T.sz34 (by decide)) rfl) (by decide) ?_
    refine GL.val (Ex.load rfl T.ag34 (i := 0) rfl rfl) (by decide) ?_
    refine GL.val (Ex.move rfl) (by decide) ?_
    refine GL.val (v := (.pointer (some ⟨b1, n, none⟩))) (Ex.cast (Ex.indexAddr rfl rfl Try.underlying34 T.sz30 (by omega) (by omega)) (by simp)) (by decide) ?_
    refine GL.val (Ex.load rfl T.ag30 (i := 1) rfl (it_at hnl sp1)) (by decide) ?_
    refine GL.val (v := (.int .i64 ((((itAt its n).cap) : Int)))) (Ex.len rfl Try.underlying30) (by decide) ?_
    refine GL.val (v := (.bool (decide ((((k : Nat) : Int)) < ((((itAt its n).cap) : Int)))))) (Ex.lss rfl rfl) (by decide) ?_
    refine GL.nil ?_
    refine GE.thenN ?_
    refine GC.cond rfl (fun hq2 => ?_) (fun hq2 => ?_)
    · replace hq2 := of_decide_eq_true hq2
      refine GC.skip ?_
      refine GE.thenN ?_
      refine GC.seq ?_
      refine GC.block ?_
      refine GC.seq ?_
      obtain ⟨bi, hbi, hri⟩ := hio.2.resolve_left (by omega)
      refine GC.draw [⟨kb, [(.slice (some ⟨b1, 0, none⟩) n1 c1), (.slice none 0 0), (.slice none 0 0), (.slice none 0 0), (.slice (some ⟨b2, 0, none⟩) n1 c2), (.slice none 0 0), (.slice none 0 0), (.slice none 0 0)], 41, false⟩, ⟨b1, its.map It.v ++ sp1, 30, false⟩, ⟨b2, its.map It.mv ++ sp2, 3, false⟩] T.mixed (fuel := 22) rfl rfl ?_
      refine GH.take 0 (v := (.pointer (some ⟨kb, 0, none⟩))) rfl (by kernel_rfl) (by kernel_rfl) (by kernel_rfl) (fun _ _ _ h => h) (Ex.move rfl) (ulC (ulC (ulC ulN))) (by decide) ?_
      refine GH.take 4 (v := (.int .i64 (((n : Nat) : Int)))) rfl (by kernel_rfl) (by kernel_rfl) (by kernel_rfl) (fun _ _ _ h => h) (Ex.move rfl) (ulC (ulC (ulC ulN))) (by decide) ?_
      refine GH.take 7 (v := (.int .i64 (((k : Nat) : Int)))) rfl (by kernel_rfl) (by kernel_rfl) (by kernel_rfl) (fun _ _ _ h => h) (Ex.move rfl) (ulC (ulC (ulC ulN))) (by decide) ?_
      refine GH.take 10 (v := (.pointer (some ⟨kb, 0, none⟩))) rfl (by kernel_rfl) (by kernel_rfl) (by kernel_rfl) (fun _ _ _ h => h) (Ex.move rfl) (ulC (ulC (ulC ulN))) (by decide) ?_
      refine GH.take 15 (v := (.int .i64 (((n : Nat) : Int)))) rfl (by kernel_rfl) (by kernel_rfl) (by kernel_rfl) (fun _ _ _ h => h) (Ex.move rfl) (ulC (ulC (ulC ulN))) (by decide) ?_
      refine GH.take 18 (v := (.int .i64 (((k : Nat) : Int)))) rfl (by kernel_rfl) (by kernel_rfl) (by kernel_rfl) (fun _ _ _ h => h) (Ex.move rfl) (ulC (ulC (ulC ulN))) (by decide) ?_
      refine GH.many (rs := [1, 11]) (by kernel_rfl) (by simp) ?_
      refine GHs.cons rfl (Ex.wp (v := (.pointer (some ⟨kb, 0, none⟩))) (Ex.nilCheck rfl) (by decide)) (fun _ => (ulC (ulC (ulC ulN)))) (fun _ _ => ?_) ?_
      · refine GH.take 2 (v := (.pointer (some ⟨kb, 0, none⟩))) rfl (by kernel_rfl) (by kernel_rfl) (by kernel_rfl) (fun _ _ _ h => h) (Ex.cast (Ex.fieldAddr rfl Try.underlying41 rfl T.sz34 (by decide)) rfl) (ulC (ulC (ulC ulN))) (by decide) ?_
        refine GH.take 3 (v := (.slice (some ⟨b1, 0, none⟩) n1 c1)) rfl (by kernel_rfl) (by kernel_rfl) (by kernel_rfl) (fun _ _ _ h => h) (Ex.load rfl T.ag34 (i := 0) rfl rfl) (ulC (ulC (ulC ulN))) (by decide) ?_
        refine GH.take 5 (v := (.pointer (some ⟨b1, n, none⟩))) rfl (by kernel_rfl) (by kernel_rfl) (by kernel_rfl) (fun _ _ _ h => h) (Ex.cast (Ex.indexAddr rfl rfl Try.underlying34 T.sz30 (by omega) (by omega)) (by simp)) (ulC (ulC (ulC ulN))) (by decide) ?_
        refine GH.take 6 (v := (.slice (some ⟨bi, 0, none⟩) ((itAt its n).cap) ((itAt its n).cap))) rfl (by kernel_rfl) (by kernel_rfl) (by kernel_rfl) (fun _ _ _ h => h) (Ex.load rfl T.ag30 (i := 1) rfl (by rw [← hbi]; exact it_at hnl sp1)) (ulC (ulC (ulC ulN))) (by decide) ?_
        refine GH.take 8 (v := (.pointer (some ⟨bi, k, none⟩))) rfl (by kernel_rfl) (by kernel_rfl) (by kernel_rfl) (fun _ _ _ h => h) (Ex.cast (Ex.indexAddr rfl rfl Try.underlying30 T.sz72 (by omega) (by omega)) (by simp)) (ulC (ulC (ulC ulN))) (by decide) ?_
        refine GH.take 9 (v := (.int .u32 (mk (itAt its n).m k))) rfl (by kernel_rfl) (by kernel_rfl) (by kernel_rfl) (fun _ _ _ h => h) (Ex.loadO rfl T.ag72 (Rd.mkat hri (by omega)) (fun x => x)) (ulC (ulC (ulC ulN))) (by decide) ?_
        refine GH.one 11 rfl (by kernel_rfl) (Ex.wp (v := (.pointer (some ⟨kb, 0, none⟩))) (Ex.nilCheck rfl) (by decide)) (fun _ => (ulC (ulC (ulC ulN)))) (fun _ _ => ?_)
        refine GH.take 12 (v := (.pointer (some ⟨kb, 4, none⟩))) rfl (by kernel_rfl) (by kernel_rfl) (by kernel_rfl) (fun _ _ _ h => h) (Ex.cast (Ex.fieldAddr rfl Try.underlying41 rfl T.sz39 (by decide)) rfl) (ulC (ulC (ulC ulN))) (by decide) ?_
        refine GH.take 13 (v := (.pointer (some ⟨kb, 4, none⟩))) rfl (by kernel_rfl) (by kernel_rfl) (by kernel_rfl) (fun _ _ _ h => h) (Ex.cast (Ex.indexArr (m := 4) rfl rfl Try.underlying39 T.sz38 (by decide) (by decide)) rfl) (ulC (ulC (ulC ulN))) (by decide) ?_
        refine GH.take 14 (v := (.slice (some ⟨b2, 0, none⟩) n1 c2)) rfl (by kernel_rfl) (by kernel_rfl) (by kernel_rfl) (fun _ _ _ h => h) (Ex.load rfl T.ag38 (i := 0) rfl rfl) (ulC (ulC (ulC ulN))) (by decide) ?_
        refine GH.take 16 (v := (.pointer (some ⟨b2, n, none⟩))) rfl (by kernel_rfl) (by kernel_rfl) (by kernel_rfl) (fun _ _ _ h => h) (Ex.cast (Ex.indexAddr rfl rfl Try.underlying38 T.sz3 (by omega) (by omega)) (by simp)) (ulC (ulC (ulC ulN))) (by decide) ?_
        refine GH.take 17 (v := (.int .i64 ((itAt its n).m))) rfl (by kernel_rfl) (by kernel_rfl) (by kernel_rfl) (fun _ _ _ h => h) (Ex.load rfl T.ag3 (i := 2) rfl (it_mv hnl sp2)) (ulC (ulC (ulC ulN))) (by decide) ?_
        refine GH.one 19 rfl (by kernel_rfl) (Stp.callR (vs := [(.int .i64 ((itAt its n).m)), (.int .i64 (((k : Nat) : Int)))]) rfl rfl T.own57 (by decide) (fun wc hw => bkmark ((itAt its n).m) (((k : Nat) : Int)) wc)) (fun _ => (ulC (ulC (ulC ulN)))) (fun xq3 hq4 => ?_)
        refine GH.take 20 (v := (.int .u32 (mk (itAt its n).m k))) rfl (by kernel_rfl) (by kernel_rfl) (by kernel_rfl) (fun _ _ _ h => h) (Ex.conv rfl Try.underlying3 Try.underlying72 (Z := mk (itAt its n).m k) (by rw [wu32]; rfl)) (ulC (ulC (ulC ulN))) (by decide) ?_
        refine GH.take 21 (v := (.bool false)) rfl (by kernel_rfl) (by kernel_rfl) (by kernel_rfl) (fun _ _ _ h => h) (Ex.cast (Ex.neq rfl rfl) (congrArg Value.bool (decide_eq_false (by simp)))) (ulC (ulC (ulC ulN))) (by decide) ?_
        refine GH.done (by kernel_rfl) ?_
        refine GE.thenN ?_
        refine GC.cond rfl (fun hq5 => by cases hq5) (fun _ => ?_)
        refine GC.skip ?_
        refine GE.blockN ?_
        refine GE.thenN ?_
        refine GC.region ?_
        refine GL.val (Ex.move rfl) (by decide) ?_
        refine GL.val (v := (.int .i64 (((k + 1 : Nat) : Int)))) (Ex.add rfl rfl (Z := ((k + 1 : Nat) : Int)) (by rw [w64 (by have := hio.1; omega)]; rfl)) (by decide) ?_
        refine GL.val (Ex.assign rfl) (by decide) ?_
        refine GL.nil ?_
        refine GE.thenN ?_
        exact Head.mk (k + 1) (by omega) (by omega) ((sub_cons rfl ((sub_cons rfl ((sub_cons rfl ((sub_nil _)))))))) (ulC (ulC (ulC ulN)))
      refine GHs.cons rfl (Ex.wp (v := (.pointer (some ⟨kb, 0, none⟩))) (Ex.nilCheck rfl) (by decide)) (fun _ => (ulC (ulC (ulC ulN)))) (fun _ _ => ?_) ?_
      · refine GH.take 12 (v := (.pointer (some ⟨kb, 4, none⟩))) rfl (by kernel_rfl) (by kernel_rfl) (by kernel_rfl) (fun _ _ _ h => h) (Ex.cast (Ex.fieldAddr rfl Try.underlying41 rfl T.sz39 (by decide)) rfl) (ulC (ulC (ulC ulN))) (by decide) ?_
        refine GH.take 13 (v := (.pointer (some ⟨kb, 4, none⟩))) rfl (by kernel_rfl) (by kernel_rfl) (by kernel_rfl) (fun _ _ _ h => h) (Ex.cast (Ex.indexArr (m := 4) rfl rfl Try.underlying39 T.sz38 (by decide) (by decide)) rfl) (ulC (ulC (ulC ulN))) (by decide) ?_
        refine GH.take 14 (v := (.slice (some ⟨b2, 0, none⟩) n1 c2)) rfl (by kernel_rfl) (by kernel_rfl) (by kernel_rfl) (fun _ _ _ h => h) (Ex.load rfl T.ag38 (i := 0) rfl rfl) (ulC (ulC (ulC ulN))) (by decide) ?_
        refine GH.take 16 (v := (.pointer (some ⟨b2, n, none⟩))) rfl (by kernel_rfl) (by kernel_rfl) (by kernel_rfl) (fun _ _ _ h => h) (Ex.cast (Ex.indexAddr rfl rfl Try.underlying38 T.sz3 (by omega) (by omega)) (by simp)) (ulC (ulC (ulC ulN))) (by decide) ?_
        refine GH.take 17 (v := (.int .i64 ((itAt its n).m))) rfl (by kernel_rfl) (by kernel_rfl) (by kernel_rfl) (fun _ _ _ h => h) (Ex.load rfl T.ag3 (i := 2) rfl (it_mv hnl sp2)) (ulC (ulC (ulC ulN))) (by decide) ?_
        refine GH.many (rs := [1, 19]) (by kernel_rfl) (by simp) ?_
        refine GHs.cons rfl (Ex.wp (v := (.pointer (some ⟨kb, 0, none⟩))) (Ex.nilCheck rfl) (by decide)) (fun _ => (ulC (ulC (ulC ulN)))) (fun _ _ => ?_) ?_
        · refine GH.take 2 (v := (.pointer (some ⟨kb, 0, none⟩))) rfl (by kernel_rfl) (by kernel_rfl) (by kernel_rfl) (fun _ _ _ h => h) (Ex.cast (Ex.fieldAddr rfl Try.underlying41 rfl T.sz34 (by decide)) rfl) (ulC (ulC (ulC ulN))) (by decide) ?_
          refine GH.take 3 (v := (.slice (some ⟨b1, 0, none⟩) n1 c1)) rfl (by kernel_rfl) (by kernel_rfl) (by kernel_rfl) (fun _ _ _ h => h) (Ex.load rfl T.ag34 (i := 0) rfl rfl) (ulC (ulC (ulC ulN))) (by decide) ?_
          refine GH.take 5 (v := (.pointer (some ⟨b1, n, none⟩))) rfl (by kernel_rfl) (by kernel_rfl) (by kernel_rfl) (fun _ _ _ h => h) (Ex.cast (Ex.indexAddr rfl rfl Try.underlying34 T.sz30 (by omega) (by omega)) (by simp)) (ulC (ulC (ulC ulN))) (by decide) ?_
          refine GH.take 6 (v := (.slice (some ⟨bi, 0, none⟩) ((itAt its n).cap) ((itAt its n).cap))) rfl (by kernel_rfl) (by kernel_rfl) (by kernel_rfl) (fun _ _ _ h => h) (Ex.load rfl T.ag30 (i := 1) rfl (by rw [← hbi]; exact it_at hnl sp1)) (ulC (ulC (ulC ulN))) (by decide) ?_
          refine GH.take 8 (v := (.pointer (some ⟨bi, k, none⟩))) rfl (by kernel_rfl) (by kernel_rfl) (by kernel_rfl) (fun _ _ _ h => h) (Ex.cast (Ex.indexAddr rfl rfl Try.underlying30 T.sz72 (by omega) (by omega)) (by simp)) (ulC (ulC (ulC ulN))) (by decide) ?_
          refine GH.take 9 (v := (.int .u32 (mk (itAt its n).m k))) rfl (by kernel_rfl) (by kernel_rfl) (by kernel_rfl) (fun _ _ _ h => h) (Ex.loadO rfl T.ag72 (Rd.mkat hri (by omega)) (fun x => x)) (ulC (ulC (ulC ulN))) (by decide) ?_
          refine GH.one 19 rfl (by kernel_rfl) (Stp.callR (vs := [(.int .i64 ((itAt its n).m)), (.int .i64 (((k : Nat) : Int)))]) rfl rfl T.own57 (by decide) (fun wc hw => bkmark ((itAt its n).m) (((k : Nat) : Int)) wc)) (fun _ => (ulC (ulC (ulC ulN)))) (fun xq6 hq7 => ?_)
          refine GH.take 20 (v := (.int .u32 (mk (itAt its n).m k))) rfl (by kernel_rfl) (by kernel_rfl) (by kernel_rfl) (fun _ _ _ h => h) (Ex.conv rfl Try.underlying3 Try.underlying72 (Z := mk (itAt its n).m k) (by rw [wu32]; rfl)) (ulC (ulC (ulC ulN))) (by decide) ?_
          refine GH.take 21 (v := (.bool false)) rfl (by kernel_rfl) (by kernel_rfl) (by kernel_rfl) (fun _ _ _ h => h) (Ex.cast (Ex.neq rfl rfl) (congrArg Value.bool (decide_eq_false (by simp)))) (ulC (ulC (ulC ulN))) (by decide) ?_
          refine GH.done (by kernel_rfl) ?_
          refine GE.thenN ?_
          refine GC.cond rfl (fun hq8 => by cases hq8) (fun _ => ?_)
          refine GC.skip ?_
          refine GE.blockN ?_
          refine GE.thenN ?_
          refine GC.region ?_
          refine GL.val (Ex.move rfl) (by decide) ?_
          refine GL.val (v := (.int .i64 (((k + 1 : Nat) : Int)))) (Ex.add rfl rfl (Z := ((k + 1 : Nat) : Int)) (by rw [w64 (by have := hio.1; omega)]; rfl)) (by decide) ?_
          refine GL.val (Ex.assign rfl) (by decide) ?_
          refine GL.nil ?_
          refine GE.thenN ?_
          exact Head.mk (k + 1) (by omega) (by omega) ((sub_cons rfl ((sub_cons rfl ((sub_cons rfl ((sub_nil _)))))))) (ulC (ulC (ulC ulN)))
        refine GHs.cons rfl (Stp.callR (vs := [(.int .i64 ((itAt its n).m)), (.int .i64 (((k : Nat) : Int)))]) rfl rfl T.own57 (by decide) (fun wc hw => bkmark ((itAt its n).m) (((k : Nat) : Int)) wc)) (fun _ => (ulC (ulC (ulC ulN)))) (fun xq9 hq10 => ?_) ?_
        · refine GH.take 20 (v := (.int .u32 (mk (itAt its n).m k))) rfl (by kernel_rfl) (by kernel_rfl) (by kernel_rfl) (fun _ _ _ h => h) (Ex.conv rfl Try.underlying3 Try.underlying72 (Z := mk (itAt its n).m k) (by rw [wu32]; rfl)) (ulC (ulC (ulC ulN))) (by decide) ?_
          refine GH.one 1 rfl (by kernel_rfl) (Ex.wp (v := (.pointer (some ⟨kb, 0, none⟩))) (Ex.nilCheck rfl) (by decide)) (fun _ => (ulC (ulC (ulC ulN)))) (fun _ _ => ?_)
          refine GH.take 2 (v := (.pointer (some ⟨kb, 0, none⟩))) rfl (by kernel_rfl) (by kernel_rfl) (by kernel_rfl) (fun _ _ _ h => h) (Ex.cast (Ex.fieldAddr rfl Try.underlying41 rfl T.sz34 (by decide)) rfl) (ulC (ulC (ulC ulN))) (by decide) ?_
          refine GH.take 3 (v := (.slice (some ⟨b1, 0, none⟩) n1 c1)) rfl (by kernel_rfl) (by kernel_rfl) (by kernel_rfl) (fun _ _ _ h => h) (Ex.load rfl T.ag34 (i := 0) rfl rfl) (ulC (ulC (ulC ulN))) (by decide) ?_
          refine GH.take 5 (v := (.pointer (some ⟨b1, n, none⟩))) rfl (by kernel_rfl) (by kernel_rfl) (by kernel_rfl) (fun _ _ _ h => h) (Ex.cast (Ex.indexAddr rfl rfl Try.underlying34 T.sz30 (by omega) (by omega)) (by simp)) (ulC (ulC (ulC ulN))) (by decide) ?_
          refine GH.take 6 (v := (.slice (some ⟨bi, 0, none⟩) ((itAt its n).cap) ((itAt its n).cap))) rfl (by kernel_rfl) (by kernel_rfl) (by kernel_rfl) (fun _ _ _ h => h) (Ex.load rfl T.ag30 (i := 1) rfl (by rw [← hbi]; exact it_at hnl sp1)) (ulC (ulC (ulC ulN))) (by decide) ?_
          refine GH.take 8 (v := (.pointer (some ⟨bi, k, none⟩))) rfl (by kernel_rfl) (by kernel_rfl) (by kernel_rfl) (fun _ _ _ h => h) (Ex.cast (Ex.indexAddr rfl rfl Try.underlying30 T.sz72 (by omega) (by omega)) (by simp)) (ulC (ulC (ulC ulN))) (by decide) ?_
          refine GH.take 9 (v := (.int .u32 (mk (itAt its n).m k))) rfl (by kernel_rfl) (by kernel_rfl) (by kernel_rfl) (fun _ _ _ h => h) (Ex.loadO rfl T.ag72 (Rd.mkat hri (by omega)) (fun x => x)) (ulC (ulC (ulC ulN))) (by decide) ?_
          refine GH.take 21 (v := (.bool false)) rfl (by kernel_rfl) (by kernel_rfl) (by kernel_rfl) (fun _ _ _ h => h) (Ex.cast (Ex.neq rfl rfl) (congrArg Value.bool (decide_eq_false (by simp)))) (ulC (ulC (ulC ulN))) (by decide) ?_
          refine GH.done (by kernel_rfl) ?_
          refine GE.thenN ?_
          refine GC.cond rfl (fun hq11 => by cases hq11) (fun _ => ?_)
          refine GC.skip ?_
          refine GE.blockN ?_
          refine GE.thenN ?_
          refine GC.region ?_
          refine GL.val (Ex.move rfl) (by decide) ?_
          refine GL.val (v := (.int .i64 (((k + 1 : Nat) : Int)))) (Ex.add rfl rfl (Z := ((k + 1 : Nat) : Int)) (by rw [w64 (by have := hio.1; omega)]; rfl)) (by decide) ?_
          refine GL.val (Ex.assign rfl) (by decide) ?_
          refine GL.nil ?_
          refine GE.thenN ?_
          exact Head.mk (k + 1) (by omega) (by omega) ((sub_cons rfl ((sub_cons rfl ((sub_cons rfl ((sub_nil _)))))))) (ulC (ulC (ulC ulN)))
        exact GHs.nil
      exact GHs.nil
    · replace hq2 := of_decide_eq_false hq2
      refine GC.exit ?_
      refine GE.thenE ?_
      refine GE.thenE ?_
      refine GE.blockE ?_
      refine GE.blockN ?_
      refine GE.thenN ?_
      refine GC.region ?_
      refine GL.val (Ex.move rfl) (by decide) ?_
      refine GL.val (v := (.int .i64 (((n + 1 : Nat) : Int)))) (Ex.add rfl rfl (Z := ((n + 1 : Nat) : Int)) (by rw [w64 (by omega)]; rfl)) (by decide) ?_
      refine GL.val (Ex.assign rfl) (by decide) ?_
      refine GL.nil ?_
      refine GE.thenN ?_
      exact Head.mk (n + 1) (by omega) (by omega) ((sub_cons rfl ((sub_cons rfl ((sub_nil _)))))) (ulC (ulC (ulC ulN)))
  · replace hq1 := of_decide_eq_false hq1
    refine GC.exit ?_
    refine GE.thenE ?_
    refine GE.thenE ?_
    refine GE.blockE ?_
    refine GE.thenN ?_
    refine GC.seq ?_
    refine GC.seq ?_
    refine GC.region ?_
    refine GL.val (Ex.assign rfl) (by decide) ?_
    refine GL.nil ?_
    refine GE.thenN ?_
    refine GC.block ?_
    refine GC.unroll 1 ?_
    refine GE.round ?_
    refine GC.seq ?_
    refine GC.seq ?_
    refine GC.region ?_
    refine GL.val (Ex.move rfl) (by decide) ?_
    refine GL.val (Ex.move rfl) (by decide) ?_
    refine GL.val (v := (.pointer (some ⟨kb, 0, none⟩))) (Ex.nilCheck rfl) (by decide) ?_
    refine GL.val (v := (.pointer (some ⟨kb, 1, none⟩))) (Ex.cast (Ex.fieldAddr rfl Try.underlying41 rfl T.sz35 (by decide)) rfl) (by decide) ?_
    refine GL.val (Ex.load rfl T.ag35 (i := 0) rfl rfl) (by decide) ?_
    refine GL.val (v := (.int .i64 0)) (Ex.len rfl Try.underlying35) (by decide) ?_
    refine GL.val (v := (.bool false)) (Ex.cast (Ex.lss rfl rfl) rfl) (by decide) ?_
    refine GL.nil ?_
    refine GE.thenN ?_
    refine GC.cond rfl (fun hq12 => by cases hq12) (fun _ => ?_)
    refine GC.exit ?_
    refine GE.thenE ?_
    refine GE.thenE ?_
    refine GE.blockE ?_
    refine GE.thenN ?_
    refine GC.seq ?_
    refine GC.seq ?_
    refine GC.region ?_
    refine GL.val (Ex.assign rfl) (by decide) ?_
    refine GL.nil ?_
    refine GE.thenN ?_
    refine GC.block ?_
    refine GC.unroll 1 ?_
    refine GE.round ?_
    refine GC.seq ?_
    refine GC.seq ?_
    refine GC.region ?_
    refine GL.val (Ex.move rfl) (by decide) ?_
    refine GL.val (Ex.move rfl) (by decide) ?_
    refine GL.val (v := (.pointer (some ⟨kb, 0, none⟩))) (Ex.nilCheck rfl) (by decide) ?_
    refine GL.val (v := (.pointer (some ⟨kb, 2, none⟩))) (Ex.cast (Ex.fieldAddr rfl Try.underlying41 rfl T.sz36 (by decide)) rfl) (by decide) ?_
    refine GL.val (Ex.load rfl T.ag36 (i := 0) rfl rfl) (by decide) ?_
    refine GL.val (v := (.int .i64 0)) (Ex.len rfl Try.underlying36) (by decide) ?_
    refine GL.val (v := (.bool false)) (Ex.cast (Ex.lss rfl rfl) rfl) (by decide) ?_
    refine GL.nil ?_
    refine GE.thenN ?_
    refine GC.cond rfl (fun hq13 => by cases hq13) (fun _ => ?_)
    refine GC.exit ?_
    refine GE.thenE ?_
    refine GE.thenE ?_
    refine GE.blockE ?_
    refine GE.thenN ?_
    refine GC.seq ?_
    refine GC.seq ?_
    refine GC.region ?_
    refine GL.val (Ex.assign rfl) (by decide) ?_
    refine GL.nil ?_
    refine GE.thenN ?_
    refine GC.block ?_
    refine GC.unroll 1 ?_
    refine GE.round ?_
    refine GC.seq ?_
    refine GC.seq ?_
    refine GC.region ?_
    refine GL.val (Ex.move rfl) (by decide) ?_
    refine GL.val (Ex.move rfl) (by decide) ?_
    refine GL.val (v := (.pointer (some ⟨kb, 0, none⟩))) (Ex.nilCheck rfl) (by decide) ?_
    refine GL.val (v := (.pointer (some ⟨kb, 3, none⟩))) (Ex.cast (Ex.fieldAddr rfl Try.underlying41 rfl T.sz37 (by decide)) rfl) (by decide) ?_
    refine GL.val (Ex.load rfl T.ag37 (i := 0) rfl rfl) (by decide) ?_
    refine GL.val (v := (.int .i64 0)) (Ex.len rfl Try.underlying37) (by decide) ?_
    refine GL.val (v := (.bool false)) (Ex.cast (Ex.lss rfl rfl) rfl) (by decide) ?_
    refine GL.nil ?_
    refine GE.thenN ?_
    refine GC.cond rfl (fun hq14 => by cases hq14) (fun _ => ?_)
    refine GC.exit ?_
    refine GE.thenE ?_
    refine GE.thenE ?_
    refine GE.blockE ?_
    refine GE.thenN ?_
    refine GC.seq ?_
    refine GC.region ?_
    refine GL.val (Ex.assign rfl) (by decide) ?_
    refine GL.nil ?_
    refine GE.thenN ?_
    refine GC.ret ?_
    refine GC.ret1 rfl (Rv.tmp rfl) (fun wN HN => ?_)
    exact HN.ret () trivial rfl (List.nil_sublist _) rfl

set_option maxRecDepth 100000 in
set_option maxHeartbeats 1000000 in
theorem ref_blank (W H : Nat) (w : World) (hA : W * H ≤ 65536) :
    Calls Try.prog 48 #[(.int .i64 (((W : Nat) : Int))), (.int .i64 (((H : Nat) : Int)))] w (Ret w (fun _ : Nat => True) (fun r => (.agg #[(.int .i64 (((W : Nat) : Int))), (.int .i64 (((H : Nat) : Int))), (.slice (some ⟨r, 0, none⟩) (W * H) (W * H))])) (fun r => [⟨r, List.replicate (W * H) (.int .u32 0), 72, true⟩])) := by
  refine enter (M := None) (L := []) (n := 12) (l := [(0, (.int .i64 (((W : Nat) : Int)))), (1, (.int .i64 (((H : Nat) : Int))))]) Try.func48 rfl rfl (Args.cons rfl (Args.cons rfl (Args.nil _))) (Hp.start _ _) ?_
  refine GC.seq ?_
  refine GC.region ?_
  refine GL.step (Stp.alloc T.zr32 (by decide)) (fun bq1 _ => ?_)
  refine GL.nil ?_
  refine GE.thenN ?_
  refine GC.seq ?_
  refine GC.region ?_
  refine GL.val (Ex.move rfl) (by decide) ?_
  refine GL.val (Ex.move rfl) (by decide) ?_
  refine GL.val (Ex.move rfl) (by decide) ?_
  refine GL.val (Ex.move rfl) (by decide) ?_
  refine GL.val (v := (.int .i64 (((W * H : Nat) : Int)))) (Ex.mul rfl rfl (Z := ((W * H : Nat) : Int)) (mulN (by omega))) (by decide) ?_
  refine GL.step (Stp.makeSlice (a1 := W * H) (c := W * H) rfl rfl Try.underlying30 T.zr72 T.sz72 T.by72 rfl (Nat.le_refl _) (by omega) (by omega) (by decide)) (fun bq2 _ => ?_)
  rw [madeCells_one]
  refine GL.val (v := (.agg #[(.int .i64 (((W : Nat) : Int))), (.int .i64 (((H : Nat) : Int))), (.slice (some ⟨bq2, 0, none⟩) (W * H) (W * H))])) (Ex.build (vs := [(0, (.int .i64 (((W : Nat) : Int)))), (1, (.int .i64 (((H : Nat) : Int)))), (2, (.slice (some ⟨bq2, 0, none⟩) (W * H) (W * H)))]) rfl (by first | rfl | kernel_rfl)) (by decide) ?_
  refine GL.step (Stp.st1 (cs' := [(.int .i64 (((W : Nat) : Int))), (.int .i64 (((H : Nat) : Int))), (.slice (some ⟨bq2, 0, none⟩) (W * H) (W * H))]) rfl rfl rfl T.sz32 rfl rfl rfl) (fun _ _ => ?_)
  refine GL.nil ?_
  refine GE.thenN ?_
  refine GC.ret ?_
  refine GC.ret1 rfl (Rv.cellA rfl T.ag32 T.sz32 (L := _) (i := 1) rfl (vs := [(.int .i64 (((W : Nat) : Int))), (.int .i64 (((H : Nat) : Int))), (.slice (some ⟨bq2, 0, none⟩) (W * H) (W * H))]) rfl rfl) (fun wN HN => ?_)
  exact HN.ret bq2 trivial rfl (ulC (ulS ulN)) rfl

set_option maxRecDepth 100000 in
set_option maxHeartbeats 1000000 in
theorem ref_at (W n cap b o x y : Nat) (H : Int) (xs : List Int) (w : World) (hlt : W * y + x < n) (hb : n ≤ 65536) (hx : xs.length = n) (hr : Rd w b o (xs.map u32)) :
    Calls Try.prog 49 #[(.agg #[(.int .i64 (((W : Nat) : Int))), (.int .i64 H), (.slice (some ⟨b, o, none⟩) n cap)]), (.int .i64 (((x : Nat) : Int))), (.int .i64 (((y : Nat) : Int)))] w (Ret w (fun _ : Unit => True) (fun _ => .int .u32 (smp xs W x y)) (fun _ => [])) := by
  refine enter (M := None) (L := []) (n := 17) (l := [(0, (.agg #[(.int .i64 (((W : Nat) : Int))), (.int .i64 H), (.slice (some ⟨b, o, none⟩) n cap)])), (1, (.int .i64 (((x : Nat) : Int)))), (2, (.int .i64 (((y : Nat) : Int))))]) Try.func49 rfl rfl (Args.cons rfl (Args.cons rfl (Args.cons rfl (Args.nil _)))) (Hp.start _ _) ?_
  refine GC.seq ?_
  refine GC.region ?_
  refine GL.step (Stp.box (cs := [(.int .i64 (((W : Nat) : Int))), (.int .i64 H), (.slice (some ⟨b, o, none⟩) n cap)]) rfl rfl (by decide)) (fun bq1 _ => ?_)
  refine GL.val (Ex.assign rfl) (by decide) ?_
  refine GL.nil ?_
  refine GE.thenN ?_
  refine GC.seq ?_
  refine GC.region ?_
  refine GL.val (v := (.pointer (some ⟨bq1, 2, none⟩))) (Ex.cast (Ex.fieldAddr rfl Try.underlying32 rfl T.sz30 (by decide)) rfl) (by decide) ?_
  refine GL.val (Ex.load rfl T.ag30 (i := 0) rfl rfl) (by decide) ?_
  refine GL.val (Ex.move rfl) (by decide) ?_
  refine GL.val (v := (.pointer (some ⟨bq1, 0, none⟩))) (Ex.cast (Ex.fieldAddr rfl Try.underlying32 rfl T.sz3 (by decide)) rfl) (by decide) ?_
  refine GL.val (Ex.load rfl T.ag3 (i := 0) rfl rfl) (by decide) ?_
  refine GL.val (v := (.int .i64 (((W * y : Nat) : Int)))) (Ex.mul rfl rfl (Z := ((W * y : Nat) : Int)) (mulN' (by omega))) (by decide) ?_
  refine GL.val (Ex.move rfl) (by decide) ?_
  refine GL.val (v := (.int .i64 (((W * y + x : Nat) : Int)))) (Ex.add rfl rfl (Z := ((W * y + x : Nat) : Int)) (addN (by omega))) (by decide) ?_
  refine GL.val (v := (.pointer (some ⟨b, o + (W * y + x), none⟩))) (Ex.cast (Ex.indexAddr rfl rfl Try.underlying30 T.sz72 (by omega) (by omega)) (by simp)) (by decide) ?_
  refine GL.val (v := (.int .u32 (smp xs W x y))) (Ex.loadO rfl T.ag72 (Rd.at hr (by omega)) (fun x => x)) (by decide) ?_
  refine GL.val (Ex.assign rfl) (by decide) ?_
  refine GL.nil ?_
  refine GE.thenN ?_
  refine GC.ret ?_
  refine GC.ret1 rfl (Rv.tmp rfl) (fun wN HN => ?_)
  exact HN.ret () trivial rfl (List.nil_sublist _) rfl

set_option maxRecDepth 100000 in
set_option maxHeartbeats 1000000 in
theorem ref_crop (W H n cap b o : Nat) (X0 Y0 X1 Y1 : Nat) (xs : List Int) (w : World) (hok : okP W H) (hn : n = W * H) (hx : xs.length = n) (hr : Rd w b o (xs.map u32)) (hX0 : X0 < X1) (hX1 : X1 ≤ W) (hY0 : Y0 < Y1) (hY1 : Y1 ≤ H) :
    Calls Try.prog 27 #[(.agg #[(.int .i64 (((W : Nat) : Int))), (.int .i64 (((H : Nat) : Int))), (.slice (some ⟨b, o, none⟩) n cap)]), (.agg #[(.int .i64 (((X0 : Nat) : Int))), (.int .i64 (((Y0 : Nat) : Int))), (.int .i64 (((X1 : Nat) : Int))), (.int .i64 (((Y1 : Nat) : Int)))])] w (Ret w (fun _ : Nat => True) (fun rz0 => .tuple #[(.agg #[(.int .i64 ((((X1 - X0) : Nat) : Int))), (.int .i64 ((((Y1 - Y0) : Nat) : Int))), (.slice (some ⟨rz0, 0, none⟩) ((X1 - X0) * (Y1 - Y0)) ((X1 - X0) * (Y1 - Y0)))]), .int .i64 0]) (fun rz0 => [⟨rz0, (crp xs W X0 Y0 (X1 - X0) (Y1 - Y0)).map u32, 72, true⟩])) := by
  have hW := hok.1
  have hH := hok.2.1
  have hW2 := hok.2.2.1
  have hH2 := hok.2.2.2.1
  have hA := hok.2.2.2.2
  have hA2 := (okP.part hok (w := X1 - X0) (h := Y1 - Y0) (by omega) (by omega) (by omega) (by omega)).2.2.2.2
  refine enter (M := None) (L := []) (n := 91) (l := [(0, (.agg #[(.int .i64 (((W : Nat) : Int))), (.int .i64 (((H : Nat) : Int))), (.slice (some ⟨b, o, none⟩) n cap)])), (1, (.agg #[(.int .i64 (((X0 : Nat) : Int))), (.int .i64 (((Y0 : Nat) : Int))), (.int .i64 (((X1 : Nat) : Int))), (.int .i64 (((Y1 : Nat) : Int)))]))]) Try.func27 rfl rfl (Args.cons rfl (Args.cons rfl (Args.nil _))) (Hp.start _ _) ?_
  refine GC.seq ?_
  refine GC.region ?_
  refine GL.step (Stp.box (cs := [(.int .i64 (((W : Nat) : Int))), (.int .i64 (((H : Nat) : Int))), (.slice (some ⟨b, o, none⟩) n cap)]) rfl rfl (by decide)) (fun bq1 _ => ?_)
  refine GL.step (Stp.box (cs := [(.int .i64 (((X0 : Nat) : Int))), (.int .i64 (((Y0 : Nat) : Int))), (.int .i64 (((X1 : Nat) : Int))), (.int .i64 (((Y1 : Nat) : Int)))]) rfl rfl (by decide)) (fun bq2 _ => ?_)
  refine GL.step (Stp.alloc T.zr32 (by decide)) (fun bq3 _ => ?_)
  refine GL.val (Ex.assign rfl) (by decide) ?_
  refine GL.nil ?_
  refine GE.thenN ?_
  refine GC.seq ?_
  refine GC.region ?_
  refine GL.val (v := (.agg #[(.int .i64 (((W : Nat) : Int))), (.int .i64 (((H : Nat) : Int))), (.slice (some ⟨b, o, none⟩) n cap)])) (Ex.loadA rfl T.ag32 T.sz32 (i := 2) rfl (vs := [(.int .i64 (((W : Nat) : Int))), (.int .i64 (((H : Nat) : Int))), (.slice (some ⟨b, o, none⟩) n cap)]) rfl rfl) (by decide) ?_
  refine GL.step (Stp.callR (σ := Unit) (p := fun rz => True) (v := fun rz => (.int .i64 0)) (N := fun rz => []) (vs := [(.agg #[(.int .i64 (((W : Nat) : Int))), (.int .i64 (((H : Nat) : Int))), (.slice (some ⟨b, o, none⟩) n cap)])]) rfl rfl T.own35 (by decide) (fun wc hw => (by have h := ref_check (((W : Nat) : Int)) (((H : Nat) : Int)) (some ⟨b, o, none⟩) n cap wc; rw [show chk (((W : Nat) : Int)) (((H : Nat) : Int)) n = 0 from by rw [hn]; exact chk_ok hok] at h; exact h))) (fun xq4 hq5 => ?_)
  refine GL.val (Ex.assign rfl) (by decide) ?_
  refine GL.nil ?_
  refine GE.thenN ?_
  refine GC.seq ?_
  refine GC.seq ?_
  refine GC.region ?_
  refine GL.val (Ex.move rfl) (by decide) ?_
  refine GL.val (v := (.bool false)) (Ex.cast (Ex.neq rfl rfl) rfl) (by decide) ?_
  refine GL.nil ?_
  refine GE.thenN ?_
  refine GC.cond rfl (fun hq6 => by cases hq6) (fun _ => ?_)
  refine GC.skip ?_
  refine GE.thenN ?_
  refine GC.seq ?_
  refine GC.seq ?_
  refine GC.region ?_
  refine GL.val (v := (.pointer (some ⟨bq2, 0, none⟩))) (Ex.cast (Ex.fieldAddr rfl Try.underlying54 rfl T.sz3 (by decide)) rfl) (by decide) ?_
  refine GL.val (Ex.load rfl T.ag3 (i := 1) rfl rfl) (by decide) ?_
  refine GL.val (v := (.bool false)) (Ex.cast (Ex.lss rfl rfl) (congrArg Value.bool (decide_eq_false (by omega)))) (by decide) ?_
  refine GL.val (Ex.move rfl) (by decide) ?_
  refine GL.stepG (tj := 18) rfl rfl (Ex.wp (v := (.pointer (some ⟨bq2, 0, none⟩))) (Ex.cast (Ex.fieldAddr rfl Try.underlying54 rfl T.sz3 (by decide)) rfl) (by decide)) (fun _ _ => ?_)
  refine GL.stepG (tj := 18) rfl rfl (Ex.wp (v := (.int .i64 (((X0 : Nat) : Int)))) (Ex.load rfl T.ag3 (i := 1) rfl rfl) (by decide)) (fun _ _ => ?_)
  refine GL.stepG (tj := 18) rfl rfl (Ex.wp (v := (.pointer (some ⟨bq2, 2, none⟩))) (Ex.cast (Ex.fieldAddr rfl Try.underlying54 rfl T.sz3 (by decide)) rfl) (by decide)) (fun _ _ => ?_)
  refine GL.stepG (tj := 18) rfl rfl (Ex.wp (v := (.int .i64 (((X1 : Nat) : Int)))) (Ex.load rfl T.ag3 (i := 1) rfl rfl) (by decide)) (fun _ _ => ?_)
  refine GL.stepG (tj := 18) rfl rfl (Ex.wp (v := (.bool false)) (Ex.cast (Ex.geq rfl rfl) (congrArg Value.bool (decide_eq_false (by omega)))) (by decide)) (fun _ _ => ?_)
  refine GL.val (v := (.bool false)) (Ex.pickF rfl rfl) (by decide) ?_
  refine GL.val (Ex.move rfl) (by decide) ?_
  refine GL.stepG (tj := 25) rfl rfl (Ex.wp (v := (.pointer (some ⟨bq2, 2, none⟩))) (Ex.cast (Ex.fieldAddr rfl Try.underlying54 rfl T.sz3 (by decide)) rfl) (by decide)) (fun _ _ => ?_)
  refine GL.stepG (tj := 25) rfl rfl (Ex.wp (v := (.int .i64 (((X1 : Nat) : Int)))) (Ex.load rfl T.ag3 (i := 1) rfl rfl) (by decide)) (fun _ _ => ?_)
  refine GL.stepG (tj := 25) rfl rfl (Ex.wp (v := (.pointer (some ⟨bq1, 0, none⟩))) (Ex.cast (Ex.fieldAddr rfl Try.underlying32 rfl T.sz3 (by decide)) rfl) (by decide)) (fun _ _ => ?_)
  refine GL.stepG (tj := 25) rfl rfl (Ex.wp (v := (.int .i64 (((W : Nat) : Int)))) (Ex.load rfl T.ag3 (i := 2) rfl rfl) (by decide)) (fun _ _ => ?_)
  refine GL.stepG (tj := 25) rfl rfl (Ex.wp (v := (.bool false)) (Ex.cast (Ex.gtr rfl rfl) (congrArg Value.bool (decide_eq_false (by omega)))) (by decide)) (fun _ _ => ?_)
  refine GL.val (v := (.bool false)) (Ex.pickF rfl rfl) (by decide) ?_
  refine GL.val (Ex.move rfl) (by decide) ?_
  refine GL.stepG (tj := 32) rfl rfl (Ex.wp (v := (.pointer (some ⟨bq2, 1, none⟩))) (Ex.cast (Ex.fieldAddr rfl Try.underlying54 rfl T.sz3 (by decide)) rfl) (by decide)) (fun _ _ => ?_)
  refine GL.stepG (tj := 32) rfl rfl (Ex.wp (v := (.int .i64 (((Y0 : Nat) : Int)))) (Ex.load rfl T.ag3 (i := 1) rfl rfl) (by decide)) (fun _ _ => ?_)
  refine GL.stepG (tj := 32) rfl rfl (Ex.wp (v := (.bool false)) (Ex.cast (Ex.lss rfl rfl) (congrArg Value.bool (decide_eq_false (by omega)))) (by decide)) (fun _ _ => ?_)
  refine GL.val (v := (.bool false)) (Ex.pickF rfl rfl) (by decide) ?_
  refine GL.val (Ex.move rfl) (by decide) ?_
  refine GL.stepG (tj := 37) rfl rfl (Ex.wp (v := (.pointer (some ⟨bq2, 1, none⟩))) (Ex.cast (Ex.fieldAddr rfl Try.underlying54 rfl T.sz3 (by decide)) rfl) (by decide)) (fun _ _ => ?_)
  refine GL.stepG (tj := 37) rfl rfl (Ex.wp (v := (.int .i64 (((Y0 : Nat) : Int)))) (Ex.load rfl T.ag3 (i := 1) rfl rfl) (by decide)) (fun _ _ => ?_)
  refine GL.stepG (tj := 37) rfl rfl (Ex.wp (v := (.pointer (some ⟨bq2, 3, none⟩))) (Ex.cast (Ex.fieldAddr rfl Try.underlying54 rfl T.sz3 (by decide)) rfl) (by decide)) (fun _ _ => ?_)
  refine GL.stepG (tj := 37) rfl rfl (Ex.wp (v := (.int .i64 (((Y1 : Nat) : Int)))) (Ex.load rfl T.ag3 (i := 1) rfl rfl) (by decide)) (fun _ _ => ?_)
  refine GL.stepG (tj := 37) rfl rfl (Ex.wp (v := (.bool false)) (Ex.cast (Ex.geq rfl rfl) (congrArg Value.bool (decide_eq_false (by omega)))) (by decide)) (fun _ _ => ?_)
  refine GL.val (v := (.bool false)) (Ex.pickF rfl rfl) (by decide) ?_
  refine GL.val (Ex.move rfl) (by decide) ?_
  refine GL.stepG (tj := 44) rfl rfl (Ex.wp (v := (.pointer (some ⟨bq2, 3, none⟩))) (Ex.cast (Ex.fieldAddr rfl Try.underlying54 rfl T.sz3 (by decide)) rfl) (by decide)) (fun _ _ => ?_)
  refine GL.stepG (tj := 44) rfl rfl (Ex.wp (v := (.int .i64 (((Y1 : Nat) : Int)))) (Ex.load rfl T.ag3 (i := 1) rfl rfl) (by decide)) (fun _ _ => ?_)
  refine GL.stepG (tj := 44) rfl rfl (Ex.wp (v := (.pointer (some ⟨bq1, 1, none⟩))) (Ex.cast (Ex.fieldAddr rfl Try.underlying32 rfl T.sz3 (by decide)) rfl) (by decide)) (fun _ _ => ?_)
  refine GL.stepG (tj := 44) rfl rfl (Ex.wp (v := (.int .i64 (((H : Nat) : Int)))) (Ex.load rfl T.ag3 (i := 2) rfl rfl) (by decide)) (fun _ _ => ?_)
  refine GL.stepG (tj := 44) rfl rfl (Ex.wp (v := (.bool false)) (Ex.cast (Ex.gtr rfl rfl) (congrArg Value.bool (decide_eq_false (by omega)))) (by decide)) (fun _ _ => ?_)
  refine GL.val (v := (.bool false)) (Ex.pickF rfl rfl) (by decide) ?_
  refine GL.nil ?_
  refine GE.thenN ?_
  refine GC.cond rfl (fun hq7 => by cases hq7) (fun _ => ?_)
  refine GC.skip ?_
  refine GE.thenN ?_
  refine GC.seq ?_
  refine GC.region ?_
  refine GL.val (v := (.pointer (some ⟨bq2, 2, none⟩))) (Ex.cast (Ex.fieldAddr rfl Try.underlying54 rfl T.sz3 (by decide)) rfl) (by decide) ?_
  refine GL.val (Ex.load rfl T.ag3 (i := 1) rfl rfl) (by decide) ?_
  refine GL.val (v := (.pointer (some ⟨bq2, 0, none⟩))) (Ex.cast (Ex.fieldAddr rfl Try.underlying54 rfl T.sz3 (by decide)) rfl) (by decide) ?_
  refine GL.val (Ex.load rfl T.ag3 (i := 1) rfl rfl) (by decide) ?_
  refine GL.val (v := (.int .i64 (((X1 - X0 : Nat) : Int)))) (Ex.sub' rfl rfl (Z := ((X1 - X0 : Nat) : Int)) (subN (by omega) (by omega))) (by decide) ?_
  refine GL.val (v := (.pointer (some ⟨bq2, 3, none⟩))) (Ex.cast (Ex.fieldAddr rfl Try.underlying54 rfl T.sz3 (by decide)) rfl) (by decide) ?_
  refine GL.val (Ex.load rfl T.ag3 (i := 1) rfl rfl) (by decide) ?_
  refine GL.val (v := (.pointer (some ⟨bq2, 1, none⟩))) (Ex.cast (Ex.fieldAddr rfl Try.underlying54 rfl T.sz3 (by decide)) rfl) (by decide) ?_
  refine GL.val (Ex.load rfl T.ag3 (i := 1) rfl rfl) (by decide) ?_
  refine GL.val (v := (.int .i64 (((Y1 - Y0 : Nat) : Int)))) (Ex.sub' rfl rfl (Z := ((Y1 - Y0 : Nat) : Int)) (subN (by omega) (by omega))) (by decide) ?_
  refine GL.step (Stp.callR (vs := [(.int .i64 (((X1 - X0 : Nat) : Int))), (.int .i64 (((Y1 - Y0 : Nat) : Int)))]) rfl rfl T.own48 (by decide) (fun wc hw => ref_blank (X1 - X0) (Y1 - Y0) wc (by first | omega | (rw [Nat.mul_comm]; omega)))) (fun xq8 hq9 => ?_)
  refine GL.step (Stp.alloc T.zr32 (by decide)) (fun bq10 _ => ?_)
  refine GL.step (Stp.st0 (cs' := [(.int .i64 ((((X1 - X0) : Nat) : Int))), (.int .i64 ((((Y1 - Y0) : Nat) : Int))), (.slice (some ⟨xq8, 0, none⟩) ((X1 - X0) * (Y1 - Y0)) ((X1 - X0) * (Y1 - Y0)))]) rfl rfl rfl T.sz32 rfl rfl rfl) (fun _ _ => ?_)
  refine GL.nil ?_
  refine GE.thenN ?_
  refine GC.seq ?_
  refine GC.seq ?_
  rw [show List.replicate ((X1 - X0) * (Y1 - Y0)) (Value.int .u32 0) = cur (X1 - X0) ((fun x y => smp xs W (X0 + x) (Y0 + y))) ((X1 - X0) * (Y1 - Y0)) 0 from (cur_zero _ _ _).symm]
  refine GC.region ?_
  refine GL.val (Ex.assign rfl) (by decide) ?_
  refine GL.nil ?_
  refine GE.thenN ?_
  refine GC.block ?_
  refine GC.loop (σ := Nat) (fun k => k ≤ (X1 - X0) * (Y1 - Y0)) (fun k => [(0, (.agg #[(.int .i64 (((W : Nat) : Int))), (.int .i64 (((H : Nat) : Int))), (.slice (some ⟨b, o, none⟩) n cap)])), (1, (.agg #[(.int .i64 (((X0 : Nat) : Int))), (.int .i64 (((Y0 : Nat) : Int))), (.int .i64 (((X1 : Nat) : Int))), (.int .i64 (((Y1 : Nat) : Int)))])), (2, (.pointer (some ⟨bq1, 0, none⟩))), (3, (.pointer (some ⟨bq2, 0, none⟩))), (4, (.pointer (some ⟨bq3, 0, none⟩))), (5, (.int .i64 0)), (6, (.int .i64 0)), (7, (.pointer (some ⟨bq10, 0, none⟩))), (8, (.int .i64 (((k : Nat) : Int))))]) (fun k => [⟨bq10, [(.int .i64 ((((X1 - X0) : Nat) : Int))), (.int .i64 ((((Y1 - Y0) : Nat) : Int))), (.slice (some ⟨xq8, 0, none⟩) ((X1 - X0) * (Y1 - Y0)) ((X1 - X0) * (Y1 - Y0)))], 32, true⟩, ⟨xq8, cur (X1 - X0) ((fun x y => smp xs W (X0 + x) (Y0 + y))) ((X1 - X0) * (Y1 - Y0)) k, 72, true⟩, ⟨bq3, [(.int .i64 0), (.int .i64 0), (.slice none 0 0)], 32, true⟩, ⟨bq2, [(.int .i64 (((X0 : Nat) : Int))), (.int .i64 (((Y0 : Nat) : Int))), (.int .i64 (((X1 : Nat) : Int))), (.int .i64 (((Y1 : Nat) : Int)))], 54, true⟩, ⟨bq1, [(.int .i64 (((W : Nat) : Int))), (.int .i64 (((H : Nat) : Int))), (.slice (some ⟨b, o, none⟩) n cap)], 32, true⟩]) (fun k => (X1 - X0) * (Y1 - Y0) - k) (0) (Nat.zero_le _) ((sub_cons rfl ((sub_cons rfl ((sub_cons rfl ((sub_cons rfl ((sub_cons rfl ((sub_cons rfl ((sub_cons rfl ((sub_cons rfl ((sub_cons rfl ((sub_nil _)))))))))))))))))))) (ulC (ulC (ulC (ulC (ulC ulN))))) (fun k hp => ?_)
  refine GC.seq ?_
  refine GC.seq ?_
  refine GC.region ?_
  refine GL.val (Ex.move rfl) (by decide) ?_
  refine GL.val (v := (.pointer (some ⟨bq10, 2, none⟩))) (Ex.cast (Ex.fieldAddr rfl Try.underlying32 rfl T.sz30 (by decide)) rfl) (by decide) ?_
  refine GL.val (Ex.load rfl T.ag30 (i := 0) rfl rfl) (by decide) ?_
  refine GL.val (v := (.int .i64 ((((X1 - X0) * (Y1 - Y0) : Nat) : Int)))) (Ex.len rfl Try.underlying30) (by decide) ?_
  refine GL.val (v := (.bool (decide ((((k : Nat) : Int)) < ((((X1 - X0) * (Y1 - Y0) : Nat) : Int)))))) (Ex.lss rfl rfl) (by decide) ?_
  refine GL.nil ?_
  refine GE.thenN ?_
  refine GC.cond rfl (fun hq11 => ?_) (fun hq11 => ?_)
  · replace hq11 := of_decide_eq_true hq11
    refine GC.skip ?_
    refine GE.thenN ?_
    refine GC.seq ?_
    refine GC.block ?_
    have hkx : k % (X1 - X0) < (X1 - X0) := Nat.mod_lt _ (by omega)
    have hky : k / (X1 - X0) < (Y1 - Y0) := Nat.div_lt_of_lt_mul (by omega)
    have hkx0 : (0 : Int) ≤ ((k % (X1 - X0) : Nat) : Int) := Int.natCast_nonneg _
    have hky0 : (0 : Int) ≤ ((k / (X1 - X0) : Nat) : Int) := Int.natCast_nonneg _
    refine GC.drawP [⟨bq10, [(.int .i64 ((((X1 - X0) : Nat) : Int))), (.int .i64 ((((Y1 - Y0) : Nat) : Int))), (.slice (some ⟨xq8, 0, none⟩) ((X1 - X0) * (Y1 - Y0)) ((X1 - X0) * (Y1 - Y0)))], 32, true⟩, ⟨bq3, [(.int .i64 0), (.int .i64 0), (.slice none 0 0)], 32, true⟩, ⟨bq2, [(.int .i64 (((X0 : Nat) : Int))), (.int .i64 (((Y0 : Nat) : Int))), (.int .i64 (((X1 : Nat) : Int))), (.int .i64 (((Y1 : Nat) : Int)))], 54, true⟩, ⟨bq1, [(.int .i64 (((W : Nat) : Int))), (.int .i64 (((H : Nat) : Int))), (.slice (some ⟨b, o, none⟩) n cap)], 32, true⟩] T.mixed (by kernel_rfl) (by kernel_rfl) (fuel := 20) rfl rfl ?_
    refine GH.take 0 (v := (.pointer (some ⟨bq10, 2, none⟩))) rfl (by kernel_rfl) (by kernel_rfl) (by kernel_rfl) (fun _ _ _ h => h) (Ex.cast (Ex.fieldAddr rfl Try.underlying32 rfl T.sz30 (by decide)) rfl) (ulC (ulS (ulC (ulC (ulC ulN))))) (by decide) ?_
    refine GH.take 1 (v := (.slice (some ⟨xq8, 0, none⟩) ((X1 - X0) * (Y1 - Y0)) ((X1 - X0) * (Y1 - Y0)))) rfl (by kernel_rfl) (by kernel_rfl) (by kernel_rfl) (fun _ _ _ h => h) (Ex.load rfl T.ag30 (i := 0) rfl rfl) (ulC (ulS (ulC (ulC (ulC ulN))))) (by decide) ?_
    refine GH.take 2 (v := (.int .i64 (((k : Nat) : Int)))) rfl (by kernel_rfl) (by kernel_rfl) (by kernel_rfl) (fun _ _ _ h => h) (Ex.move rfl) (ulC (ulS (ulC (ulC (ulC ulN))))) (by decide) ?_
    refine GH.take 3 (v := (.agg #[(.int .i64 (((W : Nat) : Int))), (.int .i64 (((H : Nat) : Int))), (.slice (some ⟨b, o, none⟩) n cap)])) rfl (by kernel_rfl) (by kernel_rfl) (by kernel_rfl) (fun _ _ _ h => h) (Ex.loadA rfl T.ag32 T.sz32 (i := 3) rfl (vs := [(.int .i64 (((W : Nat) : Int))), (.int .i64 (((H : Nat) : Int))), (.slice (some ⟨b, o, none⟩) n cap)]) rfl rfl) (ulC (ulS (ulC (ulC (ulC ulN))))) (by decide) ?_
    refine GH.take 4 (v := (.pointer (some ⟨bq2, 0, none⟩))) rfl (by kernel_rfl) (by kernel_rfl) (by kernel_rfl) (fun _ _ _ h => h) (Ex.cast (Ex.fieldAddr rfl Try.underlying54 rfl T.sz3 (by decide)) rfl) (ulC (ulS (ulC (ulC (ulC ulN))))) (by decide) ?_
    refine GH.take 5 (v := (.int .i64 (((X0 : Nat) : Int)))) rfl (by kernel_rfl) (by kernel_rfl) (by kernel_rfl) (fun _ _ _ h => h) (Ex.load rfl T.ag3 (i := 2) rfl rfl) (ulC (ulS (ulC (ulC (ulC ulN))))) (by decide) ?_
    refine GH.take 6 (v := (.int .i64 (((k : Nat) : Int)))) rfl (by kernel_rfl) (by kernel_rfl) (by kernel_rfl) (fun _ _ _ h => h) (Ex.move rfl) (ulC (ulS (ulC (ulC (ulC ulN))))) (by decide) ?_
    refine GH.take 7 (v := (.pointer (some ⟨bq10, 0, none⟩))) rfl (by kernel_rfl) (by kernel_rfl) (by kernel_rfl) (fun _ _ _ h => h) (Ex.cast (Ex.fieldAddr rfl Try.underlying32 rfl T.sz3 (by decide)) rfl) (ulC (ulS (ulC (ulC (ulC ulN))))) (by decide) ?_
    refine GH.take 8 (v := (.int .i64 ((((X1 - X0) : Nat) : Int)))) rfl (by kernel_rfl) (by kernel_rfl) (by kernel_rfl) (fun _ _ _ h => h) (Ex.load rfl T.ag3 (i := 0) rfl rfl) (ulC (ulS (ulC (ulC (ulC ulN))))) (by decide) ?_
    refine GH.take 9 (v := (.int .i64 (((k % (X1 - X0) : Nat) : Int)))) rfl (by kernel_rfl) (by kernel_rfl) (by kernel_rfl) (fun _ _ _ h => h) (Ex.rem rfl rfl (Z := ((k % (X1 - X0) : Nat) : Int)) (by omega) rfl) (ulC (ulS (ulC (ulC (ulC ulN))))) (by decide) ?_
    refine GH.take 10 (v := (.int .i64 (((X0 + k % (X1 - X0) : Nat) : Int)))) rfl (by kernel_rfl) (by kernel_rfl) (by kernel_rfl) (fun _ _ _ h => h) (Ex.add rfl rfl (Z := ((X0 + k % (X1 - X0) : Nat) : Int)) (addN (by omega))) (ulC (ulS (ulC (ulC (ulC ulN))))) (by decide) ?_
    refine GH.take 11 (v := (.pointer (some ⟨bq2, 1, none⟩))) rfl (by kernel_rfl) (by kernel_rfl) (by kernel_rfl) (fun _ _ _ h => h) (Ex.cast (Ex.fieldAddr rfl Try.underlying54 rfl T.sz3 (by decide)) rfl) (ulC (ulS (ulC (ulC (ulC ulN))))) (by decide) ?_
    refine GH.take 12 (v := (.int .i64 (((Y0 : Nat) : Int)))) rfl (by kernel_rfl) (by kernel_rfl) (by kernel_rfl) (fun _ _ _ h => h) (Ex.load rfl T.ag3 (i := 2) rfl rfl) (ulC (ulS (ulC (ulC (ulC ulN))))) (by decide) ?_
    refine GH.take 13 (v := (.int .i64 (((k : Nat) : Int)))) rfl (by kernel_rfl) (by kernel_rfl) (by kernel_rfl) (fun _ _ _ h => h) (Ex.move rfl) (ulC (ulS (ulC (ulC (ulC ulN))))) (by decide) ?_
    refine GH.take 14 (v := (.pointer (some ⟨bq10, 0, none⟩))) rfl (by kernel_rfl) (by kernel_rfl) (by kernel_rfl) (fun _ _ _ h => h) (Ex.cast (Ex.fieldAddr rfl Try.underlying32 rfl T.sz3 (by decide)) rfl) (ulC (ulS (ulC (ulC (ulC ulN))))) (by decide) ?_
    refine GH.take 15 (v := (.int .i64 ((((X1 - X0) : Nat) : Int)))) rfl (by kernel_rfl) (by kernel_rfl) (by kernel_rfl) (fun _ _ _ h => h) (Ex.load rfl T.ag3 (i := 0) rfl rfl) (ulC (ulS (ulC (ulC (ulC ulN))))) (by decide) ?_
    refine GH.take 16 (v := (.int .i64 (((k / (X1 - X0) : Nat) : Int)))) rfl (by kernel_rfl) (by kernel_rfl) (by kernel_rfl) (fun _ _ _ h => h) (Ex.quo rfl rfl (Z := ((k / (X1 - X0) : Nat) : Int)) (by omega) (quoN (by omega))) (ulC (ulS (ulC (ulC (ulC ulN))))) (by decide) ?_
    refine GH.take 17 (v := (.int .i64 (((Y0 + k / (X1 - X0) : Nat) : Int)))) rfl (by kernel_rfl) (by kernel_rfl) (by kernel_rfl) (fun _ _ _ h => h) (Ex.add rfl rfl (Z := ((Y0 + k / (X1 - X0) : Nat) : Int)) (addN (by omega))) (ulC (ulS (ulC (ulC (ulC ulN))))) (by decide) ?_
    refine GH.one 18 rfl (by kernel_rfl) (Stp.callR (vs := [(.agg #[(.int .i64 (((W : Nat) : Int))), (.int .i64 (((H : Nat) : Int))), (.slice (some ⟨b, o, none⟩) n cap)]), (.int .i64 (((X0 + k % (X1 - X0) : Nat) : Int))), (.int .i64 (((Y0 + k / (X1 - X0) : Nat) : Int)))]) rfl rfl T.own49 (by decide) (fun wc hw => ref_at W n cap b o (X0 + k % (X1 - X0)) (Y0 + k / (X1 - X0)) (((H : Nat) : Int)) xs wc (by have h := place_lt (W := W) (H := H) (x := (X0 + k % (X1 - X0))) (y := (Y0 + k / (X1 - X0))) (by omega) (by omega); omega) (by have h := hok.2.2.2.2; omega) hx (hw.rd hr (fun x => x)))) (fun _ => (ulC (ulS (ulC (ulC (ulC ulN)))))) (fun xq12 hq13 => ?_)
    refine GH.take 19 (v := (.pointer (some ⟨xq8, k, none⟩))) rfl (by kernel_rfl) (by kernel_rfl) (by kernel_rfl) (fun _ _ _ h => h) (Ex.cast (Ex.indexAddr rfl rfl Try.underlying30 T.sz72 (by omega) (by omega)) (by simp)) (ulC (ulS (ulC (ulC (ulC ulN))))) (by decide) ?_
    refine GH.done (by kernel_rfl) ?_
    refine GE.thenN ?_
    refine GE.tail rfl (Stp.storeL (i := 1) (cs := cur (X1 - X0) ((fun x y => smp xs W (X0 + x) (Y0 + y))) ((X1 - X0) * (Y1 - Y0)) k) (vs := [(.int .u32 (smp xs W (X0 + k % (X1 - X0)) (Y0 + k / (X1 - X0))))]) (o := k) (L1 := [⟨bq10, [(.int .i64 ((((X1 - X0) : Nat) : Int))), (.int .i64 ((((Y1 - Y0) : Nat) : Int))), (.slice (some ⟨xq8, 0, none⟩) ((X1 - X0) * (Y1 - Y0)) ((X1 - X0) * (Y1 - Y0)))], 32, true⟩, ⟨xq8, cur (X1 - X0) ((fun x y => smp xs W (X0 + x) (Y0 + y))) ((X1 - X0) * (Y1 - Y0)) (k + 1), 72, true⟩, ⟨bq3, [(.int .i64 0), (.int .i64 0), (.slice none 0 0)], 32, true⟩, ⟨bq2, [(.int .i64 (((X0 : Nat) : Int))), (.int .i64 (((Y0 : Nat) : Int))), (.int .i64 (((X1 : Nat) : Int))), (.int .i64 (((Y1 : Nat) : Int)))], 54, true⟩, ⟨bq1, [(.int .i64 (((W : Nat) : Int))), (.int .i64 (((H : Nat) : Int))), (.slice (some ⟨b, o, none⟩) n cap)], 32, true⟩]) rfl rfl rfl T.sz72 rfl (Nat.ble_eq_true_of_le (by rw [cur_len _ _ _ _ (by omega)]; simp; omega)) rfl (by rw [cur_app' (X1 - X0) ((fun x y => smp xs W (X0 + x) (Y0 + y))) ((X1 - X0) * (Y1 - Y0)) k _ (by omega) (by rfl)]; rfl)) (fun _ _ => ?_)
    refine GE.blockN ?_
    refine GE.thenN ?_
    refine GC.region ?_
    refine GL.val (Ex.move rfl) (by decide) ?_
    refine GL.val (v := (.int .i64 (((k + 1 : Nat) : Int)))) (Ex.add rfl rfl (Z := ((k + 1 : Nat) : Int)) (addN (b := 1) (by omega))) (by decide) ?_
    refine GL.val (Ex.assign rfl) (by decide) ?_
    refine GL.nil ?_
    refine GE.thenN ?_
    exact Head.mk (k + 1) (by omega) (by omega) ((sub_cons rfl ((sub_cons rfl ((sub_cons rfl ((sub_cons rfl ((sub_cons rfl ((sub_cons rfl ((sub_cons rfl ((sub_cons rfl ((sub_cons rfl ((sub_nil _)))))))))))))))))))) (ulC (ulC (ulC (ulC (ulC ulN)))))
  · replace hq11 := of_decide_eq_false hq11
    refine GC.exit ?_
    refine GE.thenE ?_
    refine GE.thenE ?_
    refine GE.blockE ?_
    refine GE.thenN ?_
    refine GC.seq ?_
    refine GC.region ?_
    refine GL.val (v := (.agg #[(.int .i64 ((((X1 - X0) : Nat) : Int))), (.int .i64 ((((Y1 - Y0) : Nat) : Int))), (.slice (some ⟨xq8, 0, none⟩) ((X1 - X0) * (Y1 - Y0)) ((X1 - X0) * (Y1 - Y0)))])) (Ex.loadA rfl T.ag32 T.sz32 (i := 0) rfl (vs := [(.int .i64 ((((X1 - X0) : Nat) : Int))), (.int .i64 ((((Y1 - Y0) : Nat) : Int))), (.slice (some ⟨xq8, 0, none⟩) ((X1 - X0) * (Y1 - Y0)) ((X1 - X0) * (Y1 - Y0)))]) rfl rfl) (by decide) ?_
    refine GL.step (Stp.st2 (cs' := [(.int .i64 ((((X1 - X0) : Nat) : Int))), (.int .i64 ((((Y1 - Y0) : Nat) : Int))), (.slice (some ⟨xq8, 0, none⟩) ((X1 - X0) * (Y1 - Y0)) ((X1 - X0) * (Y1 - Y0)))]) rfl rfl rfl T.sz32 rfl rfl rfl) (fun _ _ => ?_)
    refine GL.val (Ex.assign rfl) (by decide) ?_
    refine GL.nil ?_
    refine GE.thenN ?_
    refine GC.ret ?_
    refine GC.ret2 rfl (Rv.cellA rfl T.ag32 T.sz32 (L := _) (i := 2) rfl (vs := [(.int .i64 ((((X1 - X0) : Nat) : Int))), (.int .i64 ((((Y1 - Y0) : Nat) : Int))), (.slice (some ⟨xq8, 0, none⟩) ((X1 - X0) * (Y1 - Y0)) ((X1 - X0) * (Y1 - Y0)))]) rfl rfl) (Rv.tmp rfl) (fun wN HN => ?_)
    have ek : k = (X1 - X0) * (Y1 - Y0) := by omega
    rw [ek, cur_full] at HN
    exact HN.ret xq8 trivial rfl (ulS (ulC (ulS (ulS (ulS ulN))))) rfl

set_option maxRecDepth 100000 in
set_option maxHeartbeats 1000000 in
theorem ref_crop_inv (W H : Int) (ad : Option Addr) (n cap : Nat) (X0 Y0 X1 Y1 : Int) (w : World) (hc : chk W H n ≠ 0) :
    Calls Try.prog 27 #[(.agg #[(.int .i64 W), (.int .i64 H), (.slice ad n cap)]), (.agg #[(.int .i64 X0), (.int .i64 Y0), (.int .i64 X1), (.int .i64 Y1)])] w (Ret w (fun _ : Unit => True) (fun _ => .tuple #[(.agg #[(.int .i64 0), (.int .i64 0), (.slice none 0 0)]), .int .i64 ((chk W H n))]) (fun _ => [])) := by
  refine enter (M := None) (L := []) (n := 91) (l := [(0, (.agg #[(.int .i64 W), (.int .i64 H), (.slice ad n cap)])), (1, (.agg #[(.int .i64 X0), (.int .i64 Y0), (.int .i64 X1), (.int .i64 Y1)]))]) Try.func27 rfl rfl (Args.cons rfl (Args.cons rfl (Args.nil _))) (Hp.start _ _) ?_
  refine GC.seq ?_
  refine GC.region ?_
  refine GL.step (Stp.box (cs := [(.int .i64 W), (.int .i64 H), (.slice ad n cap)]) rfl rfl (by decide)) (fun bq1 _ => ?_)
  refine GL.step (Stp.box (cs := [(.int .i64 X0), (.int .i64 Y0), (.int .i64 X1), (.int .i64 Y1)]) rfl rfl (by decide)) (fun bq2 _ => ?_)
  refine GL.step (Stp.alloc T.zr32 (by decide)) (fun bq3 _ => ?_)
  refine GL.val (Ex.assign rfl) (by decide) ?_
  refine GL.nil ?_
  refine GE.thenN ?_
  refine GC.seq ?_
  refine GC.region ?_
  refine GL.val (v := (.agg #[(.int .i64 W), (.int .i64 H), (.slice ad n cap)])) (Ex.loadA rfl T.ag32 T.sz32 (i := 2) rfl (vs := [(.int .i64 W), (.int .i64 H), (.slice ad n cap)]) rfl rfl) (by decide) ?_
  refine GL.step (Stp.callR (vs := [(.agg #[(.int .i64 W), (.int .i64 H), (.slice ad n cap)])]) rfl rfl T.own35 (by decide) (fun wc hw => ref_check W H ad n cap wc)) (fun xq4 hq5 => ?_)
  refine GL.val (Ex.assign rfl) (by decide) ?_
  refine GL.nil ?_
  refine GE.thenN ?_
  refine GC.seq ?_
  refine GC.seq ?_
  refine GC.region ?_
  refine GL.val (Ex.move rfl) (by decide) ?_
  refine GL.val (v := (.bool (decide ((chk W H n) ≠ 0)))) (Ex.neq rfl rfl) (by decide) ?_
  refine GL.nil ?_
  refine GE.thenN ?_
  refine GC.cond rfl (fun _ => ?_) (fun hq6 => by exfalso; have hq6 := of_decide_eq_false hq6; omega)
  refine GC.seq ?_
  refine GC.region ?_
  refine GL.val (v := (.agg #[(.int .i64 0), (.int .i64 0), (.slice none 0 0)])) (Ex.build (vs := []) rfl (by first | rfl | kernel_rfl)) (by decide) ?_
  refine GL.val (Ex.move rfl) (by decide) ?_
  refine GL.step (Stp.st0 (cs' := [(.int .i64 0), (.int .i64 0), (.slice none 0 0)]) rfl rfl rfl T.sz32 rfl rfl rfl) (fun _ _ => ?_)
  refine GL.val (Ex.assign rfl) (by decide) ?_
  refine GL.nil ?_
  refine GE.thenN ?_
  refine GC.ret ?_
  refine GE.thenR ?_
  refine GC.ret2 rfl (Rv.cellA rfl T.ag32 T.sz32 (L := _) (i := 0) rfl (vs := [(.int .i64 0), (.int .i64 0), (.slice none 0 0)]) rfl rfl) (Rv.tmp rfl) (fun wN HN => ?_)
  exact HN.ret () trivial rfl (List.nil_sublist _) rfl

set_option maxRecDepth 100000 in
set_option maxHeartbeats 1000000 in
theorem ref_crop_out (W H n cap : Nat) (ad : Option Addr) (X0 Y0 X1 Y1 : Int) (w : World) (hok : okP W H) (hn : n = W * H) (hR : ¬ (0 ≤ X0 ∧ X0 < X1 ∧ X1 ≤ W ∧ 0 ≤ Y0 ∧ Y0 < Y1 ∧ Y1 ≤ H)) :
    Calls Try.prog 27 #[(.agg #[(.int .i64 (((W : Nat) : Int))), (.int .i64 (((H : Nat) : Int))), (.slice ad n cap)]), (.agg #[(.int .i64 X0), (.int .i64 Y0), (.int .i64 X1), (.int .i64 Y1)])] w (Ret w (fun _ : Unit => True) (fun _ => .tuple #[(.agg #[(.int .i64 0), (.int .i64 0), (.slice none 0 0)]), .int .i64 52]) (fun _ => [])) := by
  refine enter (M := None) (L := []) (n := 91) (l := [(0, (.agg #[(.int .i64 (((W : Nat) : Int))), (.int .i64 (((H : Nat) : Int))), (.slice ad n cap)])), (1, (.agg #[(.int .i64 X0), (.int .i64 Y0), (.int .i64 X1), (.int .i64 Y1)]))]) Try.func27 rfl rfl (Args.cons rfl (Args.cons rfl (Args.nil _))) (Hp.start _ _) ?_
  refine GC.seq ?_
  refine GC.region ?_
  refine GL.step (Stp.box (cs := [(.int .i64 (((W : Nat) : Int))), (.int .i64 (((H : Nat) : Int))), (.slice ad n cap)]) rfl rfl (by decide)) (fun bq1 _ => ?_)
  refine GL.step (Stp.box (cs := [(.int .i64 X0), (.int .i64 Y0), (.int .i64 X1), (.int .i64 Y1)]) rfl rfl (by decide)) (fun bq2 _ => ?_)
  refine GL.step (Stp.alloc T.zr32 (by decide)) (fun bq3 _ => ?_)
  refine GL.val (Ex.assign rfl) (by decide) ?_
  refine GL.nil ?_
  refine GE.thenN ?_
  refine GC.seq ?_
  refine GC.region ?_
  refine GL.val (v := (.agg #[(.int .i64 (((W : Nat) : Int))), (.int .i64 (((H : Nat) : Int))), (.slice ad n cap)])) (Ex.loadA rfl T.ag32 T.sz32 (i := 2) rfl (vs := [(.int .i64 (((W : Nat) : Int))), (.int .i64 (((H : Nat) : Int))), (.slice ad n cap)]) rfl rfl) (by decide) ?_
  refine GL.step (Stp.callR (σ := Unit) (p := fun rz => True) (v := fun rz => (.int .i64 0)) (N := fun rz => []) (vs := [(.agg #[(.int .i64 (((W : Nat) : Int))), (.int .i64 (((H : Nat) : Int))), (.slice ad n cap)])]) rfl rfl T.own35 (by decide) (fun wc hw => (by have h := ref_check (((W : Nat) : Int)) (((H : Nat) : Int)) ad n cap wc; rw [show chk (((W : Nat) : Int)) (((H : Nat) : Int)) n = 0 from by rw [hn]; exact chk_ok hok] at h; exact h))) (fun xq4 hq5 => ?_)
  refine GL.val (Ex.assign rfl) (by decide) ?_
  refine GL.nil ?_
  refine GE.thenN ?_
  refine GC.seq ?_
  refine GC.seq ?_
  refine GC.region ?_
  refine GL.val (Ex.move rfl) (by decide) ?_
  refine GL.val (v := (.bool false)) (Ex.cast (Ex.neq rfl rfl) rfl) (by decide) ?_
  refine GL.nil ?_
  refine GE.thenN ?_
  refine GC.cond rfl (fun hq6 => by cases hq6) (fun _ => ?_)
  refine GC.skip ?_
  refine GE.thenN ?_
  refine GC.seq ?_
  refine GC.seq ?_
  refine GC.region ?_
  refine GL.val (v := (.pointer (some ⟨bq2, 0, none⟩))) (Ex.cast (Ex.fieldAddr rfl Try.underlying54 rfl T.sz3 (by decide)) rfl) (by decide) ?_
  refine GL.val (Ex.load rfl T.ag3 (i := 1) rfl rfl) (by decide) ?_
  by_cases hq7 : X0 < 0
  · refine GL.val (v := (.bool true)) (Ex.cast (Ex.lss rfl rfl) (congrArg Value.bool (decide_eq_true hq7))) (by decide) ?_
    refine GL.val (Ex.move rfl) (by decide) ?_
    refine GL.skipG (tj := 18) rfl rfl rfl (by decide) ?_
    refine GL.skipG (tj := 18) rfl rfl rfl (by decide) ?_
    refine GL.skipG (tj := 18) rfl rfl rfl (by decide) ?_
    refine GL.skipG (tj := 18) rfl rfl rfl (by decide) ?_
    refine GL.skipG (tj := 18) rfl rfl rfl (by decide) ?_
    refine GL.val (v := (.bool true)) (Ex.pickT rfl rfl) (by decide) ?_
    refine GL.val (Ex.move rfl) (by decide) ?_
    refine GL.skipG (tj := 25) rfl rfl rfl (by decide) ?_
    refine GL.skipG (tj := 25) rfl rfl rfl (by decide) ?_
    refine GL.skipG (tj := 25) rfl rfl rfl (by decide) ?_
    refine GL.skipG (tj := 25) rfl rfl rfl (by decide) ?_
    refine GL.skipG (tj := 25) rfl rfl rfl (by decide) ?_
    refine GL.val (v := (.bool true)) (Ex.pickT rfl rfl) (by decide) ?_
    refine GL.val (Ex.move rfl) (by decide) ?_
    refine GL.skipG (tj := 32) rfl rfl rfl (by decide) ?_
    refine GL.skipG (tj := 32) rfl rfl rfl (by decide) ?_
    refine GL.skipG (tj := 32) rfl rfl rfl (by decide) ?_
    refine GL.val (v := (.bool true)) (Ex.pickT rfl rfl) (by decide) ?_
    refine GL.val (Ex.move rfl) (by decide) ?_
    refine GL.skipG (tj := 37) rfl rfl rfl (by decide) ?_
    refine GL.skipG (tj := 37) rfl rfl rfl (by decide) ?_
    refine GL.skipG (tj := 37) rfl rfl rfl (by decide) ?_
    refine GL.skipG (tj := 37) rfl rfl rfl (by decide) ?_
    refine GL.skipG (tj := 37) rfl rfl rfl (by decide) ?_
    refine GL.val (v := (.bool true)) (Ex.pickT rfl rfl) (by decide) ?_
    refine GL.val (Ex.move rfl) (by decide) ?_
    refine GL.skipG (tj := 44) rfl rfl rfl (by decide) ?_
    refine GL.skipG (tj := 44) rfl rfl rfl (by decide) ?_
    refine GL.skipG (tj := 44) rfl rfl rfl (by decide) ?_
    refine GL.skipG (tj := 44) rfl rfl rfl (by decide) ?_
    refine GL.skipG (tj := 44) rfl rfl rfl (by decide) ?_
    refine GL.val (v := (.bool true)) (Ex.pickT rfl rfl) (by decide) ?_
    refine GL.nil ?_
    refine GE.thenN ?_
    refine GC.cond rfl (fun _ => ?_) (fun hq8 => by cases hq8)
    refine GC.seq ?_
    refine GC.region ?_
    refine GL.val (v := (.agg #[(.int .i64 0), (.int .i64 0), (.slice none 0 0)])) (Ex.build (vs := []) rfl (by first | rfl | kernel_rfl)) (by decide) ?_
    refine GL.step (Stp.st0 (cs' := [(.int .i64 0), (.int .i64 0), (.slice none 0 0)]) rfl rfl rfl T.sz32 rfl rfl rfl) (fun _ _ => ?_)
    refine GL.val (Ex.assign rfl) (by decide) ?_
    refine GL.nil ?_
    refine GE.thenN ?_
    refine GC.ret ?_
    refine GE.thenR ?_
    refine GC.ret2 rfl (Rv.cellA rfl T.ag32 T.sz32 (L := _) (i := 0) rfl (vs := [(.int .i64 0), (.int .i64 0), (.slice none 0 0)]) rfl rfl) (Rv.tmp rfl) (fun wN HN => ?_)
    exact HN.ret () trivial rfl (List.nil_sublist _) rfl
  · refine GL.val (v := (.bool false)) (Ex.cast (Ex.lss rfl rfl) (congrArg Value.bool (decide_eq_false hq7))) (by decide) ?_
    refine GL.val (Ex.move rfl) (by decide) ?_
    refine GL.stepG (tj := 18) rfl rfl (Ex.wp (v := (.pointer (some ⟨bq2, 0, none⟩))) (Ex.cast (Ex.fieldAddr rfl Try.underlying54 rfl T.sz3 (by decide)) rfl) (by decide)) (fun _ _ => ?_)
    refine GL.stepG (tj := 18) rfl rfl (Ex.wp (v := (.int .i64 X0)) (Ex.load rfl T.ag3 (i := 1) rfl rfl) (by decide)) (fun _ _ => ?_)
    refine GL.stepG (tj := 18) rfl rfl (Ex.wp (v := (.pointer (some ⟨bq2, 2, none⟩))) (Ex.cast (Ex.fieldAddr rfl Try.underlying54 rfl T.sz3 (by decide)) rfl) (by decide)) (fun _ _ => ?_)
    refine GL.stepG (tj := 18) rfl rfl (Ex.wp (v := (.int .i64 X1)) (Ex.load rfl T.ag3 (i := 1) rfl rfl) (by decide)) (fun _ _ => ?_)
    by_cases hq9 : X1 ≤ X0
    · refine GL.stepG (tj := 18) rfl rfl (Ex.wp (v := (.bool true)) (Ex.cast (Ex.geq rfl rfl) (congrArg Value.bool (decide_eq_true hq9))) (by decide)) (fun _ _ => ?_)
      refine GL.val (v := (.bool true)) (Ex.pickF rfl rfl) (by decide) ?_
      refine GL.val (Ex.move rfl) (by decide) ?_
      refine GL.skipG (tj := 25) rfl rfl rfl (by decide) ?_
      refine GL.skipG (tj := 25) rfl rfl rfl (by decide) ?_
      refine GL.skipG (tj := 25) rfl rfl rfl (by decide) ?_
      refine GL.skipG (tj := 25) rfl rfl rfl (by decide) ?_
      refine GL.skipG (tj := 25) rfl rfl rfl (by decide) ?_
      refine GL.val (v := (.bool true)) (Ex.pickT rfl rfl) (by decide) ?_
      refine GL.val (Ex.move rfl) (by decide) ?_
      refine GL.skipG (tj := 32) rfl rfl rfl (by decide) ?_
      refine GL.skipG (tj := 32) rfl rfl rfl (by decide) ?_
      refine GL.skipG (tj := 32) rfl rfl rfl (by decide) ?_
      refine GL.val (v := (.bool true)) (Ex.pickT rfl rfl) (by decide) ?_
      refine GL.val (Ex.move rfl) (by decide) ?_
      refine GL.skipG (tj := 37) rfl rfl rfl (by decide) ?_
      refine GL.skipG (tj := 37) rfl rfl rfl (by decide) ?_
      refine GL.skipG (tj := 37) rfl rfl rfl (by decide) ?_
      refine GL.skipG (tj := 37) rfl rfl rfl (by decide) ?_
      refine GL.skipG (tj := 37) rfl rfl rfl (by decide) ?_
      refine GL.val (v := (.bool true)) (Ex.pickT rfl rfl) (by decide) ?_
      refine GL.val (Ex.move rfl) (by decide) ?_
      refine GL.skipG (tj := 44) rfl rfl rfl (by decide) ?_
      refine GL.skipG (tj := 44) rfl rfl rfl (by decide) ?_
      refine GL.skipG (tj := 44) rfl rfl rfl (by decide) ?_
      refine GL.skipG (tj := 44) rfl rfl rfl (by decide) ?_
      refine GL.skipG (tj := 44) rfl rfl rfl (by decide) ?_
      refine GL.val (v := (.bool true)) (Ex.pickT rfl rfl) (by decide) ?_
      refine GL.nil ?_
      refine GE.thenN ?_
      refine GC.cond rfl (fun _ => ?_) (fun hq10 => by cases hq10)
      refine GC.seq ?_
      refine GC.region ?_
      refine GL.val (v := (.agg #[(.int .i64 0), (.int .i64 0), (.slice none 0 0)])) (Ex.build (vs := []) rfl (by first | rfl | kernel_rfl)) (by decide) ?_
      refine GL.step (Stp.st0 (cs' := [(.int .i64 0), (.int .i64 0), (.slice none 0 0)]) rfl rfl rfl T.sz32 rfl rfl rfl) (fun _ _ => ?_)
      refine GL.val (Ex.assign rfl) (by decide) ?_
      refine GL.nil ?_
      refine GE.thenN ?_
      refine GC.ret ?_
      refine GE.thenR ?_
      refine GC.ret2 rfl (Rv.cellA rfl T.ag32 T.sz32 (L := _) (i := 0) rfl (vs := [(.int .i64 0), (.int .i64 0), (.slice none 0 0)]) rfl rfl) (Rv.tmp rfl) (fun wN HN => ?_)
      exact HN.ret () trivial rfl (List.nil_sublist _) rfl
    · refine GL.stepG (tj := 18) rfl rfl (Ex.wp (v := (.bool false)) (Ex.cast (Ex.geq rfl rfl) (congrArg Value.bool (decide_eq_false hq9))) (by decide)) (fun _ _ => ?_)
      refine GL.val (v := (.bool false)) (Ex.pickF rfl rfl) (by decide) ?_
      refine GL.val (Ex.move rfl) (by decide) ?_
      refine GL.stepG (tj := 25) rfl rfl (Ex.wp (v := (.pointer (some ⟨bq2, 2, none⟩))) (Ex.cast (Ex.fieldAddr rfl Try.underlying54 rfl T.sz3 (by decide)) rfl) (by decide)) (fun _ _ => ?_)
      refine GL.stepG (tj := 25) rfl rfl (Ex.wp (v := (.int .i64 X1)) (Ex.load rfl T.ag3 (i := 1) rfl rfl) (by decide)) (fun _ _ => ?_)
      refine GL.stepG (tj := 25) rfl rfl (Ex.wp (v := (.pointer (some ⟨bq1, 0, none⟩))) (Ex.cast (Ex.fieldAddr rfl Try.underlying32 rfl T.sz3 (by decide)) rfl) (by decide)) (fun _ _ => ?_)
      refine GL.stepG (tj := 25) rfl rfl (Ex.wp (v := (.int .i64 (((W : Nat) : Int)))) (Ex.load rfl T.ag3 (i := 2) rfl rfl) (by decide)) (fun _ _ => ?_)
      by_cases hq11 : (((W : Nat) : Int)) < X1
      · refine GL.stepG (tj := 25) rfl rfl (Ex.wp (v := (.bool true)) (Ex.cast (Ex.gtr rfl rfl) (congrArg Value.bool (decide_eq_true hq11))) (by decide)) (fun _ _ => ?_)
        refine GL.val (v := (.bool true)) (Ex.pickF rfl rfl) (by decide) ?_
        refine GL.val (Ex.move rfl) (by decide) ?_
        refine GL.skipG (tj := 32) rfl rfl rfl (by decide) ?_
        refine GL.skipG (tj := 32) rfl rfl rfl (by decide) ?_
        refine GL.skipG (tj := 32) rfl rfl rfl (by decide) ?_
        refine GL.val (v := (.bool true)) (Ex.pickT rfl rfl) (by decide) ?_
        refine GL.val (Ex.move rfl) (by decide) ?_
        refine GL.skipG (tj := 37) rfl rfl rfl (by decide) ?_
        refine GL.skipG (tj := 37) rfl rfl rfl (by decide) ?_
        refine GL.skipG (tj := 37) rfl rfl rfl (by decide) ?_
        refine GL.skipG (tj := 37) rfl rfl rfl (by decide) ?_
        refine GL.skipG (tj := 37) rfl rfl rfl (by decide) ?_
        refine GL.val (v := (.bool true)) (Ex.pickT rfl rfl) (by decide) ?_
        refine GL.val (Ex.move rfl) (by decide) ?_
        refine GL.skipG (tj := 44) rfl rfl rfl (by decide) ?_
        refine GL.skipG (tj := 44) rfl rfl rfl (by decide) ?_
        refine GL.skipG (tj := 44) rfl rfl rfl (by decide) ?_
        refine GL.skipG (tj := 44) rfl rfl rfl (by decide) ?_
        refine GL.skipG (tj := 44) rfl rfl rfl (by decide) ?_
        refine GL.val (v := (.bool true)) (Ex.pickT rfl rfl) (by decide) ?_
        refine GL.nil ?_
        refine GE.thenN ?_
        refine GC.cond rfl (fun _ => ?_) (fun hq12 => by cases hq12)
        refine GC.seq ?_
        refine GC.region ?_
        refine GL.val (v := (.agg #[(.int .i64 0), (.int .i64 0), (.slice none 0 0)])) (Ex.build (vs := []) rfl (by first | rfl | kernel_rfl)) (by decide) ?_
        refine GL.step (Stp.st0 (cs' := [(.int .i64 0), (.int .i64 0), (.slice none 0 0)]) rfl rfl rfl T.sz32 rfl rfl rfl) (fun _ _ => ?_)
        refine GL.val (Ex.assign rfl) (by decide) ?_
        refine GL.nil ?_
        refine GE.thenN ?_
        refine GC.ret ?_
        refine GE.thenR ?_
        refine GC.ret2 rfl (Rv.cellA rfl T.ag32 T.sz32 (L := _) (i := 0) rfl (vs := [(.int .i64 0), (.int .i64 0), (.slice none 0 0)]) rfl rfl) (Rv.tmp rfl) (fun wN HN => ?_)
        exact HN.ret () trivial rfl (List.nil_sublist _) rfl
      · refine GL.stepG (tj := 25) rfl rfl (Ex.wp (v := (.bool false)) (Ex.cast (Ex.gtr rfl rfl) (congrArg Value.bool (decide_eq_false hq11))) (by decide)) (fun _ _ => ?_)
        refine GL.val (v := (.bool false)) (Ex.pickF rfl rfl) (by decide) ?_
        refine GL.val (Ex.move rfl) (by decide) ?_
        refine GL.stepG (tj := 32) rfl rfl (Ex.wp (v := (.pointer (some ⟨bq2, 1, none⟩))) (Ex.cast (Ex.fieldAddr rfl Try.underlying54 rfl T.sz3 (by decide)) rfl) (by decide)) (fun _ _ => ?_)
        refine GL.stepG (tj := 32) rfl rfl (Ex.wp (v := (.int .i64 Y0)) (Ex.load rfl T.ag3 (i := 1) rfl rfl) (by decide)) (fun _ _ => ?_)
        by_cases hq13 : Y0 < 0
        · refine GL.stepG (tj := 32) rfl rfl (Ex.wp (v := (.bool true)) (Ex.cast (Ex.lss rfl rfl) (congrArg Value.bool (decide_eq_true hq13))) (by decide)) (fun _ _ => ?_)
          refine GL.val (v := (.bool true)) (Ex.pickF rfl rfl) (by decide) ?_
          refine GL.val (Ex.move rfl) (by decide) ?_
          refine GL.skipG (tj := 37) rfl rfl rfl (by decide) ?_
          refine GL.skipG (tj := 37) rfl rfl rfl (by decide) ?_
          refine GL.skipG (tj := 37) rfl rfl rfl (by decide) ?_
          refine GL.skipG (tj := 37) rfl rfl rfl (by decide) ?_
          refine GL.skipG (tj := 37) rfl rfl rfl (by decide) ?_
          refine GL.val (v := (.bool true)) (Ex.pickT rfl rfl) (by decide) ?_
          refine GL.val (Ex.move rfl) (by decide) ?_
          refine GL.skipG (tj := 44) rfl rfl rfl (by decide) ?_
          refine GL.skipG (tj := 44) rfl rfl rfl (by decide) ?_
          refine GL.skipG (tj := 44) rfl rfl rfl (by decide) ?_
          refine GL.skipG (tj := 44) rfl rfl rfl (by decide) ?_
          refine GL.skipG (tj := 44) rfl rfl rfl (by decide) ?_
          refine GL.val (v := (.bool true)) (Ex.pickT rfl rfl) (by decide) ?_
          refine GL.nil ?_
          refine GE.thenN ?_
          refine GC.cond rfl (fun _ => ?_) (fun hq14 => by cases hq14)
          refine GC.seq ?_
          refine GC.region ?_
          refine GL.val (v := (.agg #[(.int .i64 0), (.int .i64 0), (.slice none 0 0)])) (Ex.build (vs := []) rfl (by first | rfl | kernel_rfl)) (by decide) ?_
          refine GL.step (Stp.st0 (cs' := [(.int .i64 0), (.int .i64 0), (.slice none 0 0)]) rfl rfl rfl T.sz32 rfl rfl rfl) (fun _ _ => ?_)
          refine GL.val (Ex.assign rfl) (by decide) ?_
          refine GL.nil ?_
          refine GE.thenN ?_
          refine GC.ret ?_
          refine GE.thenR ?_
          refine GC.ret2 rfl (Rv.cellA rfl T.ag32 T.sz32 (L := _) (i := 0) rfl (vs := [(.int .i64 0), (.int .i64 0), (.slice none 0 0)]) rfl rfl) (Rv.tmp rfl) (fun wN HN => ?_)
          exact HN.ret () trivial rfl (List.nil_sublist _) rfl
        · refine GL.stepG (tj := 32) rfl rfl (Ex.wp (v := (.bool false)) (Ex.cast (Ex.lss rfl rfl) (congrArg Value.bool (decide_eq_false hq13))) (by decide)) (fun _ _ => ?_)
          refine GL.val (v := (.bool false)) (Ex.pickF rfl rfl) (by decide) ?_
          refine GL.val (Ex.move rfl) (by decide) ?_
          refine GL.stepG (tj := 37) rfl rfl (Ex.wp (v := (.pointer (some ⟨bq2, 1, none⟩))) (Ex.cast (Ex.fieldAddr rfl Try.underlying54 rfl T.sz3 (by decide)) rfl) (by decide)) (fun _ _ => ?_)
          refine GL.stepG (tj := 37) rfl rfl (Ex.wp (v := (.int .i64 Y0)) (Ex.load rfl T.ag3 (i := 1) rfl rfl) (by decide)) (fun _ _ => ?_)
          refine GL.stepG (tj := 37) rfl rfl (Ex.wp (v := (.pointer (some ⟨bq2, 3, none⟩))) (Ex.cast (Ex.fieldAddr rfl Try.underlying54 rfl T.sz3 (by decide)) rfl) (by decide)) (fun _ _ => ?_)
          refine GL.stepG (tj := 37) rfl rfl (Ex.wp (v := (.int .i64 Y1)) (Ex.load rfl T.ag3 (i := 1) rfl rfl) (by decide)) (fun _ _ => ?_)
          by_cases hq15 : Y1 ≤ Y0
          · refine GL.stepG (tj := 37) rfl rfl (Ex.wp (v := (.bool true)) (Ex.cast (Ex.geq rfl rfl) (congrArg Value.bool (decide_eq_true hq15))) (by decide)) (fun _ _ => ?_)
            refine GL.val (v := (.bool true)) (Ex.pickF rfl rfl) (by decide) ?_
            refine GL.val (Ex.move rfl) (by decide) ?_
            refine GL.skipG (tj := 44) rfl rfl rfl (by decide) ?_
            refine GL.skipG (tj := 44) rfl rfl rfl (by decide) ?_
            refine GL.skipG (tj := 44) rfl rfl rfl (by decide) ?_
            refine GL.skipG (tj := 44) rfl rfl rfl (by decide) ?_
            refine GL.skipG (tj := 44) rfl rfl rfl (by decide) ?_
            refine GL.val (v := (.bool true)) (Ex.pickT rfl rfl) (by decide) ?_
            refine GL.nil ?_
            refine GE.thenN ?_
            refine GC.cond rfl (fun _ => ?_) (fun hq16 => by cases hq16)
            refine GC.seq ?_
            refine GC.region ?_
            refine GL.val (v := (.agg #[(.int .i64 0), (.int .i64 0), (.slice none 0 0)])) (Ex.build (vs := []) rfl (by first | rfl | kernel_rfl)) (by decide) ?_
            refine GL.step (Stp.st0 (cs' := [(.int .i64 0), (.int .i64 0), (.slice none 0 0)]) rfl rfl rfl T.sz32 rfl rfl rfl) (fun _ _ => ?_)
            refine GL.val (Ex.assign rfl) (by decide) ?_
            refine GL.nil ?_
            refine GE.thenN ?_
            refine GC.ret ?_
            refine GE.thenR ?_
            refine GC.ret2 rfl (Rv.cellA rfl T.ag32 T.sz32 (L := _) (i := 0) rfl (vs := [(.int .i64 0), (.int .i64 0), (.slice none 0 0)]) rfl rfl) (Rv.tmp rfl) (fun wN HN => ?_)
            exact HN.ret () trivial rfl (List.nil_sublist _) rfl
          · refine GL.stepG (tj := 37) rfl rfl (Ex.wp (v := (.bool false)) (Ex.cast (Ex.geq rfl rfl) (congrArg Value.bool (decide_eq_false hq15))) (by decide)) (fun _ _ => ?_)
            refine GL.val (v := (.bool false)) (Ex.pickF rfl rfl) (by decide) ?_
            refine GL.val (Ex.move rfl) (by decide) ?_
            refine GL.stepG (tj := 44) rfl rfl (Ex.wp (v := (.pointer (some ⟨bq2, 3, none⟩))) (Ex.cast (Ex.fieldAddr rfl Try.underlying54 rfl T.sz3 (by decide)) rfl) (by decide)) (fun _ _ => ?_)
            refine GL.stepG (tj := 44) rfl rfl (Ex.wp (v := (.int .i64 Y1)) (Ex.load rfl T.ag3 (i := 1) rfl rfl) (by decide)) (fun _ _ => ?_)
            refine GL.stepG (tj := 44) rfl rfl (Ex.wp (v := (.pointer (some ⟨bq1, 1, none⟩))) (Ex.cast (Ex.fieldAddr rfl Try.underlying32 rfl T.sz3 (by decide)) rfl) (by decide)) (fun _ _ => ?_)
            refine GL.stepG (tj := 44) rfl rfl (Ex.wp (v := (.int .i64 (((H : Nat) : Int)))) (Ex.load rfl T.ag3 (i := 2) rfl rfl) (by decide)) (fun _ _ => ?_)
            refine GL.stepG (tj := 44) rfl rfl (Ex.wp (v := (.bool (decide ((((H : Nat) : Int)) < Y1)))) (Ex.gtr rfl rfl) (by decide)) (fun _ _ => ?_)
            refine GL.val (v := (.bool (decide ((((H : Nat) : Int)) < Y1)))) (Ex.pickF rfl rfl) (by decide) ?_
            refine GL.nil ?_
            refine GE.thenN ?_
            refine GC.cond rfl (fun hq17 => ?_) (fun hq17 => ?_)
            · replace hq17 := of_decide_eq_true hq17
              refine GC.seq ?_
              refine GC.region ?_
              refine GL.val (v := (.agg #[(.int .i64 0), (.int .i64 0), (.slice none 0 0)])) (Ex.build (vs := []) rfl (by first | rfl | kernel_rfl)) (by decide) ?_
              refine GL.step (Stp.st0 (cs' := [(.int .i64 0), (.int .i64 0), (.slice none 0 0)]) rfl rfl rfl T.sz32 rfl rfl rfl) (fun _ _ => ?_)
              refine GL.val (Ex.assign rfl) (by decide) ?_
              refine GL.nil ?_
              refine GE.thenN ?_
              refine GC.ret ?_
              refine GE.thenR ?_
              refine GC.ret2 rfl (Rv.cellA rfl T.ag32 T.sz32 (L := _) (i := 0) rfl (vs := [(.int .i64 0), (.int .i64 0), (.slice none 0 0)]) rfl rfl) (Rv.tmp rfl) (fun wN HN => ?_)
              exact HN.ret () trivial rfl (List.nil_sublist _) rfl
            · replace hq17 := of_decide_eq_false hq17
              exfalso; omega

set_option maxRecDepth 100000 in
set_option maxHeartbeats 1000000 in
theorem ref_flipT (W H n cap b o : Nat) (xs : List Int) (w : World) (hok : okP W H) (hn : n = W * H) (hx : xs.length = n) (hr : Rd w b o (xs.map u32)) :
    Calls Try.prog 30 #[(.agg #[(.int .i64 (((W : Nat) : Int))), (.int .i64 (((H : Nat) : Int))), (.slice (some ⟨b, o, none⟩) n cap)]), (.bool true)] w (Ret w (fun _ : Nat => True) (fun rz0 => .tuple #[(.agg #[(.int .i64 (((W : Nat) : Int))), (.int .i64 (((H : Nat) : Int))), (.slice (some ⟨rz0, 0, none⟩) (W * H) (W * H))]), .int .i64 0]) (fun rz0 => [⟨rz0, (flT xs W H).map u32, 72, true⟩])) := by
  have hW := hok.1
  have hH := hok.2.1
  have hW2 := hok.2.2.1
  have hH2 := hok.2.2.2.1
  have hA := hok.2.2.2.2
  refine enter (M := None) (L := []) (n := 63) (l := [(0, (.agg #[(.int .i64 (((W : Nat) : Int))), (.int .i64 (((H : Nat) : Int))), (.slice (some ⟨b, o, none⟩) n cap)])), (1, (.bool true))]) Try.func30 rfl rfl (Args.cons rfl (Args.cons rfl (Args.nil _))) (Hp.start _ _) ?_
  refine GC.seq ?_
  refine GC.region ?_
  refine GL.step (Stp.box (cs := [(.int .i64 (((W : Nat) : Int))), (.int .i64 (((H : Nat) : Int))), (.slice (some ⟨b, o, none⟩) n cap)]) rfl rfl (by decide)) (fun bq1 _ => ?_)
  refine GL.step (Stp.alloc T.zr32 (by decide)) (fun bq2 _ => ?_)
  refine GL.val (Ex.assign rfl) (by decide) ?_
  refine GL.nil ?_
  refine GE.thenN ?_
  refine GC.seq ?_
  refine GC.region ?_
  refine GL.val (v := (.agg #[(.int .i64 (((W : Nat) : Int))), (.int .i64 (((H : Nat) : Int))), (.slice (some ⟨b, o, none⟩) n cap)])) (Ex.loadA rfl T.ag32 T.sz32 (i := 1) rfl (vs := [(.int .i64 (((W : Nat) : Int))), (.int .i64 (((H : Nat) : Int))), (.slice (some ⟨b, o, none⟩) n cap)]) rfl rfl) (by decide) ?_
  refine GL.step (Stp.callR (σ := Unit) (p := fun rz => True) (v := fun rz => (.int .i64 0)) (N := fun rz => []) (vs := [(.agg #[(.int .i64 (((W : Nat) : Int))), (.int .i64 (((H : Nat) : Int))), (.slice (some ⟨b, o, none⟩) n cap)])]) rfl rfl T.own35 (by decide) (fun wc hw => (by have h := ref_check (((W : Nat) : Int)) (((H : Nat) : Int)) (some ⟨b, o, none⟩) n cap wc; rw [show chk (((W : Nat) : Int)) (((H : Nat) : Int)) n = 0 from by rw [hn]; exact chk_ok hok] at h; exact h))) (fun xq3 hq4 => ?_)
  refine GL.val (Ex.assign rfl) (by decide) ?_
  refine GL.nil ?_
  refine GE.thenN ?_
  refine GC.seq ?_
  refine GC.seq ?_
  refine GC.region ?_
  refine GL.val (Ex.move rfl) (by decide) ?_
  refine GL.val (v := (.bool false)) (Ex.cast (Ex.neq rfl rfl) rfl) (by decide) ?_
  refine GL.nil ?_
  refine GE.thenN ?_
  refine GC.cond rfl (fun hq5 => by cases hq5) (fun _ => ?_)
  refine GC.skip ?_
  refine GE.thenN ?_
  refine GC.seq ?_
  refine GC.region ?_
  refine GL.val (v := (.pointer (some ⟨bq1, 0, none⟩))) (Ex.cast (Ex.fieldAddr rfl Try.underlying32 rfl T.sz3 (by decide)) rfl) (by decide) ?_
  refine GL.val (Ex.load rfl T.ag3 (i := 1) rfl rfl) (by decide) ?_
  refine GL.val (v := (.pointer (some ⟨bq1, 1, none⟩))) (Ex.cast (Ex.fieldAddr rfl Try.underlying32 rfl T.sz3 (by decide)) rfl) (by decide) ?_
  refine GL.val (Ex.load rfl T.ag3 (i := 1) rfl rfl) (by decide) ?_
  refine GL.step (Stp.callR (vs := [(.int .i64 (((W : Nat) : Int))), (.int .i64 (((H : Nat) : Int)))]) rfl rfl T.own48 (by decide) (fun wc hw => ref_blank W H wc (by first | omega | (rw [Nat.mul_comm]; omega)))) (fun xq6 hq7 => ?_)
  refine GL.step (Stp.alloc T.zr32 (by decide)) (fun bq8 _ => ?_)
  refine GL.step (Stp.st0 (cs' := [(.int .i64 (((W : Nat) : Int))), (.int .i64 (((H : Nat) : Int))), (.slice (some ⟨xq6, 0, none⟩) (W * H) (W * H))]) rfl rfl rfl T.sz32 rfl rfl rfl) (fun _ _ => ?_)
  refine GL.nil ?_
  refine GE.thenN ?_
  refine GC.seq ?_
  refine GC.seq ?_
  rw [show List.replicate (W * H) (Value.int .u32 0) = cur W ((fun x y => smp xs W (W - 1 - x) y)) (W * H) 0 from (cur_zero _ _ _).symm]
  refine GC.region ?_
  refine GL.val (Ex.assign rfl) (by decide) ?_
  refine GL.nil ?_
  refine GE.thenN ?_
  refine GC.block ?_
  refine GC.loop (σ := Nat) (fun k => k ≤ W * H) (fun k => [(0, (.agg #[(.int .i64 (((W : Nat) : Int))), (.int .i64 (((H : Nat) : Int))), (.slice (some ⟨b, o, none⟩) n cap)])), (1, (.bool true)), (2, (.pointer (some ⟨bq1, 0, none⟩))), (4, (.pointer (some ⟨bq2, 0, none⟩))), (5, (.int .i64 0)), (6, (.int .i64 0)), (7, (.pointer (some ⟨bq8, 0, none⟩))), (8, (.int .i64 (((k : Nat) : Int))))]) (fun k => [⟨bq8, [(.int .i64 (((W : Nat) : Int))), (.int .i64 (((H : Nat) : Int))), (.slice (some ⟨xq6, 0, none⟩) (W * H) (W * H))], 32, true⟩, ⟨xq6, cur W ((fun x y => smp xs W (W - 1 - x) y)) (W * H) k, 72, true⟩, ⟨bq2, [(.int .i64 0), (.int .i64 0), (.slice none 0 0)], 32, true⟩, ⟨bq1, [(.int .i64 (((W : Nat) : Int))), (.int .i64 (((H : Nat) : Int))), (.slice (some ⟨b, o, none⟩) n cap)], 32, true⟩]) (fun k => W * H - k) (0) (Nat.zero_le _) ((sub_cons rfl ((sub_cons rfl ((sub_cons rfl ((sub_cons rfl ((sub_cons rfl ((sub_cons rfl ((sub_cons rfl ((sub_cons rfl ((sub_nil _)))))))))))))))))) (ulC (ulC (ulC (ulC ulN)))) (fun k hp => ?_)
  refine GC.seq ?_
  refine GC.seq ?_
  refine GC.region ?_
  refine GL.val (Ex.move rfl) (by decide) ?_
  refine GL.val (v := (.pointer (some ⟨bq8, 2, none⟩))) (Ex.cast (Ex.fieldAddr rfl Try.underlying32 rfl T.sz30 (by decide)) rfl) (by decide) ?_
  refine GL.val (Ex.load rfl T.ag30 (i := 0) rfl rfl) (by decide) ?_
  refine GL.val (v := (.int .i64 (((W * H) : Int)))) (Ex.len rfl Try.underlying30) (by decide) ?_
  refine GL.val (v := (.bool (decide ((((k : Nat) : Int)) < (((W * H) : Int)))))) (Ex.lss rfl rfl) (by decide) ?_
  refine GL.nil ?_
  refine GE.thenN ?_
  refine GC.cond rfl (fun hq9 => ?_) (fun hq9 => ?_)
  · replace hq9 := of_decide_eq_true hq9
    refine GC.skip ?_
    refine GE.thenN ?_
    refine GC.seq ?_
    refine GC.block ?_
    refine GC.seq ?_
    have hkx : k % W < W := Nat.mod_lt _ (by omega)
    have hky : k / W < H := Nat.div_lt_of_lt_mul (by omega)
    have hkx0 : (0 : Int) ≤ ((k % W : Nat) : Int) := Int.natCast_nonneg _
    have hky0 : (0 : Int) ≤ ((k / W : Nat) : Int) := Int.natCast_nonneg _
    refine GC.drawP [⟨bq8, [(.int .i64 (((W : Nat) : Int))), (.int .i64 (((H : Nat) : Int))), (.slice (some ⟨xq6, 0, none⟩) (W * H) (W * H))], 32, true⟩, ⟨bq2, [(.int .i64 0), (.int .i64 0), (.slice none 0 0)], 32, true⟩, ⟨bq1, [(.int .i64 (((W : Nat) : Int))), (.int .i64 (((H : Nat) : Int))), (.slice (some ⟨b, o, none⟩) n cap)], 32, true⟩] T.mixed (by kernel_rfl) (by kernel_rfl) (fuel := 9) rfl rfl ?_
    refine GH.take 0 (v := (.int .i64 (((k : Nat) : Int)))) rfl (by kernel_rfl) (by kernel_rfl) (by kernel_rfl) (fun _ _ _ h => h) (Ex.move rfl) (ulC (ulS (ulC (ulC ulN)))) (by decide) ?_
    refine GH.take 1 (v := (.pointer (some ⟨bq1, 0, none⟩))) rfl (by kernel_rfl) (by kernel_rfl) (by kernel_rfl) (fun _ _ _ h => h) (Ex.cast (Ex.fieldAddr rfl Try.underlying32 rfl T.sz3 (by decide)) rfl) (ulC (ulS (ulC (ulC ulN)))) (by decide) ?_
    refine GH.take 2 (v := (.int .i64 (((W : Nat) : Int)))) rfl (by kernel_rfl) (by kernel_rfl) (by kernel_rfl) (fun _ _ _ h => h) (Ex.load rfl T.ag3 (i := 2) rfl rfl) (ulC (ulS (ulC (ulC ulN)))) (by decide) ?_
    refine GH.take 3 (v := (.int .i64 (((k % W : Nat) : Int)))) rfl (by kernel_rfl) (by kernel_rfl) (by kernel_rfl) (fun _ _ _ h => h) (Ex.rem rfl rfl (Z := ((k % W : Nat) : Int)) (by omega) rfl) (ulC (ulS (ulC (ulC ulN)))) (by decide) ?_
    refine GH.take 4 (v := (.int .i64 (((k : Nat) : Int)))) rfl (by kernel_rfl) (by kernel_rfl) (by kernel_rfl) (fun _ _ _ h => h) (Ex.move rfl) (ulC (ulS (ulC (ulC ulN)))) (by decide) ?_
    refine GH.take 5 (v := (.pointer (some ⟨bq1, 0, none⟩))) rfl (by kernel_rfl) (by kernel_rfl) (by kernel_rfl) (fun _ _ _ h => h) (Ex.cast (Ex.fieldAddr rfl Try.underlying32 rfl T.sz3 (by decide)) rfl) (ulC (ulS (ulC (ulC ulN)))) (by decide) ?_
    refine GH.take 6 (v := (.int .i64 (((W : Nat) : Int)))) rfl (by kernel_rfl) (by kernel_rfl) (by kernel_rfl) (fun _ _ _ h => h) (Ex.load rfl T.ag3 (i := 2) rfl rfl) (ulC (ulS (ulC (ulC ulN)))) (by decide) ?_
    refine GH.take 7 (v := (.int .i64 (((k / W : Nat) : Int)))) rfl (by kernel_rfl) (by kernel_rfl) (by kernel_rfl) (fun _ _ _ h => h) (Ex.quo rfl rfl (Z := ((k / W : Nat) : Int)) (by omega) (quoN (by omega))) (ulC (ulS (ulC (ulC ulN)))) (by decide) ?_
    refine GH.take 8 (v := (.int .i64 (((k % W : Nat) : Int)))) rfl (by kernel_rfl) (by kernel_rfl) (by kernel_rfl) (fun _ _ _ h => h) (Ex.assign rfl) (ulC (ulS (ulC (ulC ulN)))) (by decide) ?_
    refine GH.done (by kernel_rfl) ?_
    refine GE.thenN ?_
    refine GE.tail rfl (Ex.wp (v := (.int .i64 (((k / W : Nat) : Int)))) (Ex.assign rfl) (by decide)) (fun _ _ => ?_)
    refine GE.thenN ?_
    refine GC.seq ?_
    refine GC.region ?_
    refine GL.val (Ex.move rfl) (by decide) ?_
    refine GL.nil ?_
    refine GE.thenN ?_
    refine GC.cond rfl (fun _ => ?_) (fun hq10 => by cases hq10)
    refine GC.drawP [⟨bq8, [(.int .i64 (((W : Nat) : Int))), (.int .i64 (((H : Nat) : Int))), (.slice (some ⟨xq6, 0, none⟩) (W * H) (W * H))], 32, true⟩, ⟨bq2, [(.int .i64 0), (.int .i64 0), (.slice none 0 0)], 32, true⟩, ⟨bq1, [(.int .i64 (((W : Nat) : Int))), (.int .i64 (((H : Nat) : Int))), (.slice (some ⟨b, o, none⟩) n cap)], 32, true⟩] T.mixed (by kernel_rfl) (by kernel_rfl) (fuel := 12) rfl rfl ?_
    refine GH.take 0 (v := (.pointer (some ⟨bq8, 2, none⟩))) rfl (by kernel_rfl) (by kernel_rfl) (by kernel_rfl) (fun _ _ _ h => h) (Ex.cast (Ex.fieldAddr rfl Try.underlying32 rfl T.sz30 (by decide)) rfl) (ulC (ulS (ulC (ulC ulN)))) (by decide) ?_
    refine GH.take 1 (v := (.slice (some ⟨xq6, 0, none⟩) (W * H) (W * H))) rfl (by kernel_rfl) (by kernel_rfl) (by kernel_rfl) (fun _ _ _ h => h) (Ex.load rfl T.ag30 (i := 0) rfl rfl) (ulC (ulS (ulC (ulC ulN)))) (by decide) ?_
    refine GH.take 2 (v := (.int .i64 (((k : Nat) : Int)))) rfl (by kernel_rfl) (by kernel_rfl) (by kernel_rfl) (fun _ _ _ h => h) (Ex.move rfl) (ulC (ulS (ulC (ulC ulN)))) (by decide) ?_
    refine GH.take 3 (v := (.agg #[(.int .i64 (((W : Nat) : Int))), (.int .i64 (((H : Nat) : Int))), (.slice (some ⟨b, o, none⟩) n cap)])) rfl (by kernel_rfl) (by kernel_rfl) (by kernel_rfl) (fun _ _ _ h => h) (Ex.loadA rfl T.ag32 T.sz32 (i := 2) rfl (vs := [(.int .i64 (((W : Nat) : Int))), (.int .i64 (((H : Nat) : Int))), (.slice (some ⟨b, o, none⟩) n cap)]) rfl rfl) (ulC (ulS (ulC (ulC ulN)))) (by decide) ?_
    refine GH.take 4 (v := (.pointer (some ⟨bq1, 0, none⟩))) rfl (by kernel_rfl) (by kernel_rfl) (by kernel_rfl) (fun _ _ _ h => h) (Ex.cast (Ex.fieldAddr rfl Try.underlying32 rfl T.sz3 (by decide)) rfl) (ulC (ulS (ulC (ulC ulN)))) (by decide) ?_
    refine GH.take 5 (v := (.int .i64 (((W : Nat) : Int)))) rfl (by kernel_rfl) (by kernel_rfl) (by kernel_rfl) (fun _ _ _ h => h) (Ex.load rfl T.ag3 (i := 2) rfl rfl) (ulC (ulS (ulC (ulC ulN)))) (by decide) ?_
    refine GH.take 6 (v := (.int .i64 (((W - 1 : Nat) : Int)))) rfl (by kernel_rfl) (by kernel_rfl) (by kernel_rfl) (fun _ _ _ h => h) (Ex.sub' rfl rfl (Z := ((W - 1 : Nat) : Int)) (subN (b := 1) (by omega) (by omega))) (ulC (ulS (ulC (ulC ulN)))) (by decide) ?_
    refine GH.take 7 (v := (.int .i64 (((k % W : Nat) : Int)))) rfl (by kernel_rfl) (by kernel_rfl) (by kernel_rfl) (fun _ _ _ h => h) (Ex.move rfl) (ulC (ulS (ulC (ulC ulN)))) (by decide) ?_
    refine GH.take 8 (v := (.int .i64 (((W - 1 - k % W : Nat) : Int)))) rfl (by kernel_rfl) (by kernel_rfl) (by kernel_rfl) (fun _ _ _ h => h) (Ex.sub' rfl rfl (Z := ((W - 1 - k % W : Nat) : Int)) (subN (by omega) (by omega))) (ulC (ulS (ulC (ulC ulN)))) (by decide) ?_
    refine GH.take 9 (v := (.int .i64 (((k / W : Nat) : Int)))) rfl (by kernel_rfl) (by kernel_rfl) (by kernel_rfl) (fun _ _ _ h => h) (Ex.move rfl) (ulC (ulS (ulC (ulC ulN)))) (by decide) ?_
    refine GH.one 10 rfl (by kernel_rfl) (Stp.callR (vs := [(.agg #[(.int .i64 (((W : Nat) : Int))), (.int .i64 (((H : Nat) : Int))), (.slice (some ⟨b, o, none⟩) n cap)]), (.int .i64 (((W - 1 - k % W : Nat) : Int))), (.int .i64 (((k / W : Nat) : Int)))]) rfl rfl T.own49 (by decide) (fun wc hw => ref_at W n cap b o (W - 1 - k % W) (k / W) (((H : Nat) : Int)) xs wc (by have h := place_lt (W := W) (H := H) (x := (W - 1 - k % W)) (y := (k / W)) (by omega) (by omega); omega) (by have h := hok.2.2.2.2; omega) hx (hw.rd hr (fun x => x)))) (fun _ => (ulC (ulS (ulC (ulC ulN))))) (fun xq11 hq12 => ?_)
    refine GH.take 11 (v := (.pointer (some ⟨xq6, k, none⟩))) rfl (by kernel_rfl) (by kernel_rfl) (by kernel_rfl) (fun _ _ _ h => h) (Ex.cast (Ex.indexAddr rfl rfl Try.underlying30 T.sz72 (by omega) (by omega)) (by simp)) (ulC (ulS (ulC (ulC ulN)))) (by decide) ?_
    refine GH.done (by kernel_rfl) ?_
    refine GE.thenN ?_
    refine GE.tail rfl (Stp.storeL (i := 1) (cs := cur W ((fun x y => smp xs W (W - 1 - x) y)) (W * H) k) (vs := [(.int .u32 (smp xs W (W - 1 - k % W) (k / W)))]) (o := k) (L1 := [⟨bq8, [(.int .i64 (((W : Nat) : Int))), (.int .i64 (((H : Nat) : Int))), (.slice (some ⟨xq6, 0, none⟩) (W * H) (W * H))], 32, true⟩, ⟨xq6, cur W ((fun x y => smp xs W (W - 1 - x) y)) (W * H) (k + 1), 72, true⟩, ⟨bq2, [(.int .i64 0), (.int .i64 0), (.slice none 0 0)], 32, true⟩, ⟨bq1, [(.int .i64 (((W : Nat) : Int))), (.int .i64 (((H : Nat) : Int))), (.slice (some ⟨b, o, none⟩) n cap)], 32, true⟩]) rfl rfl rfl T.sz72 rfl (Nat.ble_eq_true_of_le (by rw [cur_len _ _ _ _ (by omega)]; simp; omega)) rfl (by rw [cur_app' W ((fun x y => smp xs W (W - 1 - x) y)) (W * H) k _ (by omega) (by rfl)]; rfl)) (fun _ _ => ?_)
    refine GE.blockN ?_
    refine GE.thenN ?_
    refine GC.region ?_
    refine GL.val (Ex.move rfl) (by decide) ?_
    refine GL.val (v := (.int .i64 (((k + 1 : Nat) : Int)))) (Ex.add rfl rfl (Z := ((k + 1 : Nat) : Int)) (addN (b := 1) (by omega))) (by decide) ?_
    refine GL.val (Ex.assign rfl) (by decide) ?_
    refine GL.nil ?_
    refine GE.thenN ?_
    exact Head.mk (k + 1) (by omega) (by omega) ((sub_cons rfl ((sub_cons rfl ((sub_cons rfl ((sub_cons rfl ((sub_cons rfl ((sub_cons rfl ((sub_cons rfl ((sub_cons rfl ((sub_nil _)))))))))))))))))) (ulC (ulC (ulC (ulC ulN))))
  · replace hq9 := of_decide_eq_false hq9
    refine GC.exit ?_
    refine GE.thenE ?_
    refine GE.thenE ?_
    refine GE.blockE ?_
    refine GE.thenN ?_
    refine GC.seq ?_
    refine GC.region ?_
    refine GL.val (v := (.agg #[(.int .i64 (((W : Nat) : Int))), (.int .i64 (((H : Nat) : Int))), (.slice (some ⟨xq6, 0, none⟩) (W * H) (W * H))])) (Ex.loadA rfl T.ag32 T.sz32 (i := 0) rfl (vs := [(.int .i64 (((W : Nat) : Int))), (.int .i64 (((H : Nat) : Int))), (.slice (some ⟨xq6, 0, none⟩) (W * H) (W * H))]) rfl rfl) (by decide) ?_
    refine GL.step (Stp.st2 (cs' := [(.int .i64 (((W : Nat) : Int))), (.int .i64 (((H : Nat) : Int))), (.slice (some ⟨xq6, 0, none⟩) (W * H) (W * H))]) rfl rfl rfl T.sz32 rfl rfl rfl) (fun _ _ => ?_)
    refine GL.val (Ex.assign rfl) (by decide) ?_
    refine GL.nil ?_
    refine GE.thenN ?_
    refine GC.ret ?_
    refine GC.ret2 rfl (Rv.cellA rfl T.ag32 T.sz32 (L := _) (i := 2) rfl (vs := [(.int .i64 (((W : Nat) : Int))), (.int .i64 (((H : Nat) : Int))), (.slice (some ⟨xq6, 0, none⟩) (W * H) (W * H))]) rfl rfl) (Rv.tmp rfl) (fun wN HN => ?_)
    have ek : k = W * H := by omega
    rw [ek, cur_full] at HN
    exact HN.ret xq6 trivial rfl (ulS (ulC (ulS (ulS ulN)))) rfl

end Go.Proofs.Ytileciohbhoehaa.C
