/- BlurWeighs: what its code does, walked. -/
import Derived.Test.YtjbpdhofhhinhaaKWeighs3
namespace Go.Proofs.Ytjbpdhofhhinhaa.C
open Go Go.RowKit Sx
set_option linter.unusedVariables false
set_option maxRecDepth 100000 in
set_option maxHeartbeats 1000000 in
theorem booki_s10 (w0 : World) (R : List Blk) (kb : Nat) (m : Int) (n1 b1 c1 b2 c2 : Nat) (xs1 sp1 xs2 sp2 : List Value) (w : World)  (hn1 : n1 ≤ 1000) (hx1 : xs1.length = n1) (hx2 : xs2.length = n1) (hc1 : (xs1 ++ sp1).length = c1 * 1) (hc2 : (xs2 ++ sp2).length = c2 * 1) (hp0 : Hp None w0 (⟨kb, [(.slice none 0 0), (.slice none 0 0), (.slice none 0 0), (.slice (some ⟨b1, 0, none⟩) n1 c1), (.slice none 0 0), (.slice none 0 0), (.slice none 0 0), (.slice (some ⟨b2, 0, none⟩) n1 c2)], 31, true⟩ :: ⟨b1, xs1 ++ sp1, 28, true⟩ :: ⟨b2, xs2 ++ sp2, 3, true⟩ :: R) w) :
    Calls Try.prog 17 #[(.pointer (some ⟨kb, 0, none⟩)), (.slice none 0 0), (.int .i64 m)] w (Frm (σ := (Nat × Nat × List Value) × (Nat × Nat × List Value)) None w0 (fun x => (xs1 ++ [(Value.slice none 0 0)] ++ x.2.2.2 : List Value).length = x.2.2.1 * 1 ∧ (xs2 ++ [(Value.int .i64 m)] ++ x.1.2.2 : List Value).length = x.1.2.1 * 1) (fun x => .tuple #[]) (fun x => (⟨x.1.1, xs2 ++ [(Value.int .i64 m)] ++ x.1.2.2, 3, true⟩ :: ⟨x.2.1, xs1 ++ [(Value.slice none 0 0)] ++ x.2.2.2, 28, true⟩ :: ⟨kb, [(.slice none 0 0), (.slice none 0 0), (.slice none 0 0), (.slice (some ⟨x.2.1, 0, none⟩) (n1 + 1) x.2.2.1), (.slice none 0 0), (.slice none 0 0), (.slice none 0 0), (.slice (some ⟨x.1.1, 0, none⟩) (n1 + 1) x.1.2.1)], 31, true⟩ :: R))) := by
  refine enterF (w0 := w0) (M := None) (L := (⟨kb, [(.slice none 0 0), (.slice none 0 0), (.slice none 0 0), (.slice (some ⟨b1, 0, none⟩) n1 c1), (.slice none 0 0), (.slice none 0 0), (.slice none 0 0), (.slice (some ⟨b2, 0, none⟩) n1 c2)], 31, true⟩ :: ⟨b1, xs1 ++ sp1, 28, true⟩ :: ⟨b2, xs2 ++ sp2, 3, true⟩ :: R)) (n := 45) (l := [(0, (.pointer (some ⟨kb, 0, none⟩))), (1, (.slice none 0 0)), (2, (.int .i64 m))]) Try.func17 rfl rfl (Args.cons rfl (Args.cons rfl (Args.cons rfl (Args.nil _)))) hp0 ?_
  refine GC.seq ?_
  refine GC.region ?_
  refine GL.val (Ex.move rfl) (by decide) ?_
  refine GL.val (Ex.move rfl) (by decide) ?_
  refine GL.val (v := (.int .i64 0)) (Ex.cap rfl Try.underlying28) (by decide) ?_
  refine GL.val (v := (.slice none 0 0)) (Ex.sliceH (m := 0) rfl rfl Try.underlying28 T.sz3 rfl (Nat.le_refl _)) (by decide) ?_
  refine GL.val (Ex.assign rfl) (by decide) ?_
  refine GL.nil ?_
  refine GE.thenN ?_
  refine GC.seq ?_
  refine GC.seq ?_
  refine GC.region ?_
  refine GL.val (Ex.assign rfl) (by decide) ?_
  refine GL.nil ?_
  refine GE.thenN ?_
  refine GC.block ?_
  refine GC.unroll 1 ?_
  refine GE.round ?_
  refine GC.seq ?_
  refine GC.seq ?_
  refine GC.region ?_
  refine GL.val (Ex.move rfl) (by decide) ?_
  refine GL.val (Ex.move rfl) (by decide) ?_
  refine GL.val (v := (.int .i64 0)) (Ex.len rfl Try.underlying28) (by decide) ?_
  refine GL.val (v := (.bool false)) (Ex.cast (Ex.lss rfl rfl) rfl) (by decide) ?_
  refine GL.nil ?_
  refine GE.thenN ?_
  refine GC.cond rfl (fun hq1 => by cases hq1) (fun _ => ?_)
  refine GC.exit ?_
  refine GE.thenE ?_
  refine GE.thenE ?_
  refine GE.blockE ?_
  refine GE.thenN ?_
  refine GC.seq ?_
  refine GC.region ?_
  refine GL.val (Ex.move rfl) (by decide) ?_
  refine GL.val (Ex.move rfl) (by decide) ?_
  refine GL.val (v := (.pointer (some ⟨kb, 0, none⟩))) (Ex.nilCheck rfl) (by decide) ?_
  refine GL.val (v := (.pointer (some ⟨kb, 3, none⟩))) (Ex.cast (Ex.fieldAddr rfl Try.underlying31 rfl T.sz27 (by decide)) rfl) (by decide) ?_
  refine GL.val (Ex.load rfl T.ag27 (i := 0) rfl rfl) (by decide) ?_
  refine GL.val (Ex.move rfl) (by decide) ?_
  refine GL.step (Stp.buildSlice (cs := [(.slice none 0 0)]) (vs := [(0, (.slice none 0 0))]) Try.underlying27 T.zr28 T.sz28 rfl (by decide) (by decide) (by first | rfl | kernel_rfl) (by decide)) (fun bq2 _ => ?_)
  refine GL.step (Stp.appendOwn (i := 2) (xs := xs1) (sp := sp1) (vs := [(.slice none 0 0)]) (L1 := (⟨bq2, [(.slice none 0 0)], 28, true⟩ :: ⟨kb, [(.slice none 0 0), (.slice none 0 0), (.slice none 0 0), (.slice (some ⟨b1, 0, none⟩) n1 c1), (.slice none 0 0), (.slice none 0 0), (.slice none 0 0), (.slice (some ⟨b2, 0, none⟩) n1 c2)], 31, true⟩ :: ⟨b2, xs2 ++ sp2, 3, true⟩ :: R)) rfl rfl Try.underlying27 T.sz28 T.zr28 rfl T.by28 rfl (by omega) hc1 (fun wz hz => hz.rdOf (i := 0) rfl 0) rfl rfl (by omega) (by omega) rfl (by decide)) (fun xq3 hq4 => ?_)
  refine GL.val (v := (.pointer (some ⟨kb, 0, none⟩))) (Ex.nilCheck rfl) (by decide) ?_
  refine GL.val (v := (.pointer (some ⟨kb, 3, none⟩))) (Ex.cast (Ex.fieldAddr rfl Try.underlying31 rfl T.sz27 (by decide)) rfl) (by decide) ?_
  refine GL.step (Stp.st2 (cs' := [(.slice none 0 0), (.slice none 0 0), (.slice none 0 0), (.slice (some ⟨xq3.1, 0, none⟩) (n1 + 1) xq3.2.1), (.slice none 0 0), (.slice none 0 0), (.slice none 0 0), (.slice (some ⟨b2, 0, none⟩) n1 c2)]) rfl rfl rfl T.sz27 rfl rfl rfl) (fun _ _ => ?_)
  refine GL.nil ?_
  refine GE.thenN ?_
  refine GC.draw (⟨xq3.1, xs1 ++ [(.slice none 0 0)] ++ xq3.2.2, 28, true⟩ :: ⟨bq2, [(.slice none 0 0)], 28, true⟩ :: R) T.mixed (fuel := 13) rfl rfl ?_
  refine GH.take 0 (v := (.pointer (some ⟨kb, 0, none⟩))) rfl (by kernel_rfl) (by kernel_rfl) (by kernel_rfl) (fun _ _ _ h => h) (Ex.move rfl) (ulC (ulC (ulS (ulS ulR)))) (by decide) ?_
  refine GH.take 1 (v := (.pointer (some ⟨kb, 0, none⟩))) rfl (by kernel_rfl) (by kernel_rfl) (by kernel_rfl) (fun _ _ _ h => h) (Ex.move rfl) (ulC (ulC (ulS (ulS ulR)))) (by decide) ?_
  refine GH.take 6 (v := (.int .i64 m)) rfl (by kernel_rfl) (by kernel_rfl) (by kernel_rfl) (fun _ _ _ h => h) (Ex.move rfl) (ulC (ulC (ulS (ulS ulR)))) (by decide) ?_
  refine GH.many (rs := [2, 7, 9]) (by kernel_rfl) (by simp) ?_
  refine GHs.cons rfl (Ex.wp (v := (.pointer (some ⟨kb, 0, none⟩))) (Ex.nilCheck rfl) (by decide)) (fun _ => (ulC (ulC (ulS (ulS ulR))))) (fun _ _ => ?_) ?_
  · refine GH.take 3 (v := (.pointer (some ⟨kb, 4, none⟩))) rfl (by kernel_rfl) (by kernel_rfl) (by kernel_rfl) (fun _ _ _ h => h) (Ex.cast (Ex.fieldAddr rfl Try.underlying31 rfl T.sz29 (by decide)) rfl) (ulC (ulC (ulS (ulS ulR)))) (by decide) ?_
    refine GH.take 4 (v := (.pointer (some ⟨kb, 7, none⟩))) rfl (by kernel_rfl) (by kernel_rfl) (by kernel_rfl) (fun _ _ _ h => h) (Ex.cast (Ex.indexArr (m := 4) rfl rfl Try.underlying29 T.sz28 (by decide) (by decide)) rfl) (ulC (ulC (ulS (ulS ulR)))) (by decide) ?_
    refine GH.many (rs := [5, 7, 9]) (by kernel_rfl) (by simp) ?_
    refine GHs.cons rfl (Ex.wp (v := (.slice (some ⟨b2, 0, none⟩) n1 c2)) (Ex.load rfl T.ag28 (i := 2) rfl rfl) (by decide)) (fun _ => (ulC (ulC (ulS (ulS ulR))))) (fun _ _ => ?_) ?_
    · refine GH.many (rs := [7, 9]) (by kernel_rfl) (by simp) ?_
      refine GHs.cons rfl (Stp.buildSlice (cs := [(.int .i64 m)]) (vs := [(0, (.int .i64 m))]) Try.underlying28 T.zr3 T.sz3 rfl (by decide) (by decide) (by first | rfl | kernel_rfl) (by decide)) (fun _ => (ulS (ulC (ulC (ulS (ulS ulR)))))) (fun bq5 _ => ?_) ?_
      · refine GH.many (rs := [8, 9]) (by kernel_rfl) (by simp) ?_
        refine GHs.cons rfl (Stp.appendOwn (i := 4) (xs := xs2) (sp := sp2) (vs := [(.int .i64 m)]) (L1 := (⟨bq5, [(.int .i64 m)], 3, true⟩ :: ⟨xq3.1, xs1 ++ [(.slice none 0 0)] ++ xq3.2.2, 28, true⟩ :: ⟨bq2, [(.slice none 0 0)], 28, true⟩ :: ⟨kb, [(.slice none 0 0), (.slice none 0 0), (.slice none 0 0), (.slice (some ⟨xq3.1, 0, none⟩) (n1 + 1) xq3.2.1), (.slice none 0 0), (.slice none 0 0), (.slice none 0 0), (.slice (some ⟨b2, 0, none⟩) n1 c2)], 31, true⟩ :: R)) rfl rfl Try.underlying28 T.sz3 T.zr3 rfl T.by3 rfl (by omega) hc2 (fun wz hz => hz.rdOf (i := 0) rfl 0) rfl rfl (by omega) (by omega) rfl (by decide)) (fun _ => (ulS (ulS (ulC (ulC (ulS ulR)))))) (fun xq6 hq7 => ?_) ?_
        · refine GH.one 9 rfl (by kernel_rfl) (Ex.wp (v := (.pointer (some ⟨kb, 0, none⟩))) (Ex.nilCheck rfl) (by decide)) (fun _ => (ulS (ulS (ulC (ulC (ulS ulR)))))) (fun _ _ => ?_)
          refine GH.take 10 (v := (.pointer (some ⟨kb, 4, none⟩))) rfl (by kernel_rfl) (by kernel_rfl) (by kernel_rfl) (fun _ _ _ h => h) (Ex.cast (Ex.fieldAddr rfl Try.underlying31 rfl T.sz29 (by decide)) rfl) (ulS (ulS (ulC (ulC (ulS ulR))))) (by decide) ?_
          refine GH.take 11 (v := (.pointer (some ⟨kb, 7, none⟩))) rfl (by kernel_rfl) (by kernel_rfl) (by kernel_rfl) (fun _ _ _ h => h) (Ex.cast (Ex.indexArr (m := 4) rfl rfl Try.underlying29 T.sz28 (by decide) (by decide)) rfl) (ulS (ulS (ulC (ulC (ulS ulR))))) (by decide) ?_
          refine GH.one 12 rfl (by kernel_rfl) (Stp.st4 (cs' := [(.slice none 0 0), (.slice none 0 0), (.slice none 0 0), (.slice (some ⟨xq3.1, 0, none⟩) (n1 + 1) xq3.2.1), (.slice none 0 0), (.slice none 0 0), (.slice none 0 0), (.slice (some ⟨xq6.1, 0, none⟩) (n1 + 1) xq6.2.1)]) rfl rfl rfl T.sz28 rfl rfl rfl) (fun _ => (ulS (ulS (ulC (ulC (ulS ulR)))))) (fun _ _ => ?_)
          refine GH.done (by kernel_rfl) ?_
          refine GC.end0 rfl (fun wN HN => ?_)
          exact HN.frm (xq6, xq3) ⟨hq4.1, hq7.1⟩ (by rfl) (ulC (ulS (ulC (ulS (ulC ulR)))))
        refine GHs.cons rfl (Ex.wp (v := (.pointer (some ⟨kb, 0, none⟩))) (Ex.nilCheck rfl) (by decide)) (fun _ => (ulS (ulC (ulC (ulS (ulS ulR)))))) (fun _ _ => ?_) ?_
        · refine GH.take 10 (v := (.pointer (some ⟨kb, 4, none⟩))) rfl (by kernel_rfl) (by kernel_rfl) (by kernel_rfl) (fun _ _ _ h => h) (Ex.cast (Ex.fieldAddr rfl Try.underlying31 rfl T.sz29 (by decide)) rfl) (ulS (ulC (ulC (ulS (ulS ulR))))) (by decide) ?_
          refine GH.one 8 rfl (by kernel_rfl) (Stp.appendOwn (i := 4) (xs := xs2) (sp := sp2) (vs := [(.int .i64 m)]) (L1 := (⟨bq5, [(.int .i64 m)], 3, true⟩ :: ⟨xq3.1, xs1 ++ [(.slice none 0 0)] ++ xq3.2.2, 28, true⟩ :: ⟨bq2, [(.slice none 0 0)], 28, true⟩ :: ⟨kb, [(.slice none 0 0), (.slice none 0 0), (.slice none 0 0), (.slice (some ⟨xq3.1, 0, none⟩) (n1 + 1) xq3.2.1), (.slice none 0 0), (.slice none 0 0), (.slice none 0 0), (.slice (some ⟨b2, 0, none⟩) n1 c2)], 31, true⟩ :: R)) rfl rfl Try.underlying28 T.sz3 T.zr3 rfl T.by3 rfl (by omega) hc2 (fun wz hz => hz.rdOf (i := 0) rfl 0) rfl rfl (by omega) (by omega) rfl (by decide)) (fun _ => (ulS (ulS (ulC (ulC (ulS ulR)))))) (fun xq8 hq9 => ?_)
          refine GH.take 11 (v := (.pointer (some ⟨kb, 7, none⟩))) rfl (by kernel_rfl) (by kernel_rfl) (by kernel_rfl) (fun _ _ _ h => h) (Ex.cast (Ex.indexArr (m := 4) rfl rfl Try.underlying29 T.sz28 (by decide) (by decide)) rfl) (ulS (ulS (ulC (ulC (ulS ulR))))) (by decide) ?_
          refine GH.one 12 rfl (by kernel_rfl) (Stp.st4 (cs' := [(.slice none 0 0), (.slice none 0 0), (.slice none 0 0), (.slice (some ⟨xq3.1, 0, none⟩) (n1 + 1) xq3.2.1), (.slice none 0 0), (.slice none 0 0), (.slice none 0 0), (.slice (some ⟨xq8.1, 0, none⟩) (n1 + 1) xq8.2.1)]) rfl rfl rfl T.sz28 rfl rfl rfl) (fun _ => (ulS (ulS (ulC (ulC (ulS ulR)))))) (fun _ _ => ?_)
          refine GH.done (by kernel_rfl) ?_
          refine GC.end0 rfl (fun wN HN => ?_)
          exact HN.frm (xq8, xq3) ⟨hq4.1, hq9.1⟩ (by rfl) (ulC (ulS (ulC (ulS (ulC ulR)))))
        exact GHs.nil
      refine GHs.cons rfl (Ex.wp (v := (.pointer (some ⟨kb, 0, none⟩))) (Ex.nilCheck rfl) (by decide)) (fun _ => (ulC (ulC (ulS (ulS ulR))))) (fun _ _ => ?_) ?_
      · refine GH.take 10 (v := (.pointer (some ⟨kb, 4, none⟩))) rfl (by kernel_rfl) (by kernel_rfl) (by kernel_rfl) (fun _ _ _ h => h) (Ex.cast (Ex.fieldAddr rfl Try.underlying31 rfl T.sz29 (by decide)) rfl) (ulC (ulC (ulS (ulS ulR)))) (by decide) ?_
        refine GH.one 7 rfl (by kernel_rfl) (Stp.buildSlice (cs := [(.int .i64 m)]) (vs := [(0, (.int .i64 m))]) Try.underlying28 T.zr3 T.sz3 rfl (by decide) (by decide) (by first | rfl | kernel_rfl) (by decide)) (fun _ => (ulS (ulC (ulC (ulS (ulS ulR)))))) (fun bq10 _ => ?_)
        refine GH.one 8 rfl (by kernel_rfl) (Stp.appendOwn (i := 4) (xs := xs2) (sp := sp2) (vs := [(.int .i64 m)]) (L1 := (⟨bq10, [(.int .i64 m)], 3, true⟩ :: ⟨xq3.1, xs1 ++ [(.slice none 0 0)] ++ xq3.2.2, 28, true⟩ :: ⟨bq2, [(.slice none 0 0)], 28, true⟩ :: ⟨kb, [(.slice none 0 0), (.slice none 0 0), (.slice none 0 0), (.slice (some ⟨xq3.1, 0, none⟩) (n1 + 1) xq3.2.1), (.slice none 0 0), (.slice none 0 0), (.slice none 0 0), (.slice (some ⟨b2, 0, none⟩) n1 c2)], 31, true⟩ :: R)) rfl rfl Try.underlying28 T.sz3 T.zr3 rfl T.by3 rfl (by omega) hc2 (fun wz hz => hz.rdOf (i := 0) rfl 0) rfl rfl (by omega) (by omega) rfl (by decide)) (fun _ => (ulS (ulS (ulC (ulC (ulS ulR)))))) (fun xq11 hq12 => ?_)
        refine GH.take 11 (v := (.pointer (some ⟨kb, 7, none⟩))) rfl (by kernel_rfl) (by kernel_rfl) (by kernel_rfl) (fun _ _ _ h => h) (Ex.cast (Ex.indexArr (m := 4) rfl rfl Try.underlying29 T.sz28 (by decide) (by decide)) rfl) (ulS (ulS (ulC (ulC (ulS ulR))))) (by decide) ?_
        refine GH.one 12 rfl (by kernel_rfl) (Stp.st4 (cs' := [(.slice none 0 0), (.slice none 0 0), (.slice none 0 0), (.slice (some ⟨xq3.1, 0, none⟩) (n1 + 1) xq3.2.1), (.slice none 0 0), (.slice none 0 0), (.slice none 0 0), (.slice (some ⟨xq11.1, 0, none⟩) (n1 + 1) xq11.2.1)]) rfl rfl rfl T.sz28 rfl rfl rfl) (fun _ => (ulS (ulS (ulC (ulC (ulS ulR)))))) (fun _ _ => ?_)
        refine GH.done (by kernel_rfl) ?_
        refine GC.end0 rfl (fun wN HN => ?_)
        exact HN.frm (xq11, xq3) ⟨hq4.1, hq12.1⟩ (by rfl) (ulC (ulS (ulC (ulS (ulC ulR)))))
      exact GHs.nil
    refine GHs.cons rfl (Stp.buildSlice (cs := [(.int .i64 m)]) (vs := [(0, (.int .i64 m))]) Try.underlying28 T.zr3 T.sz3 rfl (by decide) (by decide) (by first | rfl | kernel_rfl) (by decide)) (fun _ => (ulS (ulC (ulC (ulS (ulS ulR)))))) (fun bq13 _ => ?_) ?_
    · refine GH.many (rs := [5, 9]) (by kernel_rfl) (by simp) ?_
      refine GHs.cons rfl (Ex.wp (v := (.slice (some ⟨b2, 0, none⟩) n1 c2)) (Ex.load rfl T.ag28 (i := 3) rfl rfl) (by decide)) (fun _ => (ulS (ulC (ulC (ulS (ulS ulR)))))) (fun _ _ => ?_) ?_
      · refine GH.many (rs := [8, 9]) (by kernel_rfl) (by simp) ?_
        refine GHs.cons rfl (Stp.appendOwn (i := 4) (xs := xs2) (sp := sp2) (vs := [(.int .i64 m)]) (L1 := (⟨bq13, [(.int .i64 m)], 3, true⟩ :: ⟨xq3.1, xs1 ++ [(.slice none 0 0)] ++ xq3.2.2, 28, true⟩ :: ⟨bq2, [(.slice none 0 0)], 28, true⟩ :: ⟨kb, [(.slice none 0 0), (.slice none 0 0), (.slice none 0 0), (.slice (some ⟨xq3.1, 0, none⟩) (n1 + 1) xq3.2.1), (.slice none 0 0), (.slice none 0 0), (.slice none 0 0), (.slice (some ⟨b2, 0, none⟩) n1 c2)], 31, true⟩ :: R)) rfl rfl Try.underlying28 T.sz3 T.zr3 rfl T.by3 rfl (by omega) hc2 (fun wz hz => hz.rdOf (i := 0) rfl 0) rfl rfl (by omega) (by omega) rfl (by decide)) (fun _ => (ulS (ulS (ulC (ulC (ulS ulR)))))) (fun xq14 hq15 => ?_) ?_
        · refine GH.one 9 rfl (by kernel_rfl) (Ex.wp (v := (.pointer (some ⟨kb, 0, none⟩))) (Ex.nilCheck rfl) (by decide)) (fun _ => (ulS (ulS (ulC (ulC (ulS ulR)))))) (fun _ _ => ?_)
          refine GH.take 10 (v := (.pointer (some ⟨kb, 4, none⟩))) rfl (by kernel_rfl) (by kernel_rfl) (by kernel_rfl) (fun _ _ _ h => h) (Ex.cast (Ex.fieldAddr rfl Try.underlying31 rfl T.sz29 (by decide)) rfl) (ulS (ulS (ulC (ulC (ulS ulR))))) (by decide) ?_
          refine GH.take 11 (v := (.pointer (some ⟨kb, 7, none⟩))) rfl (by kernel_rfl) (by kernel_rfl) (by kernel_rfl) (fun _ _ _ h => h) (Ex.cast (Ex.indexArr (m := 4) rfl rfl Try.underlying29 T.sz28 (by decide) (by decide)) rfl) (ulS (ulS (ulC (ulC (ulS ulR))))) (by decide) ?_
          refine GH.one 12 rfl (by kernel_rfl) (Stp.st4 (cs' := [(.slice none 0 0), (.slice none 0 0), (.slice none 0 0), (.slice (some ⟨xq3.1, 0, none⟩) (n1 + 1) xq3.2.1), (.slice none 0 0), (.slice none 0 0), (.slice none 0 0), (.slice (some ⟨xq14.1, 0, none⟩) (n1 + 1) xq14.2.1)]) rfl rfl rfl T.sz28 rfl rfl rfl) (fun _ => (ulS (ulS (ulC (ulC (ulS ulR)))))) (fun _ _ => ?_)
          refine GH.done (by kernel_rfl) ?_
          refine GC.end0 rfl (fun wN HN => ?_)
          exact HN.frm (xq14, xq3) ⟨hq4.1, hq15.1⟩ (by rfl) (ulC (ulS (ulC (ulS (ulC ulR)))))
        refine GHs.cons rfl (Ex.wp (v := (.pointer (some ⟨kb, 0, none⟩))) (Ex.nilCheck rfl) (by decide)) (fun _ => (ulS (ulC (ulC (ulS (ulS ulR)))))) (fun _ _ => ?_) ?_
        · refine GH.take 10 (v := (.pointer (some ⟨kb, 4, none⟩))) rfl (by kernel_rfl) (by kernel_rfl) (by kernel_rfl) (fun _ _ _ h => h) (Ex.cast (Ex.fieldAddr rfl Try.underlying31 rfl T.sz29 (by decide)) rfl) (ulS (ulC (ulC (ulS (ulS ulR))))) (by decide) ?_
          refine GH.one 8 rfl (by kernel_rfl) (Stp.appendOwn (i := 4) (xs := xs2) (sp := sp2) (vs := [(.int .i64 m)]) (L1 := (⟨bq13, [(.int .i64 m)], 3, true⟩ :: ⟨xq3.1, xs1 ++ [(.slice none 0 0)] ++ xq3.2.2, 28, true⟩ :: ⟨bq2, [(.slice none 0 0)], 28, true⟩ :: ⟨kb, [(.slice none 0 0), (.slice none 0 0), (.slice none 0 0), (.slice (some ⟨xq3.1, 0, none⟩) (n1 + 1) xq3.2.1), (.slice none 0 0), (.slice none 0 0), (.slice none 0 0), (.slice (some ⟨b2, 0, none⟩) n1 c2)], 31, true⟩ :: R)) rfl rfl Try.underlying28 T.sz3 T.zr3 rfl T.by3 rfl (by omega) hc2 (fun wz hz => hz.rdOf (i := 0) rfl 0) rfl rfl (by omega) (by omega) rfl (by decide)) (fun _ => (ulS (ulS (ulC (ulC (ulS ulR)))))) (fun xq16 hq17 => ?_)
          refine GH.take 11 (v := (.pointer (some ⟨kb, 7, none⟩))) rfl (by kernel_rfl) (by kernel_rfl) (by kernel_rfl) (fun _ _ _ h => h) (Ex.cast (Ex.indexArr (m := 4) rfl rfl Try.underlying29 T.sz28 (by decide) (by decide)) rfl) (ulS (ulS (ulC (ulC (ulS ulR))))) (by decide) ?_
          refine GH.one 12 rfl (by kernel_rfl) (Stp.st4 (cs' := [(.slice none 0 0), (.slice none 0 0), (.slice none 0 0), (.slice (some ⟨xq3.1, 0, none⟩) (n1 + 1) xq3.2.1), (.slice none 0 0), (.slice none 0 0), (.slice none 0 0), (.slice (some ⟨xq16.1, 0, none⟩) (n1 + 1) xq16.2.1)]) rfl rfl rfl T.sz28 rfl rfl rfl) (fun _ => (ulS (ulS (ulC (ulC (ulS ulR)))))) (fun _ _ => ?_)
          refine GH.done (by kernel_rfl) ?_
          refine GC.end0 rfl (fun wN HN => ?_)
          exact HN.frm (xq16, xq3) ⟨hq4.1, hq17.1⟩ (by rfl) (ulC (ulS (ulC (ulS (ulC ulR)))))
        exact GHs.nil
      refine GHs.cons rfl (Ex.wp (v := (.pointer (some ⟨kb, 0, none⟩))) (Ex.nilCheck rfl) (by decide)) (fun _ => (ulS (ulC (ulC (ulS (ulS ulR)))))) (fun _ _ => ?_) ?_
      · refine GH.take 10 (v := (.pointer (some ⟨kb, 4, none⟩))) rfl (by kernel_rfl) (by kernel_rfl) (by kernel_rfl) (fun _ _ _ h => h) (Ex.cast (Ex.fieldAddr rfl Try.underlying31 rfl T.sz29 (by decide)) rfl) (ulS (ulC (ulC (ulS (ulS ulR))))) (by decide) ?_
        refine GH.one 5 rfl (by kernel_rfl) (Ex.wp (v := (.slice (some ⟨b2, 0, none⟩) n1 c2)) (Ex.load rfl T.ag28 (i := 3) rfl rfl) (by decide)) (fun _ => (ulS (ulC (ulC (ulS (ulS ulR)))))) (fun _ _ => ?_)
        refine GH.one 8 rfl (by kernel_rfl) (Stp.appendOwn (i := 4) (xs := xs2) (sp := sp2) (vs := [(.int .i64 m)]) (L1 := (⟨bq13, [(.int .i64 m)], 3, true⟩ :: ⟨xq3.1, xs1 ++ [(.slice none 0 0)] ++ xq3.2.2, 28, true⟩ :: ⟨bq2, [(.slice none 0 0)], 28, true⟩ :: ⟨kb, [(.slice none 0 0), (.slice none 0 0), (.slice none 0 0), (.slice (some ⟨xq3.1, 0, none⟩) (n1 + 1) xq3.2.1), (.slice none 0 0), (.slice none 0 0), (.slice none 0 0), (.slice (some ⟨b2, 0, none⟩) n1 c2)], 31, true⟩ :: R)) rfl rfl Try.underlying28 T.sz3 T.zr3 rfl T.by3 rfl (by omega) hc2 (fun wz hz => hz.rdOf (i := 0) rfl 0) rfl rfl (by omega) (by omega) rfl (by decide)) (fun _ => (ulS (ulS (ulC (ulC (ulS ulR)))))) (fun xq18 hq19 => ?_)
        refine GH.take 11 (v := (.pointer (some ⟨kb, 7, none⟩))) rfl (by kernel_rfl) (by kernel_rfl) (by kernel_rfl) (fun _ _ _ h => h) (Ex.cast (Ex.indexArr (m := 4) rfl rfl Try.underlying29 T.sz28 (by decide) (by decide)) rfl) (ulS (ulS (ulC (ulC (ulS ulR))))) (by decide) ?_
        refine GH.one 12 rfl (by kernel_rfl) (Stp.st4 (cs' := [(.slice none 0 0), (.slice none 0 0), (.slice none 0 0), (.slice (some ⟨xq3.1, 0, none⟩) (n1 + 1) xq3.2.1), (.slice none 0 0), (.slice none 0 0), (.slice none 0 0), (.slice (some ⟨xq18.1, 0, none⟩) (n1 + 1) xq18.2.1)]) rfl rfl rfl T.sz28 rfl rfl rfl) (fun _ => (ulS (ulS (ulC (ulC (ulS ulR)))))) (fun _ _ => ?_)
        refine GH.done (by kernel_rfl) ?_
        refine GC.end0 rfl (fun wN HN => ?_)
        exact HN.frm (xq18, xq3) ⟨hq4.1, hq19.1⟩ (by rfl) (ulC (ulS (ulC (ulS (ulC ulR)))))
      exact GHs.nil
    refine GHs.cons rfl (Ex.wp (v := (.pointer (some ⟨kb, 0, none⟩))) (Ex.nilCheck rfl) (by decide)) (fun _ => (ulC (ulC (ulS (ulS ulR))))) (fun _ _ => ?_) ?_
    · refine GH.take 10 (v := (.pointer (some ⟨kb, 4, none⟩))) rfl (by kernel_rfl) (by kernel_rfl) (by kernel_rfl) (fun _ _ _ h => h) (Ex.cast (Ex.fieldAddr rfl Try.underlying31 rfl T.sz29 (by decide)) rfl) (ulC (ulC (ulS (ulS ulR)))) (by decide) ?_
      refine GH.many (rs := [5, 7]) (by kernel_rfl) (by simp) ?_
      refine GHs.cons rfl (Ex.wp (v := (.slice (some ⟨b2, 0, none⟩) n1 c2)) (Ex.load rfl T.ag28 (i := 2) rfl rfl) (by decide)) (fun _ => (ulC (ulC (ulS (ulS ulR))))) (fun _ _ => ?_) ?_
      · refine GH.one 7 rfl (by kernel_rfl) (Stp.buildSlice (cs := [(.int .i64 m)]) (vs := [(0, (.int .i64 m))]) Try.underlying28 T.zr3 T.sz3 rfl (by decide) (by decide) (by first | rfl | kernel_rfl) (by decide)) (fun _ => (ulS (ulC (ulC (ulS (ulS ulR)))))) (fun bq20 _ => ?_)
        refine GH.one 8 rfl (by kernel_rfl) (Stp.appendOwn (i := 4) (xs := xs2) (sp := sp2) (vs := [(.int .i64 m)]) (L1 := (⟨bq20, [(.int .i64 m)], 3, true⟩ :: ⟨xq3.1, xs1 ++ [(.slice none 0 0)] ++ xq3.2.2, 28, true⟩ :: ⟨bq2, [(.slice none 0 0)], 28, true⟩ :: ⟨kb, [(.slice none 0 0), (.slice none 0 0), (.slice none 0 0), (.slice (some ⟨xq3.1, 0, none⟩) (n1 + 1) xq3.2.1), (.slice none 0 0), (.slice none 0 0), (.slice none 0 0), (.slice (some ⟨b2, 0, none⟩) n1 c2)], 31, true⟩ :: R)) rfl rfl Try.underlying28 T.sz3 T.zr3 rfl T.by3 rfl (by omega) hc2 (fun wz hz => hz.rdOf (i := 0) rfl 0) rfl rfl (by omega) (by omega) rfl (by decide)) (fun _ => (ulS (ulS (ulC (ulC (ulS ulR)))))) (fun xq21 hq22 => ?_)
        refine GH.take 11 (v := (.pointer (some ⟨kb, 7, none⟩))) rfl (by kernel_rfl) (by kernel_rfl) (by kernel_rfl) (fun _ _ _ h => h) (Ex.cast (Ex.indexArr (m := 4) rfl rfl Try.underlying29 T.sz28 (by decide) (by decide)) rfl) (ulS (ulS (ulC (ulC (ulS ulR))))) (by decide) ?_
        refine GH.one 12 rfl (by kernel_rfl) (Stp.st4 (cs' := [(.slice none 0 0), (.slice none 0 0), (.slice none 0 0), (.slice (some ⟨xq3.1, 0, none⟩) (n1 + 1) xq3.2.1), (.slice none 0 0), (.slice none 0 0), (.slice none 0 0), (.slice (some ⟨xq21.1, 0, none⟩) (n1 + 1) xq21.2.1)]) rfl rfl rfl T.sz28 rfl rfl rfl) (fun _ => (ulS (ulS (ulC (ulC (ulS ulR)))))) (fun _ _ => ?_)
        refine GH.done (by kernel_rfl) ?_
        refine GC.end0 rfl (fun wN HN => ?_)
        exact HN.frm (xq21, xq3) ⟨hq4.1, hq22.1⟩ (by rfl) (ulC (ulS (ulC (ulS (ulC ulR)))))
      refine GHs.cons rfl (Stp.buildSlice (cs := [(.int .i64 m)]) (vs := [(0, (.int .i64 m))]) Try.underlying28 T.zr3 T.sz3 rfl (by decide) (by decide) (by first | rfl | kernel_rfl) (by decide)) (fun _ => (ulS (ulC (ulC (ulS (ulS ulR)))))) (fun bq23 _ => ?_) ?_
      · refine GH.one 5 rfl (by kernel_rfl) (Ex.wp (v := (.slice (some ⟨b2, 0, none⟩) n1 c2)) (Ex.load rfl T.ag28 (i := 3) rfl rfl) (by decide)) (fun _ => (ulS (ulC (ulC (ulS (ulS ulR)))))) (fun _ _ => ?_)
        refine GH.one 8 rfl (by kernel_rfl) (Stp.appendOwn (i := 4) (xs := xs2) (sp := sp2) (vs := [(.int .i64 m)]) (L1 := (⟨bq23, [(.int .i64 m)], 3, true⟩ :: ⟨xq3.1, xs1 ++ [(.slice none 0 0)] ++ xq3.2.2, 28, true⟩ :: ⟨bq2, [(.slice none 0 0)], 28, true⟩ :: ⟨kb, [(.slice none 0 0), (.slice none 0 0), (.slice none 0 0), (.slice (some ⟨xq3.1, 0, none⟩) (n1 + 1) xq3.2.1), (.slice none 0 0), (.slice none 0 0), (.slice none 0 0), (.slice (some ⟨b2, 0, none⟩) n1 c2)], 31, true⟩ :: R)) rfl rfl Try.underlying28 T.sz3 T.zr3 rfl T.by3 rfl (by omega) hc2 (fun wz hz => hz.rdOf (i := 0) rfl 0) rfl rfl (by omega) (by omega) rfl (by decide)) (fun _ => (ulS (ulS (ulC (ulC (ulS ulR)))))) (fun xq24 hq25 => ?_)
        refine GH.take 11 (v := (.pointer (some ⟨kb, 7, none⟩))) rfl (by kernel_rfl) (by kernel_rfl) (by kernel_rfl) (fun _ _ _ h => h) (Ex.cast (Ex.indexArr (m := 4) rfl rfl Try.underlying29 T.sz28 (by decide) (by decide)) rfl) (ulS (ulS (ulC (ulC (ulS ulR))))) (by decide) ?_
        refine GH.one 12 rfl (by kernel_rfl) (Stp.st4 (cs' := [(.slice none 0 0), (.slice none 0 0), (.slice none 0 0), (.slice (some ⟨xq3.1, 0, none⟩) (n1 + 1) xq3.2.1), (.slice none 0 0), (.slice none 0 0), (.slice none 0 0), (.slice (some ⟨xq24.1, 0, none⟩) (n1 + 1) xq24.2.1)]) rfl rfl rfl T.sz28 rfl rfl rfl) (fun _ => (ulS (ulS (ulC (ulC (ulS ulR)))))) (fun _ _ => ?_)
        refine GH.done (by kernel_rfl) ?_
        refine GC.end0 rfl (fun wN HN => ?_)
        exact HN.frm (xq24, xq3) ⟨hq4.1, hq25.1⟩ (by rfl) (ulC (ulS (ulC (ulS (ulC ulR)))))
      exact GHs.nil
    exact GHs.nil
  refine GHs.cons rfl (Stp.buildSlice (cs := [(.int .i64 m)]) (vs := [(0, (.int .i64 m))]) Try.underlying28 T.zr3 T.sz3 rfl (by decide) (by decide) (by first | rfl | kernel_rfl) (by decide)) (fun _ => (ulS (ulC (ulC (ulS (ulS ulR)))))) (fun bq26 _ => ?_) ?_
  · refine GH.many (rs := [2, 9]) (by kernel_rfl) (by simp) ?_
    refine GHs.cons rfl (Ex.wp (v := (.pointer (some ⟨kb, 0, none⟩))) (Ex.nilCheck rfl) (by decide)) (fun _ => (ulS (ulC (ulC (ulS (ulS ulR)))))) (fun _ _ => ?_) ?_
    · refine GH.take 3 (v := (.pointer (some ⟨kb, 4, none⟩))) rfl (by kernel_rfl) (by kernel_rfl) (by kernel_rfl) (fun _ _ _ h => h) (Ex.cast (Ex.fieldAddr rfl Try.underlying31 rfl T.sz29 (by decide)) rfl) (ulS (ulC (ulC (ulS (ulS ulR))))) (by decide) ?_
      refine GH.take 4 (v := (.pointer (some ⟨kb, 7, none⟩))) rfl (by kernel_rfl) (by kernel_rfl) (by kernel_rfl) (fun _ _ _ h => h) (Ex.cast (Ex.indexArr (m := 4) rfl rfl Try.underlying29 T.sz28 (by decide) (by decide)) rfl) (ulS (ulC (ulC (ulS (ulS ulR))))) (by decide) ?_
      refine GH.many (rs := [5, 9]) (by kernel_rfl) (by simp) ?_
      refine GHs.cons rfl (Ex.wp (v := (.slice (some ⟨b2, 0, none⟩) n1 c2)) (Ex.load rfl T.ag28 (i := 3) rfl rfl) (by decide)) (fun _ => (ulS (ulC (ulC (ulS (ulS ulR)))))) (fun _ _ => ?_) ?_
      · refine GH.many (rs := [8, 9]) (by kernel_rfl) (by simp) ?_
        refine GHs.cons rfl (Stp.appendOwn (i := 4) (xs := xs2) (sp := sp2) (vs := [(.int .i64 m)]) (L1 := (⟨bq26, [(.int .i64 m)], 3, true⟩ :: ⟨xq3.1, xs1 ++ [(.slice none 0 0)] ++ xq3.2.2, 28, true⟩ :: ⟨bq2, [(.slice none 0 0)], 28, true⟩ :: ⟨kb, [(.slice none 0 0), (.slice none 0 0), (.slice none 0 0), (.slice (some ⟨xq3.1, 0, none⟩) (n1 + 1) xq3.2.1), (.slice none 0 0), (.slice none 0 0), (.slice none 0 0), (.slice (some ⟨b2, 0, none⟩) n1 c2)], 31, true⟩ :: R)) rfl rfl Try.underlying28 T.sz3 T.zr3 rfl T.by3 rfl (by omega) hc2 (fun wz hz => hz.rdOf (i := 0) rfl 0) rfl rfl (by omega) (by omega) rfl (by decide)) (fun _ => (ulS (ulS (ulC (ulC (ulS ulR)))))) (fun xq27 hq28 => ?_) ?_
        · refine GH.one 9 rfl (by kernel_rfl) (Ex.wp (v := (.pointer (some ⟨kb, 0, none⟩))) (Ex.nilCheck rfl) (by decide)) (fun _ => (ulS (ulS (ulC (ulC (ulS ulR)))))) (fun _ _ => ?_)
          refine GH.take 10 (v := (.pointer (some ⟨kb, 4, none⟩))) rfl (by kernel_rfl) (by kernel_rfl) (by kernel_rfl) (fun _ _ _ h => h) (Ex.cast (Ex.fieldAddr rfl Try.underlying31 rfl T.sz29 (by decide)) rfl) (ulS (ulS (ulC (ulC (ulS ulR))))) (by decide) ?_
          refine GH.take 11 (v := (.pointer (some ⟨kb, 7, none⟩))) rfl (by kernel_rfl) (by kernel_rfl) (by kernel_rfl) (fun _ _ _ h => h) (Ex.cast (Ex.indexArr (m := 4) rfl rfl Try.underlying29 T.sz28 (by decide) (by decide)) rfl) (ulS (ulS (ulC (ulC (ulS ulR))))) (by decide) ?_
          refine GH.one 12 rfl (by kernel_rfl) (Stp.st4 (cs' := [(.slice none 0 0), (.slice none 0 0), (.slice none 0 0), (.slice (some ⟨xq3.1, 0, none⟩) (n1 + 1) xq3.2.1), (.slice none 0 0), (.slice none 0 0), (.slice none 0 0), (.slice (some ⟨xq27.1, 0, none⟩) (n1 + 1) xq27.2.1)]) rfl rfl rfl T.sz28 rfl rfl rfl) (fun _ => (ulS (ulS (ulC (ulC (ulS ulR)))))) (fun _ _ => ?_)
          refine GH.done (by kernel_rfl) ?_
          refine GC.end0 rfl (fun wN HN => ?_)
          exact HN.frm (xq27, xq3) ⟨hq4.1, hq28.1⟩ (by rfl) (ulC (ulS (ulC (ulS (ulC ulR)))))
        refine GHs.cons rfl (Ex.wp (v := (.pointer (some ⟨kb, 0, none⟩))) (Ex.nilCheck rfl) (by decide)) (fun _ => (ulS (ulC (ulC (ulS (ulS ulR)))))) (fun _ _ => ?_) ?_
        · refine GH.take 10 (v := (.pointer (some ⟨kb, 4, none⟩))) rfl (by kernel_rfl) (by kernel_rfl) (by kernel_rfl) (fun _ _ _ h => h) (Ex.cast (Ex.fieldAddr rfl Try.underlying31 rfl T.sz29 (by decide)) rfl) (ulS (ulC (ulC (ulS (ulS ulR))))) (by decide) ?_
          refine GH.one 8 rfl (by kernel_rfl) (Stp.appendOwn (i := 4) (xs := xs2) (sp := sp2) (vs := [(.int .i64 m)]) (L1 := (⟨bq26, [(.int .i64 m)], 3, true⟩ :: ⟨xq3.1, xs1 ++ [(.slice none 0 0)] ++ xq3.2.2, 28, true⟩ :: ⟨bq2, [(.slice none 0 0)], 28, true⟩ :: ⟨kb, [(.slice none 0 0), (.slice none 0 0), (.slice none 0 0), (.slice (some ⟨xq3.1, 0, none⟩) (n1 + 1) xq3.2.1), (.slice none 0 0), (.slice none 0 0), (.slice none 0 0), (.slice (some ⟨b2, 0, none⟩) n1 c2)], 31, true⟩ :: R)) rfl rfl Try.underlying28 T.sz3 T.zr3 rfl T.by3 rfl (by omega) hc2 (fun wz hz => hz.rdOf (i := 0) rfl 0) rfl rfl (by omega) (by omega) rfl (by decide)) (fun _ => (ulS (ulS (ulC (ulC (ulS ulR)))))) (fun xq29 hq30 => ?_)
          refine GH.take 11 (v := (.pointer (some ⟨kb, 7, none⟩))) rfl (by kernel_rfl) (by kernel_rfl) (by kernel_rfl) (fun _ _ _ h => h) (Ex.cast (Ex.indexArr (m := 4) rfl rfl Try.underlying29 T.sz28 (by decide) (by decide)) rfl) (ulS (ulS (ulC (ulC (ulS ulR))))) (by decide) ?_
          refine GH.one 12 rfl (by kernel_rfl) (Stp.st4 (cs' := [(.slice none 0 0), (.slice none 0 0), (.slice none 0 0), (.slice (some ⟨xq3.1, 0, none⟩) (n1 + 1) xq3.2.1), (.slice none 0 0), (.slice none 0 0), (.slice none 0 0), (.slice (some ⟨xq29.1, 0, none⟩) (n1 + 1) xq29.2.1)]) rfl rfl rfl T.sz28 rfl rfl rfl) (fun _ => (ulS (ulS (ulC (ulC (ulS ulR)))))) (fun _ _ => ?_)
          refine GH.done (by kernel_rfl) ?_
          refine GC.end0 rfl (fun wN HN => ?_)
          exact HN.frm (xq29, xq3) ⟨hq4.1, hq30.1⟩ (by rfl) (ulC (ulS (ulC (ulS (ulC ulR)))))
        exact GHs.nil
      refine GHs.cons rfl (Ex.wp (v := (.pointer (some ⟨kb, 0, none⟩))) (Ex.nilCheck rfl) (by decide)) (fun _ => (ulS (ulC (ulC (ulS (ulS ulR)))))) (fun _ _ => ?_) ?_
      · refine GH.take 10 (v := (.pointer (some ⟨kb, 4, none⟩))) rfl (by kernel_rfl) (by kernel_rfl) (by kernel_rfl) (fun _ _ _ h => h) (Ex.cast (Ex.fieldAddr rfl Try.underlying31 rfl T.sz29 (by decide)) rfl) (ulS (ulC (ulC (ulS (ulS ulR))))) (by decide) ?_
        refine GH.one 5 rfl (by kernel_rfl) (Ex.wp (v := (.slice (some ⟨b2, 0, none⟩) n1 c2)) (Ex.load rfl T.ag28 (i := 3) rfl rfl) (by decide)) (fun _ => (ulS (ulC (ulC (ulS (ulS ulR)))))) (fun _ _ => ?_)
        refine GH.one 8 rfl (by kernel_rfl) (Stp.appendOwn (i := 4) (xs := xs2) (sp := sp2) (vs := [(.int .i64 m)]) (L1 := (⟨bq26, [(.int .i64 m)], 3, true⟩ :: ⟨xq3.1, xs1 ++ [(.slice none 0 0)] ++ xq3.2.2, 28, true⟩ :: ⟨bq2, [(.slice none 0 0)], 28, true⟩ :: ⟨kb, [(.slice none 0 0), (.slice none 0 0), (.slice none 0 0), (.slice (some ⟨xq3.1, 0, none⟩) (n1 + 1) xq3.2.1), (.slice none 0 0), (.slice none 0 0), (.slice none 0 0), (.slice (some ⟨b2, 0, none⟩) n1 c2)], 31, true⟩ :: R)) rfl rfl Try.underlying28 T.sz3 T.zr3 rfl T.by3 rfl (by omega) hc2 (fun wz hz => hz.rdOf (i := 0) rfl 0) rfl rfl (by omega) (by omega) rfl (by decide)) (fun _ => (ulS (ulS (ulC (ulC (ulS ulR)))))) (fun xq31 hq32 => ?_)
        refine GH.take 11 (v := (.pointer (some ⟨kb, 7, none⟩))) rfl (by kernel_rfl) (by kernel_rfl) (by kernel_rfl) (fun _ _ _ h => h) (Ex.cast (Ex.indexArr (m := 4) rfl rfl Try.underlying29 T.sz28 (by decide) (by decide)) rfl) (ulS (ulS (ulC (ulC (ulS ulR))))) (by decide) ?_
        refine GH.one 12 rfl (by kernel_rfl) (Stp.st4 (cs' := [(.slice none 0 0), (.slice none 0 0), (.slice none 0 0), (.slice (some ⟨xq3.1, 0, none⟩) (n1 + 1) xq3.2.1), (.slice none 0 0), (.slice none 0 0), (.slice none 0 0), (.slice (some ⟨xq31.1, 0, none⟩) (n1 + 1) xq31.2.1)]) rfl rfl rfl T.sz28 rfl rfl rfl) (fun _ => (ulS (ulS (ulC (ulC (ulS ulR)))))) (fun _ _ => ?_)
        refine GH.done (by kernel_rfl) ?_
        refine GC.end0 rfl (fun wN HN => ?_)
        exact HN.frm (xq31, xq3) ⟨hq4.1, hq32.1⟩ (by rfl) (ulC (ulS (ulC (ulS (ulC ulR)))))
      exact GHs.nil
    refine GHs.cons rfl (Ex.wp (v := (.pointer (some ⟨kb, 0, none⟩))) (Ex.nilCheck rfl) (by decide)) (fun _ => (ulS (ulC (ulC (ulS (ulS ulR)))))) (fun _ _ => ?_) ?_
    · refine GH.take 10 (v := (.pointer (some ⟨kb, 4, none⟩))) rfl (by kernel_rfl) (by kernel_rfl) (by kernel_rfl) (fun _ _ _ h => h) (Ex.cast (Ex.fieldAddr rfl Try.underlying31 rfl T.sz29 (by decide)) rfl) (ulS (ulC (ulC (ulS (ulS ulR))))) (by decide) ?_
      refine GH.one 2 rfl (by kernel_rfl) (Ex.wp (v := (.pointer (some ⟨kb, 0, none⟩))) (Ex.nilCheck rfl) (by decide)) (fun _ => (ulS (ulC (ulC (ulS (ulS ulR)))))) (fun _ _ => ?_)
      refine GH.take 3 (v := (.pointer (some ⟨kb, 4, none⟩))) rfl (by kernel_rfl) (by kernel_rfl) (by kernel_rfl) (fun _ _ _ h => h) (Ex.cast (Ex.fieldAddr rfl Try.underlying31 rfl T.sz29 (by decide)) rfl) (ulS (ulC (ulC (ulS (ulS ulR))))) (by decide) ?_
      refine GH.take 4 (v := (.pointer (some ⟨kb, 7, none⟩))) rfl (by kernel_rfl) (by kernel_rfl) (by kernel_rfl) (fun _ _ _ h => h) (Ex.cast (Ex.indexArr (m := 4) rfl rfl Try.underlying29 T.sz28 (by decide) (by decide)) rfl) (ulS (ulC (ulC (ulS (ulS ulR))))) (by decide) ?_
      refine GH.one 5 rfl (by kernel_rfl) (Ex.wp (v := (.slice (some ⟨b2, 0, none⟩) n1 c2)) (Ex.load rfl T.ag28 (i := 3) rfl rfl) (by decide)) (fun _ => (ulS (ulC (ulC (ulS (ulS ulR)))))) (fun _ _ => ?_)
      refine GH.one 8 rfl (by kernel_rfl) (Stp.appendOwn (i := 4) (xs := xs2) (sp := sp2) (vs := [(.int .i64 m)]) (L1 := (⟨bq26, [(.int .i64 m)], 3, true⟩ :: ⟨xq3.1, xs1 ++ [(.slice none 0 0)] ++ xq3.2.2, 28, true⟩ :: ⟨bq2, [(.slice none 0 0)], 28, true⟩ :: ⟨kb, [(.slice none 0 0), (.slice none 0 0), (.slice none 0 0), (.slice (some ⟨xq3.1, 0, none⟩) (n1 + 1) xq3.2.1), (.slice none 0 0), (.slice none 0 0), (.slice none 0 0), (.slice (some ⟨b2, 0, none⟩) n1 c2)], 31, true⟩ :: R)) rfl rfl Try.underlying28 T.sz3 T.zr3 rfl T.by3 rfl (by omega) hc2 (fun wz hz => hz.rdOf (i := 0) rfl 0) rfl rfl (by omega) (by omega) rfl (by decide)) (fun _ => (ulS (ulS (ulC (ulC (ulS ulR)))))) (fun xq33 hq34 => ?_)
      refine GH.take 11 (v := (.pointer (some ⟨kb, 7, none⟩))) rfl (by kernel_rfl) (by kernel_rfl) (by kernel_rfl) (fun _ _ _ h => h) (Ex.cast (Ex.indexArr (m := 4) rfl rfl Try.underlying29 T.sz28 (by decide) (by decide)) rfl) (ulS (ulS (ulC (ulC (ulS ulR))))) (by decide) ?_
      refine GH.one 12 rfl (by kernel_rfl) (Stp.st4 (cs' := [(.slice none 0 0), (.slice none 0 0), (.slice none 0 0), (.slice (some ⟨xq3.1, 0, none⟩) (n1 + 1) xq3.2.1), (.slice none 0 0), (.slice none 0 0), (.slice none 0 0), (.slice (some ⟨xq33.1, 0, none⟩) (n1 + 1) xq33.2.1)]) rfl rfl rfl T.sz28 rfl rfl rfl) (fun _ => (ulS (ulS (ulC (ulC (ulS ulR)))))) (fun _ _ => ?_)
      refine GH.done (by kernel_rfl) ?_
      refine GC.end0 rfl (fun wN HN => ?_)
      exact HN.frm (xq33, xq3) ⟨hq4.1, hq34.1⟩ (by rfl) (ulC (ulS (ulC (ulS (ulC ulR)))))
    exact GHs.nil
  refine GHs.cons rfl (Ex.wp (v := (.pointer (some ⟨kb, 0, none⟩))) (Ex.nilCheck rfl) (by decide)) (fun _ => (ulC (ulC (ulS (ulS ulR))))) (fun _ _ => ?_) ?_
  · refine GH.take 10 (v := (.pointer (some ⟨kb, 4, none⟩))) rfl (by kernel_rfl) (by kernel_rfl) (by kernel_rfl) (fun _ _ _ h => h) (Ex.cast (Ex.fieldAddr rfl Try.underlying31 rfl T.sz29 (by decide)) rfl) (ulC (ulC (ulS (ulS ulR)))) (by decide) ?_
    refine GH.many (rs := [2, 7]) (by kernel_rfl) (by simp) ?_
    refine GHs.cons rfl (Ex.wp (v := (.pointer (some ⟨kb, 0, none⟩))) (Ex.nilCheck rfl) (by decide)) (fun _ => (ulC (ulC (ulS (ulS ulR))))) (fun _ _ => ?_) ?_
    · refine GH.take 3 (v := (.pointer (some ⟨kb, 4, none⟩))) rfl (by kernel_rfl) (by kernel_rfl) (by kernel_rfl) (fun _ _ _ h => h) (Ex.cast (Ex.fieldAddr rfl Try.underlying31 rfl T.sz29 (by decide)) rfl) (ulC (ulC (ulS (ulS ulR)))) (by decide) ?_
      refine GH.take 4 (v := (.pointer (some ⟨kb, 7, none⟩))) rfl (by kernel_rfl) (by kernel_rfl) (by kernel_rfl) (fun _ _ _ h => h) (Ex.cast (Ex.indexArr (m := 4) rfl rfl Try.underlying29 T.sz28 (by decide) (by decide)) rfl) (ulC (ulC (ulS (ulS ulR)))) (by decide) ?_
      refine GH.many (rs := [5, 7]) (by kernel_rfl) (by simp) ?_
      refine GHs.cons rfl (Ex.wp (v := (.slice (some ⟨b2, 0, none⟩) n1 c2)) (Ex.load rfl T.ag28 (i := 2) rfl rfl) (by decide)) (fun _ => (ulC (ulC (ulS (ulS ulR))))) (fun _ _ => ?_) ?_
      · refine GH.one 7 rfl (by kernel_rfl) (Stp.buildSlice (cs := [(.int .i64 m)]) (vs := [(0, (.int .i64 m))]) Try.underlying28 T.zr3 T.sz3 rfl (by decide) (by decide) (by first | rfl | kernel_rfl) (by decide)) (fun _ => (ulS (ulC (ulC (ulS (ulS ulR)))))) (fun bq35 _ => ?_)
        refine GH.one 8 rfl (by kernel_rfl) (Stp.appendOwn (i := 4) (xs := xs2) (sp := sp2) (vs := [(.int .i64 m)]) (L1 := (⟨bq35, [(.int .i64 m)], 3, true⟩ :: ⟨xq3.1, xs1 ++ [(.slice none 0 0)] ++ xq3.2.2, 28, true⟩ :: ⟨bq2, [(.slice none 0 0)], 28, true⟩ :: ⟨kb, [(.slice none 0 0), (.slice none 0 0), (.slice none 0 0), (.slice (some ⟨xq3.1, 0, none⟩) (n1 + 1) xq3.2.1), (.slice none 0 0), (.slice none 0 0), (.slice none 0 0), (.slice (some ⟨b2, 0, none⟩) n1 c2)], 31, true⟩ :: R)) rfl rfl Try.underlying28 T.sz3 T.zr3 rfl T.by3 rfl (by omega) hc2 (fun wz hz => hz.rdOf (i := 0) rfl 0) rfl rfl (by omega) (by omega) rfl (by decide)) (fun _ => (ulS (ulS (ulC (ulC (ulS ulR)))))) (fun xq36 hq37 => ?_)
        refine GH.take 11 (v := (.pointer (some ⟨kb, 7, none⟩))) rfl (by kernel_rfl) (by kernel_rfl) (by kernel_rfl) (fun _ _ _ h => h) (Ex.cast (Ex.indexArr (m := 4) rfl rfl Try.underlying29 T.sz28 (by decide) (by decide)) rfl) (ulS (ulS (ulC (ulC (ulS ulR))))) (by decide) ?_
        refine GH.one 12 rfl (by kernel_rfl) (Stp.st4 (cs' := [(.slice none 0 0), (.slice none 0 0), (.slice none 0 0), (.slice (some ⟨xq3.1, 0, none⟩) (n1 + 1) xq3.2.1), (.slice none 0 0), (.slice none 0 0), (.slice none 0 0), (.slice (some ⟨xq36.1, 0, none⟩) (n1 + 1) xq36.2.1)]) rfl rfl rfl T.sz28 rfl rfl rfl) (fun _ => (ulS (ulS (ulC (ulC (ulS ulR)))))) (fun _ _ => ?_)
        refine GH.done (by kernel_rfl) ?_
        refine GC.end0 rfl (fun wN HN => ?_)
        exact HN.frm (xq36, xq3) ⟨hq4.1, hq37.1⟩ (by rfl) (ulC (ulS (ulC (ulS (ulC ulR)))))
      refine GHs.cons rfl (Stp.buildSlice (cs := [(.int .i64 m)]) (vs := [(0, (.int .i64 m))]) Try.underlying28 T.zr3 T.sz3 rfl (by decide) (by decide) (by first | rfl | kernel_rfl) (by decide)) (fun _ => (ulS (ulC (ulC (ulS (ulS ulR)))))) (fun bq38 _ => ?_) ?_
      · refine GH.one 5 rfl (by kernel_rfl) (Ex.wp (v := (.slice (some ⟨b2, 0, none⟩) n1 c2)) (Ex.load rfl T.ag28 (i := 3) rfl rfl) (by decide)) (fun _ => (ulS (ulC (ulC (ulS (ulS ulR)))))) (fun _ _ => ?_)
        refine GH.one 8 rfl (by kernel_rfl) (Stp.appendOwn (i := 4) (xs := xs2) (sp := sp2) (vs := [(.int .i64 m)]) (L1 := (⟨bq38, [(.int .i64 m)], 3, true⟩ :: ⟨xq3.1, xs1 ++ [(.slice none 0 0)] ++ xq3.2.2, 28, true⟩ :: ⟨bq2, [(.slice none 0 0)], 28, true⟩ :: ⟨kb, [(.slice none 0 0), (.slice none 0 0), (.slice none 0 0), (.slice (some ⟨xq3.1, 0, none⟩) (n1 + 1) xq3.2.1), (.slice none 0 0), (.slice none 0 0), (.slice none 0 0), (.slice (some ⟨b2, 0, none⟩) n1 c2)], 31, true⟩ :: R)) rfl rfl Try.underlying28 T.sz3 T.zr3 rfl T.by3 rfl (by omega) hc2 (fun wz hz => hz.rdOf (i := 0) rfl 0) rfl rfl (by omega) (by omega) rfl (by decide)) (fun _ => (ulS (ulS (ulC (ulC (ulS ulR)))))) (fun xq39 hq40 => ?_)
        refine GH.take 11 (v := (.pointer (some ⟨kb, 7, none⟩))) rfl (by kernel_rfl) (by kernel_rfl) (by kernel_rfl) (fun _ _ _ h => h) (Ex.cast (Ex.indexArr (m := 4) rfl rfl Try.underlying29 T.sz28 (by decide) (by decide)) rfl) (ulS (ulS (ulC (ulC (ulS ulR))))) (by decide) ?_
        refine GH.one 12 rfl (by kernel_rfl) (Stp.st4 (cs' := [(.slice none 0 0), (.slice none 0 0), (.slice none 0 0), (.slice (some ⟨xq3.1, 0, none⟩) (n1 + 1) xq3.2.1), (.slice none 0 0), (.slice none 0 0), (.slice none 0 0), (.slice (some ⟨xq39.1, 0, none⟩) (n1 + 1) xq39.2.1)]) rfl rfl rfl T.sz28 rfl rfl rfl) (fun _ => (ulS (ulS (ulC (ulC (ulS ulR)))))) (fun _ _ => ?_)
        refine GH.done (by kernel_rfl) ?_
        refine GC.end0 rfl (fun wN HN => ?_)
        exact HN.frm (xq39, xq3) ⟨hq4.1, hq40.1⟩ (by rfl) (ulC (ulS (ulC (ulS (ulC ulR)))))
      exact GHs.nil
    refine GHs.cons rfl (Stp.buildSlice (cs := [(.int .i64 m)]) (vs := [(0, (.int .i64 m))]) Try.underlying28 T.zr3 T.sz3 rfl (by decide) (by decide) (by first | rfl | kernel_rfl) (by decide)) (fun _ => (ulS (ulC (ulC (ulS (ulS ulR)))))) (fun bq41 _ => ?_) ?_
    · refine GH.one 2 rfl (by kernel_rfl) (Ex.wp (v := (.pointer (some ⟨kb, 0, none⟩))) (Ex.nilCheck rfl) (by decide)) (fun _ => (ulS (ulC (ulC (ulS (ulS ulR)))))) (fun _ _ => ?_)
      refine GH.take 3 (v := (.pointer (some ⟨kb, 4, none⟩))) rfl (by kernel_rfl) (by kernel_rfl) (by kernel_rfl) (fun _ _ _ h => h) (Ex.cast (Ex.fieldAddr rfl Try.underlying31 rfl T.sz29 (by decide)) rfl) (ulS (ulC (ulC (ulS (ulS ulR))))) (by decide) ?_
      refine GH.take 4 (v := (.pointer (some ⟨kb, 7, none⟩))) rfl (by kernel_rfl) (by kernel_rfl) (by kernel_rfl) (fun _ _ _ h => h) (Ex.cast (Ex.indexArr (m := 4) rfl rfl Try.underlying29 T.sz28 (by decide) (by decide)) rfl) (ulS (ulC (ulC (ulS (ulS ulR))))) (by decide) ?_
      refine GH.one 5 rfl (by kernel_rfl) (Ex.wp (v := (.slice (some ⟨b2, 0, none⟩) n1 c2)) (Ex.load rfl T.ag28 (i := 3) rfl rfl) (by decide)) (fun _ => (ulS (ulC (ulC (ulS (ulS ulR)))))) (fun _ _ => ?_)
      refine GH.one 8 rfl (by kernel_rfl) (Stp.appendOwn (i := 4) (xs := xs2) (sp := sp2) (vs := [(.int .i64 m)]) (L1 := (⟨bq41, [(.int .i64 m)], 3, true⟩ :: ⟨xq3.1, xs1 ++ [(.slice none 0 0)] ++ xq3.2.2, 28, true⟩ :: ⟨bq2, [(.slice none 0 0)], 28, true⟩ :: ⟨kb, [(.slice none 0 0), (.slice none 0 0), (.slice none 0 0), (.slice (some ⟨xq3.1, 0, none⟩) (n1 + 1) xq3.2.1), (.slice none 0 0), (.slice none 0 0), (.slice none 0 0), (.slice (some ⟨b2, 0, none⟩) n1 c2)], 31, true⟩ :: R)) rfl rfl Try.underlying28 T.sz3 T.zr3 rfl T.by3 rfl (by omega) hc2 (fun wz hz => hz.rdOf (i := 0) rfl 0) rfl rfl (by omega) (by omega) rfl (by decide)) (fun _ => (ulS (ulS (ulC (ulC (ulS ulR)))))) (fun xq42 hq43 => ?_)
      refine GH.take 11 (v := (.pointer (some ⟨kb, 7, none⟩))) rfl (by kernel_rfl) (by kernel_rfl) (by kernel_rfl) (fun _ _ _ h => h) (Ex.cast (Ex.indexArr (m := 4) rfl rfl Try.underlying29 T.sz28 (by decide) (by decide)) rfl) (ulS (ulS (ulC (ulC (ulS ulR))))) (by decide) ?_
      refine GH.one 12 rfl (by kernel_rfl) (Stp.st4 (cs' := [(.slice none 0 0), (.slice none 0 0), (.slice none 0 0), (.slice (some ⟨xq3.1, 0, none⟩) (n1 + 1) xq3.2.1), (.slice none 0 0), (.slice none 0 0), (.slice none 0 0), (.slice (some ⟨xq42.1, 0, none⟩) (n1 + 1) xq42.2.1)]) rfl rfl rfl T.sz28 rfl rfl rfl) (fun _ => (ulS (ulS (ulC (ulC (ulS ulR)))))) (fun _ _ => ?_)
      refine GH.done (by kernel_rfl) ?_
      refine GC.end0 rfl (fun wN HN => ?_)
      exact HN.frm (xq42, xq3) ⟨hq4.1, hq43.1⟩ (by rfl) (ulC (ulS (ulC (ulS (ulC ulR)))))
    exact GHs.nil
  exact GHs.nil

set_option maxRecDepth 100000 in
set_option maxHeartbeats 1000000 in
theorem booki_s11 (w0 : World) (R : List Blk) (kb : Nat) (m : Int) (b n cap : Nat) (cs : List Value) (n1 b1 c1 b2 c2 : Nat) (xs1 sp1 xs2 sp2 : List Value) (w : World) (hcap : cs.length = cap) (hb : cap ≤ 9223372036854775806) (hn1 : n1 ≤ 1000) (hx1 : xs1.length = n1) (hx2 : xs2.length = n1) (hc1 : (xs1 ++ sp1).length = c1 * 1) (hc2 : (xs2 ++ sp2).length = c2 * 1) (hp0 : Hp None w0 (⟨kb, [(.slice none 0 0), (.slice none 0 0), (.slice none 0 0), (.slice (some ⟨b1, 0, none⟩) n1 c1), (.slice none 0 0), (.slice none 0 0), (.slice none 0 0), (.slice (some ⟨b2, 0, none⟩) n1 c2)], 31, true⟩ :: ⟨b1, xs1 ++ sp1, 28, true⟩ :: ⟨b2, xs2 ++ sp2, 3, true⟩ :: ⟨b, cs, 3, true⟩ :: R) w) :
    Calls Try.prog 17 #[(.pointer (some ⟨kb, 0, none⟩)), (.slice (some ⟨b, 0, none⟩) n cap), (.int .i64 m)] w (Frm (σ := (Nat × Nat × List Value) × (Nat × Nat × List Value)) None w0 (fun x => (xs1 ++ [(Value.slice (some ⟨b, 0, none⟩) cap cap)] ++ x.2.2.2 : List Value).length = x.2.2.1 * 1 ∧ (xs2 ++ [(Value.int .i64 m)] ++ x.1.2.2 : List Value).length = x.1.2.1 * 1) (fun x => .tuple #[]) (fun x => (⟨x.1.1, xs2 ++ [(Value.int .i64 m)] ++ x.1.2.2, 3, true⟩ :: ⟨x.2.1, xs1 ++ [(Value.slice (some ⟨b, 0, none⟩) cap cap)] ++ x.2.2.2, 28, true⟩ :: ⟨kb, [(.slice none 0 0), (.slice none 0 0), (.slice none 0 0), (.slice (some ⟨x.2.1, 0, none⟩) (n1 + 1) x.2.2.1), (.slice none 0 0), (.slice none 0 0), (.slice none 0 0), (.slice (some ⟨x.1.1, 0, none⟩) (n1 + 1) x.1.2.1)], 31, true⟩ :: ⟨b, mkvI m cap, 3, true⟩ :: R))) := by
  refine enterF (w0 := w0) (M := None) (L := (⟨kb, [(.slice none 0 0), (.slice none 0 0), (.slice none 0 0), (.slice (some ⟨b1, 0, none⟩) n1 c1), (.slice none 0 0), (.slice none 0 0), (.slice none 0 0), (.slice (some ⟨b2, 0, none⟩) n1 c2)], 31, true⟩ :: ⟨b1, xs1 ++ sp1, 28, true⟩ :: ⟨b2, xs2 ++ sp2, 3, true⟩ :: ⟨b, cs, 3, true⟩ :: R)) (n := 45) (l := [(0, (.pointer (some ⟨kb, 0, none⟩))), (1, (.slice (some ⟨b, 0, none⟩) n cap)), (2, (.int .i64 m))]) Try.func17 rfl rfl (Args.cons rfl (Args.cons rfl (Args.cons rfl (Args.nil _)))) hp0 ?_
  refine GC.seq ?_
  refine GC.region ?_
  refine GL.val (Ex.move rfl) (by decide) ?_
  refine GL.val (Ex.move rfl) (by decide) ?_
  refine GL.val (v := (.int .i64 ((cap : Int)))) (Ex.cap rfl Try.underlying28) (by decide) ?_
  refine GL.val (v := (.slice (some ⟨b, 0, none⟩) cap cap)) (Ex.sliceH (m := cap) rfl rfl Try.underlying28 T.sz3 rfl (Nat.le_refl _)) (by decide) ?_
  refine GL.val (Ex.assign rfl) (by decide) ?_
  refine GL.nil ?_
  refine GE.thenN ?_
  refine GC.seq ?_
  refine GC.seq ?_
  rw [show cs = mkCI m cs 0 from (mkCI_zero m cs).symm]
  refine GC.region ?_
  refine GL.val (Ex.assign rfl) (by decide) ?_
  refine GL.nil ?_
  refine GE.thenN ?_
  refine GC.block ?_
  refine GC.loop (σ := Nat) (fun k => k ≤ cap) (fun k => [(0, (.pointer (some ⟨kb, 0, none⟩))), (1, (.slice (some ⟨b, 0, none⟩) cap cap)), (2, (.int .i64 m)), (6, (.int .i64 (((k : Nat) : Int))))]) (fun k => (⟨kb, [(.slice none 0 0), (.slice none 0 0), (.slice none 0 0), (.slice (some ⟨b1, 0, none⟩) n1 c1), (.slice none 0 0), (.slice none 0 0), (.slice none 0 0), (.slice (some ⟨b2, 0, none⟩) n1 c2)], 31, true⟩ :: ⟨b1, xs1 ++ sp1, 28, true⟩ :: ⟨b2, xs2 ++ sp2, 3, true⟩ :: ⟨b, mkCI m cs k, 3, true⟩ :: R)) (fun k => cap - k) (0) (Nat.zero_le _) ((sub_cons rfl ((sub_cons rfl ((sub_cons rfl ((sub_cons rfl ((sub_nil _)))))))))) (ulC (ulC (ulC (ulC ulR)))) (fun k hp => ?_)
  refine GC.seq ?_
  refine GC.seq ?_
  refine GC.region ?_
  refine GL.val (Ex.move rfl) (by decide) ?_
  refine GL.val (Ex.move rfl) (by decide) ?_
  refine GL.val (v := (.int .i64 ((cap : Int)))) (Ex.len rfl Try.underlying28) (by decide) ?_
  refine GL.val (v := (.bool (decide ((((k : Nat) : Int)) < ((cap : Int)))))) (Ex.lss rfl rfl) (by decide) ?_
  refine GL.nil ?_
  refine GE.thenN ?_
  refine GC.cond rfl (fun hq1 => ?_) (fun hq1 => ?_)
  · replace hq1 := of_decide_eq_true hq1
    refine GC.skip ?_
    refine GE.thenN ?_
    refine GC.seq ?_
    refine GC.block ?_
    refine GC.region ?_
    refine GL.val (Ex.move rfl) (by decide) ?_
    refine GL.val (Ex.move rfl) (by decide) ?_
    refine GL.val (Ex.move rfl) (by decide) ?_
    refine GL.val (Ex.move rfl) (by decide) ?_
    refine GL.step (Stp.callR (vs := [(.int .i64 m), (.int .i64 (((k : Nat) : Int)))]) rfl rfl T.own39 (by decide) (fun wc hw => bkmark m (((k : Nat) : Int)) wc)) (fun xq2 hq3 => ?_)
    refine GL.val (v := (.pointer (some ⟨b, k, none⟩))) (Ex.cast (Ex.indexAddr rfl rfl Try.underlying28 T.sz3 (by omega) (by omega)) (by simp)) (by decide) ?_
    refine GL.step (Stp.storeL (i := 3) (cs := mkCI m cs k) (vs := [.int .i64 (mkI m ((k : Nat) : Int))]) (o := k) (L1 := (⟨kb, [(.slice none 0 0), (.slice none 0 0), (.slice none 0 0), (.slice (some ⟨b1, 0, none⟩) n1 c1), (.slice none 0 0), (.slice none 0 0), (.slice none 0 0), (.slice (some ⟨b2, 0, none⟩) n1 c2)], 31, true⟩ :: ⟨b1, xs1 ++ sp1, 28, true⟩ :: ⟨b2, xs2 ++ sp2, 3, true⟩ :: ⟨b, mkCI m cs (k + 1), 3, true⟩ :: R)) rfl rfl rfl T.sz3 rfl (Nat.ble_eq_true_of_le (by rw [mkCI_len _ _ _ (by omega)]; simp; omega)) rfl (by rw [mkCI_store (by omega)]; rfl)) (fun _ _ => ?_)
    refine GL.nil ?_
    refine GE.blockN ?_
    refine GE.thenN ?_
    refine GC.region ?_
    refine GL.val (Ex.move rfl) (by decide) ?_
    refine GL.val (v := (.int .i64 (((k + 1 : Nat) : Int)))) (Ex.add rfl rfl (Z := ((k + 1 : Nat) : Int)) (by rw [w64 (by omega)]; rfl)) (by decide) ?_
    refine GL.val (Ex.assign rfl) (by decide) ?_
    refine GL.nil ?_
    refine GE.thenN ?_
    exact Head.mk (k + 1) (by omega) (by omega) ((sub_cons rfl ((sub_cons rfl ((sub_cons rfl ((sub_cons rfl ((sub_nil _)))))))))) (ulC (ulC (ulC (ulC ulR))))
  · replace hq1 := of_decide_eq_false hq1
    refine GC.exit ?_
    refine GE.thenE ?_
    refine GE.thenE ?_
    refine GE.blockE ?_
    refine GE.thenN ?_
    refine GC.seq ?_
    rw [mkCI_full m cs k (by omega), show k = cap from by omega]
    refine GC.region ?_
    refine GL.val (Ex.move rfl) (by decide) ?_
    refine GL.val (Ex.move rfl) (by decide) ?_
    refine GL.val (v := (.pointer (some ⟨kb, 0, none⟩))) (Ex.nilCheck rfl) (by decide) ?_
    refine GL.val (v := (.pointer (some ⟨kb, 3, none⟩))) (Ex.cast (Ex.fieldAddr rfl Try.underlying31 rfl T.sz27 (by decide)) rfl) (by decide) ?_
    refine GL.val (Ex.load rfl T.ag27 (i := 0) rfl rfl) (by decide) ?_
    refine GL.val (Ex.move rfl) (by decide) ?_
    refine GL.step (Stp.buildSlice (cs := [(.slice (some ⟨b, 0, none⟩) cap cap)]) (vs := [(0, (.slice (some ⟨b, 0, none⟩) cap cap))]) Try.underlying27 T.zr28 T.sz28 rfl (by decide) (by decide) (by first | rfl | kernel_rfl) (by decide)) (fun bq4 _ => ?_)
    refine GL.step (Stp.appendOwn (i := 2) (xs := xs1) (sp := sp1) (vs := [(.slice (some ⟨b, 0, none⟩) cap cap)]) (L1 := (⟨bq4, [(.slice (some ⟨b, 0, none⟩) cap cap)], 28, true⟩ :: ⟨kb, [(.slice none 0 0), (.slice none 0 0), (.slice none 0 0), (.slice (some ⟨b1, 0, none⟩) n1 c1), (.slice none 0 0), (.slice none 0 0), (.slice none 0 0), (.slice (some ⟨b2, 0, none⟩) n1 c2)], 31, true⟩ :: ⟨b2, xs2 ++ sp2, 3, true⟩ :: ⟨b, mkvI m cap, 3, true⟩ :: R)) rfl rfl Try.underlying27 T.sz28 T.zr28 rfl T.by28 rfl (by omega) hc1 (fun wz hz => hz.rdOf (i := 0) rfl 0) rfl rfl (by omega) (by omega) rfl (by decide)) (fun xq5 hq6 => ?_)
    refine GL.val (v := (.pointer (some ⟨kb, 0, none⟩))) (Ex.nilCheck rfl) (by decide) ?_
    refine GL.val (v := (.pointer (some ⟨kb, 3, none⟩))) (Ex.cast (Ex.fieldAddr rfl Try.underlying31 rfl T.sz27 (by decide)) rfl) (by decide) ?_
    refine GL.step (Stp.st2 (cs' := [(.slice none 0 0), (.slice none 0 0), (.slice none 0 0), (.slice (some ⟨xq5.1, 0, none⟩) (n1 + 1) xq5.2.1), (.slice none 0 0), (.slice none 0 0), (.slice none 0 0), (.slice (some ⟨b2, 0, none⟩) n1 c2)]) rfl rfl rfl T.sz27 rfl rfl rfl) (fun _ _ => ?_)
    refine GL.nil ?_
    refine GE.thenN ?_
    refine GC.draw (⟨xq5.1, xs1 ++ [(.slice (some ⟨b, 0, none⟩) cap cap)] ++ xq5.2.2, 28, true⟩ :: ⟨bq4, [(.slice (some ⟨b, 0, none⟩) cap cap)], 28, true⟩ :: ⟨b, mkvI m cap, 3, true⟩ :: R) T.mixed (fuel := 13) rfl rfl ?_
    refine GH.take 0 (v := (.pointer (some ⟨kb, 0, none⟩))) rfl (by kernel_rfl) (by kernel_rfl) (by kernel_rfl) (fun _ _ _ h => h) (Ex.move rfl) (ulC (ulC (ulS (ulS (ulC ulR))))) (by decide) ?_
    refine GH.take 1 (v := (.pointer (some ⟨kb, 0, none⟩))) rfl (by kernel_rfl) (by kernel_rfl) (by kernel_rfl) (fun _ _ _ h => h) (Ex.move rfl) (ulC (ulC (ulS (ulS (ulC ulR))))) (by decide) ?_
    refine GH.take 6 (v := (.int .i64 m)) rfl (by kernel_rfl) (by kernel_rfl) (by kernel_rfl) (fun _ _ _ h => h) (Ex.move rfl) (ulC (ulC (ulS (ulS (ulC ulR))))) (by decide) ?_
    refine GH.many (rs := [2, 7, 9]) (by kernel_rfl) (by simp) ?_
    refine GHs.cons rfl (Ex.wp (v := (.pointer (some ⟨kb, 0, none⟩))) (Ex.nilCheck rfl) (by decide)) (fun _ => (ulC (ulC (ulS (ulS (ulC ulR)))))) (fun _ _ => ?_) ?_
    · refine GH.take 3 (v := (.pointer (some ⟨kb, 4, none⟩))) rfl (by kernel_rfl) (by kernel_rfl) (by kernel_rfl) (fun _ _ _ h => h) (Ex.cast (Ex.fieldAddr rfl Try.underlying31 rfl T.sz29 (by decide)) rfl) (ulC (ulC (ulS (ulS (ulC ulR))))) (by decide) ?_
      refine GH.take 4 (v := (.pointer (some ⟨kb, 7, none⟩))) rfl (by kernel_rfl) (by kernel_rfl) (by kernel_rfl) (fun _ _ _ h => h) (Ex.cast (Ex.indexArr (m := 4) rfl rfl Try.underlying29 T.sz28 (by decide) (by decide)) rfl) (ulC (ulC (ulS (ulS (ulC ulR))))) (by decide) ?_
      refine GH.many (rs := [5, 7, 9]) (by kernel_rfl) (by simp) ?_
      refine GHs.cons rfl (Ex.wp (v := (.slice (some ⟨b2, 0, none⟩) n1 c2)) (Ex.load rfl T.ag28 (i := 2) rfl rfl) (by decide)) (fun _ => (ulC (ulC (ulS (ulS (ulC ulR)))))) (fun _ _ => ?_) ?_
      · refine GH.many (rs := [7, 9]) (by kernel_rfl) (by simp) ?_
        refine GHs.cons rfl (Stp.buildSlice (cs := [(.int .i64 m)]) (vs := [(0, (.int .i64 m))]) Try.underlying28 T.zr3 T.sz3 rfl (by decide) (by decide) (by first | rfl | kernel_rfl) (by decide)) (fun _ => (ulS (ulC (ulC (ulS (ulS (ulC ulR))))))) (fun bq7 _ => ?_) ?_
        · refine GH.many (rs := [8, 9]) (by kernel_rfl) (by simp) ?_
          refine GHs.cons rfl (Stp.appendOwn (i := 4) (xs := xs2) (sp := sp2) (vs := [(.int .i64 m)]) (L1 := (⟨bq7, [(.int .i64 m)], 3, true⟩ :: ⟨xq5.1, xs1 ++ [(.slice (some ⟨b, 0, none⟩) cap cap)] ++ xq5.2.2, 28, true⟩ :: ⟨bq4, [(.slice (some ⟨b, 0, none⟩) cap cap)], 28, true⟩ :: ⟨kb, [(.slice none 0 0), (.slice none 0 0), (.slice none 0 0), (.slice (some ⟨xq5.1, 0, none⟩) (n1 + 1) xq5.2.1), (.slice none 0 0), (.slice none 0 0), (.slice none 0 0), (.slice (some ⟨b2, 0, none⟩) n1 c2)], 31, true⟩ :: ⟨b, mkvI m cap, 3, true⟩ :: R)) rfl rfl Try.underlying28 T.sz3 T.zr3 rfl T.by3 rfl (by omega) hc2 (fun wz hz => hz.rdOf (i := 0) rfl 0) rfl rfl (by omega) (by omega) rfl (by decide)) (fun _ => (ulS (ulS (ulC (ulC (ulS (ulC ulR))))))) (fun xq8 hq9 => ?_) ?_
          · refine GH.one 9 rfl (by kernel_rfl) (Ex.wp (v := (.pointer (some ⟨kb, 0, none⟩))) (Ex.nilCheck rfl) (by decide)) (fun _ => (ulS (ulS (ulC (ulC (ulS (ulC ulR))))))) (fun _ _ => ?_)
            refine GH.take 10 (v := (.pointer (some ⟨kb, 4, none⟩))) rfl (by kernel_rfl) (by kernel_rfl) (by kernel_rfl) (fun _ _ _ h => h) (Ex.cast (Ex.fieldAddr rfl Try.underlying31 rfl T.sz29 (by decide)) rfl) (ulS (ulS (ulC (ulC (ulS (ulC ulR)))))) (by decide) ?_
            refine GH.take 11 (v := (.pointer (some ⟨kb, 7, none⟩))) rfl (by kernel_rfl) (by kernel_rfl) (by kernel_rfl) (fun _ _ _ h => h) (Ex.cast (Ex.indexArr (m := 4) rfl rfl Try.underlying29 T.sz28 (by decide) (by decide)) rfl) (ulS (ulS (ulC (ulC (ulS (ulC ulR)))))) (by decide) ?_
            refine GH.one 12 rfl (by kernel_rfl) (Stp.st4 (cs' := [(.slice none 0 0), (.slice none 0 0), (.slice none 0 0), (.slice (some ⟨xq5.1, 0, none⟩) (n1 + 1) xq5.2.1), (.slice none 0 0), (.slice none 0 0), (.slice none 0 0), (.slice (some ⟨xq8.1, 0, none⟩) (n1 + 1) xq8.2.1)]) rfl rfl rfl T.sz28 rfl rfl rfl) (fun _ => (ulS (ulS (ulC (ulC (ulS (ulC ulR))))))) (fun _ _ => ?_)
            refine GH.done (by kernel_rfl) ?_
            refine GC.end0 rfl (fun wN HN => ?_)
            exact HN.frm (xq8, xq5) ⟨hq6.1, hq9.1⟩ (by rfl) (ulC (ulS (ulC (ulS (ulC (ulC ulR))))))
          refine GHs.cons rfl (Ex.wp (v := (.pointer (some ⟨kb, 0, none⟩))) (Ex.nilCheck rfl) (by decide)) (fun _ => (ulS (ulC (ulC (ulS (ulS (ulC ulR))))))) (fun _ _ => ?_) ?_
          · refine GH.take 10 (v := (.pointer (some ⟨kb, 4, none⟩))) rfl (by kernel_rfl) (by kernel_rfl) (by kernel_rfl) (fun _ _ _ h => h) (Ex.cast (Ex.fieldAddr rfl Try.underlying31 rfl T.sz29 (by decide)) rfl) (ulS (ulC (ulC (ulS (ulS (ulC ulR)))))) (by decide) ?_
            refine GH.one 8 rfl (by kernel_rfl) (Stp.appendOwn (i := 4) (xs := xs2) (sp := sp2) (vs := [(.int .i64 m)]) (L1 := (⟨bq7, [(.int .i64 m)], 3, true⟩ :: ⟨xq5.1, xs1 ++ [(.slice (some ⟨b, 0, none⟩) cap cap)] ++ xq5.2.2, 28, true⟩ :: ⟨bq4, [(.slice (some ⟨b, 0, none⟩) cap cap)], 28, true⟩ :: ⟨kb, [(.slice none 0 0), (.slice none 0 0), (.slice none 0 0), (.slice (some ⟨xq5.1, 0, none⟩) (n1 + 1) xq5.2.1), (.slice none 0 0), (.slice none 0 0), (.slice none 0 0), (.slice (some ⟨b2, 0, none⟩) n1 c2)], 31, true⟩ :: ⟨b, mkvI m cap, 3, true⟩ :: R)) rfl rfl Try.underlying28 T.sz3 T.zr3 rfl T.by3 rfl (by omega) hc2 (fun wz hz => hz.rdOf (i := 0) rfl 0) rfl rfl (by omega) (by omega) rfl (by decide)) (fun _ => (ulS (ulS (ulC (ulC (ulS (ulC ulR))))))) (fun xq10 hq11 => ?_)
            refine GH.take 11 (v := (.pointer (some ⟨kb, 7, none⟩))) rfl (by kernel_rfl) (by kernel_rfl) (by kernel_rfl) (fun _ _ _ h => h) (Ex.cast (Ex.indexArr (m := 4) rfl rfl Try.underlying29 T.sz28 (by decide) (by decide)) rfl) (ulS (ulS (ulC (ulC (ulS (ulC ulR)))))) (by decide) ?_
            refine GH.one 12 rfl (by kernel_rfl) (Stp.st4 (cs' := [(.slice none 0 0), (.slice none 0 0), (.slice none 0 0), (.slice (some ⟨xq5.1, 0, none⟩) (n1 + 1) xq5.2.1), (.slice none 0 0), (.slice none 0 0), (.slice none 0 0), (.slice (some ⟨xq10.1, 0, none⟩) (n1 + 1) xq10.2.1)]) rfl rfl rfl T.sz28 rfl rfl rfl) (fun _ => (ulS (ulS (ulC (ulC (ulS (ulC ulR))))))) (fun _ _ => ?_)
            refine GH.done (by kernel_rfl) ?_
            refine GC.end0 rfl (fun wN HN => ?_)
            exact HN.frm (xq10, xq5) ⟨hq6.1, hq11.1⟩ (by rfl) (ulC (ulS (ulC (ulS (ulC (ulC ulR))))))
          exact GHs.nil
        refine GHs.cons rfl (Ex.wp (v := (.pointer (some ⟨kb, 0, none⟩))) (Ex.nilCheck rfl) (by decide)) (fun _ => (ulC (ulC (ulS (ulS (ulC ulR)))))) (fun _ _ => ?_) ?_
        · refine GH.take 10 (v := (.pointer (some ⟨kb, 4, none⟩))) rfl (by kernel_rfl) (by kernel_rfl) (by kernel_rfl) (fun _ _ _ h => h) (Ex.cast (Ex.fieldAddr rfl Try.underlying31 rfl T.sz29 (by decide)) rfl) (ulC (ulC (ulS (ulS (ulC ulR))))) (by decide) ?_
          refine GH.one 7 rfl (by kernel_rfl) (Stp.buildSlice (cs := [(.int .i64 m)]) (vs := [(0, (.int .i64 m))]) Try.underlying28 T.zr3 T.sz3 rfl (by decide) (by decide) (by first | rfl | kernel_rfl) (by decide)) (fun _ => (ulS (ulC (ulC (ulS (ulS (ulC ulR))))))) (fun bq12 _ => ?_)
          refine GH.one 8 rfl (by kernel_rfl) (Stp.appendOwn (i := 4) (xs := xs2) (sp := sp2) (vs := [(.int .i64 m)]) (L1 := (⟨bq12, [(.int .i64 m)], 3, true⟩ :: ⟨xq5.1, xs1 ++ [(.slice (some ⟨b, 0, none⟩) cap cap)] ++ xq5.2.2, 28, true⟩ :: ⟨bq4, [(.slice (some ⟨b, 0, none⟩) cap cap)], 28, true⟩ :: ⟨kb, [(.slice none 0 0), (.slice none 0 0), (.slice none 0 0), (.slice (some ⟨xq5.1, 0, none⟩) (n1 + 1) xq5.2.1), (.slice none 0 0), (.slice none 0 0), (.slice none 0 0), (.slice (some ⟨b2, 0, none⟩) n1 c2)], 31, true⟩ :: ⟨b, mkvI m cap, 3, true⟩ :: R)) rfl rfl Try.underlying28 T.sz3 T.zr3 rfl T.by3 rfl (by omega) hc2 (fun wz hz => hz.rdOf (i := 0) rfl 0) rfl rfl (by omega) (by omega) rfl (by decide)) (fun _ => (ulS (ulS (ulC (ulC (ulS (ulC ulR))))))) (fun xq13 hq14 => ?_)
          refine GH.take 11 (v := (.pointer (some ⟨kb, 7, none⟩))) rfl (by kernel_rfl) (by kernel_rfl) (by kernel_rfl) (fun _ _ _ h => h) (Ex.cast (Ex.indexArr (m := 4) rfl rfl Try.underlying29 T.sz28 (by decide) (by decide)) rfl) (ulS (ulS (ulC (ulC (ulS (ulC ulR)))))) (by decide) ?_
          refine GH.one 12 rfl (by kernel_rfl) (Stp.st4 (cs' := [(.slice none 0 0), (.slice none 0 0), (.slice none 0 0), (.slice (some ⟨xq5.1, 0, none⟩) (n1 + 1) xq5.2.1), (.slice none 0 0), (.slice none 0 0), (.slice none 0 0), (.slice (some ⟨xq13.1, 0, none⟩) (n1 + 1) xq13.2.1)]) rfl rfl rfl T.sz28 rfl rfl rfl) (fun _ => (ulS (ulS (ulC (ulC (ulS (ulC ulR))))))) (fun _ _ => ?_)
          refine GH.done (by kernel_rfl) ?_
          refine GC.end0 rfl (fun wN HN => ?_)
          exact HN.frm (xq13, xq5) ⟨hq6.1, hq14.1⟩ (by rfl) (ulC (ulS (ulC (ulS (ulC (ulC ulR))))))
        exact GHs.nil
      refine GHs.cons rfl (Stp.buildSlice (cs := [(.int .i64 m)]) (vs := [(0, (.int .i64 m))]) Try.underlying28 T.zr3 T.sz3 rfl (by decide) (by decide) (by first | rfl | kernel_rfl) (by decide)) (fun _ => (ulS (ulC (ulC (ulS (ulS (ulC ulR))))))) (fun bq15 _ => ?_) ?_
      · refine GH.many (rs := [5, 9]) (by kernel_rfl) (by simp) ?_
        refine GHs.cons rfl (Ex.wp (v := (.slice (some ⟨b2, 0, none⟩) n1 c2)) (Ex.load rfl T.ag28 (i := 3) rfl rfl) (by decide)) (fun _ => (ulS (ulC (ulC (ulS (ulS (ulC ulR))))))) (fun _ _ => ?_) ?_
        · refine GH.many (rs := [8, 9]) (by kernel_rfl) (by simp) ?_
          refine GHs.cons rfl (Stp.appendOwn (i := 4) (xs := xs2) (sp := sp2) (vs := [(.int .i64 m)]) (L1 := (⟨bq15, [(.int .i64 m)], 3, true⟩ :: ⟨xq5.1, xs1 ++ [(.slice (some ⟨b, 0, none⟩) cap cap)] ++ xq5.2.2, 28, true⟩ :: ⟨bq4, [(.slice (some ⟨b, 0, none⟩) cap cap)], 28, true⟩ :: ⟨kb, [(.slice none 0 0), (.slice none 0 0), (.slice none 0 0), (.slice (some ⟨xq5.1, 0, none⟩) (n1 + 1) xq5.2.1), (.slice none 0 0), (.slice none 0 0), (.slice none 0 0), (.slice (some ⟨b2, 0, none⟩) n1 c2)], 31, true⟩ :: ⟨b, mkvI m cap, 3, true⟩ :: R)) rfl rfl Try.underlying28 T.sz3 T.zr3 rfl T.by3 rfl (by omega) hc2 (fun wz hz => hz.rdOf (i := 0) rfl 0) rfl rfl (by omega) (by omega) rfl (by decide)) (fun _ => (ulS (ulS (ulC (ulC (ulS (ulC ulR))))))) (fun xq16 hq17 => ?_) ?_
          · refine GH.one 9 rfl (by kernel_rfl) (Ex.wp (v := (.pointer (some ⟨kb, 0, none⟩))) (Ex.nilCheck rfl) (by decide)) (fun _ => (ulS (ulS (ulC (ulC (ulS (ulC ulR))))))) (fun _ _ => ?_)
            refine GH.take 10 (v := (.pointer (some ⟨kb, 4, none⟩))) rfl (by kernel_rfl) (by kernel_rfl) (by kernel_rfl) (fun _ _ _ h => h) (Ex.cast (Ex.fieldAddr rfl Try.underlying31 rfl T.sz29 (by decide)) rfl) (ulS (ulS (ulC (ulC (ulS (ulC ulR)))))) (by decide) ?_
            refine GH.take 11 (v := (.pointer (some ⟨kb, 7, none⟩))) rfl (by kernel_rfl) (by kernel_rfl) (by kernel_rfl) (fun _ _ _ h => h) (Ex.cast (Ex.indexArr (m := 4) rfl rfl Try.underlying29 T.sz28 (by decide) (by decide)) rfl) (ulS (ulS (ulC (ulC (ulS (ulC ulR)))))) (by decide) ?_
            refine GH.one 12 rfl (by kernel_rfl) (Stp.st4 (cs' := [(.slice none 0 0), (.slice none 0 0), (.slice none 0 0), (.slice (some ⟨xq5.1, 0, none⟩) (n1 + 1) xq5.2.1), (.slice none 0 0), (.slice none 0 0), (.slice none 0 0), (.slice (some ⟨xq16.1, 0, none⟩) (n1 + 1) xq16.2.1)]) rfl rfl rfl T.sz28 rfl rfl rfl) (fun _ => (ulS (ulS (ulC (ulC (ulS (ulC ulR))))))) (fun _ _ => ?_)
            refine GH.done (by kernel_rfl) ?_
            refine GC.end0 rfl (fun wN HN => ?_)
            exact HN.frm (xq16, xq5) ⟨hq6.1, hq17.1⟩ (by rfl) (ulC (ulS (ulC (ulS (ulC (ulC ulR))))))
          refine GHs.cons rfl (Ex.wp (v := (.pointer (some ⟨kb, 0, none⟩))) (Ex.nilCheck rfl) (by decide)) (fun _ => (ulS (ulC (ulC (ulS (ulS (ulC ulR))))))) (fun _ _ => ?_) ?_
          · refine GH.take 10 (v := (.pointer (some ⟨kb, 4, none⟩))) rfl (by kernel_rfl) (by kernel_rfl) (by kernel_rfl) (fun _ _ _ h => h) (Ex.cast (Ex.fieldAddr rfl Try.underlying31 rfl T.sz29 (by decide)) rfl) (ulS (ulC (ulC (ulS (ulS (ulC ulR)))))) (by decide) ?_
            refine GH.one 8 rfl (by kernel_rfl) (Stp.appendOwn (i := 4) (xs := xs2) (sp := sp2) (vs := [(.int .i64 m)]) (L1 := (⟨bq15, [(.int .i64 m)], 3, true⟩ :: ⟨xq5.1, xs1 ++ [(.slice (some ⟨b, 0, none⟩) cap cap)] ++ xq5.2.2, 28, true⟩ :: ⟨bq4, [(.slice (some ⟨b, 0, none⟩) cap cap)], 28, true⟩ :: ⟨kb, [(.slice none 0 0), (.slice none 0 0), (.slice none 0 0), (.slice (some ⟨xq5.1, 0, none⟩) (n1 + 1) xq5.2.1), (.slice none 0 0), (.slice none 0 0), (.slice none 0 0), (.slice (some ⟨b2, 0, none⟩) n1 c2)], 31, true⟩ :: ⟨b, mkvI m cap, 3, true⟩ :: R)) rfl rfl Try.underlying28 T.sz3 T.zr3 rfl T.by3 rfl (by omega) hc2 (fun wz hz => hz.rdOf (i := 0) rfl 0) rfl rfl (by omega) (by omega) rfl (by decide)) (fun _ => (ulS (ulS (ulC (ulC (ulS (ulC ulR))))))) (fun xq18 hq19 => ?_)
            refine GH.take 11 (v := (.pointer (some ⟨kb, 7, none⟩))) rfl (by kernel_rfl) (by kernel_rfl) (by kernel_rfl) (fun _ _ _ h => h) (Ex.cast (Ex.indexArr (m := 4) rfl rfl Try.underlying29 T.sz28 (by decide) (by decide)) rfl) (ulS (ulS (ulC (ulC (ulS (ulC ulR)))))) (by decide) ?_
            refine GH.one 12 rfl (by kernel_rfl) (Stp.st4 (cs' := [(.slice none 0 0), (.slice none 0 0), (.slice none 0 0), (.slice (some ⟨xq5.1, 0, none⟩) (n1 + 1) xq5.2.1), (.slice none 0 0), (.slice none 0 0), (.slice none 0 0), (.slice (some ⟨xq18.1, 0, none⟩) (n1 + 1) xq18.2.1)]) rfl rfl rfl T.sz28 rfl rfl rfl) (fun _ => (ulS (ulS (ulC (ulC (ulS (ulC ulR))))))) (fun _ _ => ?_)
            refine GH.done (by kernel_rfl) ?_
            refine GC.end0 rfl (fun wN HN => ?_)
            exact HN.frm (xq18, xq5) ⟨hq6.1, hq19.1⟩ (by rfl) (ulC (ulS (ulC (ulS (ulC (ulC ulR))))))
          exact GHs.nil
        refine GHs.cons rfl (Ex.wp (v := (.pointer (some ⟨kb, 0, none⟩))) (Ex.nilCheck rfl) (by decide)) (fun _ => (ulS (ulC (ulC (ulS (ulS (ulC ulR))))))) (fun _ _ => ?_) ?_
        · refine GH.take 10 (v := (.pointer (some ⟨kb, 4, none⟩))) rfl (by kernel_rfl) (by kernel_rfl) (by kernel_rfl) (fun _ _ _ h => h) (Ex.cast (Ex.fieldAddr rfl Try.underlying31 rfl T.sz29 (by decide)) rfl) (ulS (ulC (ulC (ulS (ulS (ulC ulR)))))) (by decide) ?_
          refine GH.one 5 rfl (by kernel_rfl) (Ex.wp (v := (.slice (some ⟨b2, 0, none⟩) n1 c2)) (Ex.load rfl T.ag28 (i := 3) rfl rfl) (by decide)) (fun _ => (ulS (ulC (ulC (ulS (ulS (ulC ulR))))))) (fun _ _ => ?_)
          refine GH.one 8 rfl (by kernel_rfl) (Stp.appendOwn (i := 4) (xs := xs2) (sp := sp2) (vs := [(.int .i64 m)]) (L1 := (⟨bq15, [(.int .i64 m)], 3, true⟩ :: ⟨xq5.1, xs1 ++ [(.slice (some ⟨b, 0, none⟩) cap cap)] ++ xq5.2.2, 28, true⟩ :: ⟨bq4, [(.slice (some ⟨b, 0, none⟩) cap cap)], 28, true⟩ :: ⟨kb, [(.slice none 0 0), (.slice none 0 0), (.slice none 0 0), (.slice (some ⟨xq5.1, 0, none⟩) (n1 + 1) xq5.2.1), (.slice none 0 0), (.slice none 0 0), (.slice none 0 0), (.slice (some ⟨b2, 0, none⟩) n1 c2)], 31, true⟩ :: ⟨b, mkvI m cap, 3, true⟩ :: R)) rfl rfl Try.underlying28 T.sz3 T.zr3 rfl T.by3 rfl (by omega) hc2 (fun wz hz => hz.rdOf (i := 0) rfl 0) rfl rfl (by omega) (by omega) rfl (by decide)) (fun _ => (ulS (ulS (ulC (ulC (ulS (ulC ulR))))))) (fun xq20 hq21 => ?_)
          refine GH.take 11 (v := (.pointer (some ⟨kb, 7, none⟩))) rfl (by kernel_rfl) (by kernel_rfl) (by kernel_rfl) (fun _ _ _ h => h) (Ex.cast (Ex.indexArr (m := 4) rfl rfl Try.underlying29 T.sz28 (by decide) (by decide)) rfl) (ulS (ulS (ulC (ulC (ulS (ulC ulR)))))) (by decide) ?_
          refine GH.one 12 rfl (by kernel_rfl) (Stp.st4 (cs' := [(.slice none 0 0), (.slice none 0 0), (.slice none 0 0), (.slice (some ⟨xq5.1, 0, none⟩) (n1 + 1) xq5.2.1), (.slice none 0 0), (.slice none 0 0), (.slice none 0 0), (.slice (some ⟨xq20.1, 0, none⟩) (n1 + 1) xq20.2.1)]) rfl rfl rfl T.sz28 rfl rfl rfl) (fun _ => (ulS (ulS (ulC (ulC (ulS (ulC ulR))))))) (fun _ _ => ?_)
          refine GH.done (by kernel_rfl) ?_
          refine GC.end0 rfl (fun wN HN => ?_)
          exact HN.frm (xq20, xq5) ⟨hq6.1, hq21.1⟩ (by rfl) (ulC (ulS (ulC (ulS (ulC (ulC ulR))))))
        exact GHs.nil
      refine GHs.cons rfl (Ex.wp (v := (.pointer (some ⟨kb, 0, none⟩))) (Ex.nilCheck rfl) (by decide)) (fun _ => (ulC (ulC (ulS (ulS (ulC ulR)))))) (fun _ _ => ?_) ?_
      · refine GH.take 10 (v := (.pointer (some ⟨kb, 4, none⟩))) rfl (by kernel_rfl) (by kernel_rfl) (by kernel_rfl) (fun _ _ _ h => h) (Ex.cast (Ex.fieldAddr rfl Try.underlying31 rfl T.sz29 (by decide)) rfl) (ulC (ulC (ulS (ulS (ulC ulR))))) (by decide) ?_
        refine GH.many (rs := [5, 7]) (by kernel_rfl) (by simp) ?_
        refine GHs.cons rfl (Ex.wp (v := (.slice (some ⟨b2, 0, none⟩) n1 c2)) (Ex.load rfl T.ag28 (i := 2) rfl rfl) (by decide)) (fun _ => (ulC (ulC (ulS (ulS (ulC ulR)))))) (fun _ _ => ?_) ?_
        · refine GH.one 7 rfl (by kernel_rfl) (Stp.buildSlice (cs := [(.int .i64 m)]) (vs := [(0, (.int .i64 m))]) Try.underlying28 T.zr3 T.sz3 rfl (by decide) (by decide) (by first | rfl | kernel_rfl) (by decide)) (fun _ => (ulS (ulC (ulC (ulS (ulS (ulC ulR))))))) (fun bq22 _ => ?_)
          refine GH.one 8 rfl (by kernel_rfl) (Stp.appendOwn (i := 4) (xs := xs2) (sp := sp2) (vs := [(.int .i64 m)]) (L1 := (⟨bq22, [(.int .i64 m)], 3, true⟩ :: ⟨xq5.1, xs1 ++ [(.slice (some ⟨b, 0, none⟩) cap cap)] ++ xq5.2.2, 28, true⟩ :: ⟨bq4, [(.slice (some ⟨b, 0, none⟩) cap cap)], 28, true⟩ :: ⟨kb, [(.slice none 0 0), (.slice none 0 0), (.slice none 0 0), (.slice (some ⟨xq5.1, 0, none⟩) (n1 + 1) xq5.2.1), (.slice none 0 0), (.slice none 0 0), (.slice none 0 0), (.slice (some ⟨b2, 0, none⟩) n1 c2)], 31, true⟩ :: ⟨b, mkvI m cap, 3, true⟩ :: R)) rfl rfl Try.underlying28 T.sz3 T.zr3 rfl T.by3 rfl (by omega) hc2 (fun wz hz => hz.rdOf (i := 0) rfl 0) rfl rfl (by omega) (by omega) rfl (by decide)) (fun _ => (ulS (ulS (ulC (ulC (ulS (ulC ulR))))))) (fun xq23 hq24 => ?_)
          refine GH.take 11 (v := (.pointer (some ⟨kb, 7, none⟩))) rfl (by kernel_rfl) (by kernel_rfl) (by kernel_rfl) (fun _ _ _ h => h) (Ex.cast (Ex.indexArr (m := 4) rfl rfl Try.underlying29 T.sz28 (by decide) (by decide)) rfl) (ulS (ulS (ulC (ulC (ulS (ulC ulR)))))) (by decide) ?_
          refine GH.one 12 rfl (by kernel_rfl) (Stp.st4 (cs' := [(.slice none 0 0), (.slice none 0 0), (.slice none 0 0), (.slice (some ⟨xq5.1, 0, none⟩) (n1 + 1) xq5.2.1), (.slice none 0 0), (.slice none 0 0), (.slice none 0 0), (.slice (some ⟨xq23.1, 0, none⟩) (n1 + 1) xq23.2.1)]) rfl rfl rfl T.sz28 rfl rfl rfl) (fun _ => (ulS (ulS (ulC (ulC (ulS (ulC ulR))))))) (fun _ _ => ?_)
          refine GH.done (by kernel_rfl) ?_
          refine GC.end0 rfl (fun wN HN => ?_)
          exact HN.frm (xq23, xq5) ⟨hq6.1, hq24.1⟩ (by rfl) (ulC (ulS (ulC (ulS (ulC (ulC ulR))))))
        refine GHs.cons rfl (Stp.buildSlice (cs := [(.int .i64 m)]) (vs := [(0, (.int .i64 m))]) Try.underlying28 T.zr3 T.sz3 rfl (by decide) (by decide) (by first | rfl | kernel_rfl) (by decide)) (fun _ => (ulS (ulC (ulC (ulS (ulS (ulC ulR))))))) (fun bq25 _ => ?_) ?_
        · refine GH.one 5 rfl (by kernel_rfl) (Ex.wp (v := (.slice (some ⟨b2, 0, none⟩) n1 c2)) (Ex.load rfl T.ag28 (i := 3) rfl rfl) (by decide)) (fun _ => (ulS (ulC (ulC (ulS (ulS (ulC ulR))))))) (fun _ _ => ?_)
          refine GH.one 8 rfl (by kernel_rfl) (Stp.appendOwn (i := 4) (xs := xs2) (sp := sp2) (vs := [(.int .i64 m)]) (L1 := (⟨bq25, [(.int .i64 m)], 3, true⟩ :: ⟨xq5.1, xs1 ++ [(.slice (some ⟨b, 0, none⟩) cap cap)] ++ xq5.2.2, 28, true⟩ :: ⟨bq4, [(.slice (some ⟨b, 0, none⟩) cap cap)], 28, true⟩ :: ⟨kb, [(.slice none 0 0), (.slice none 0 0), (.slice none 0 0), (.slice (some ⟨xq5.1, 0, none⟩) (n1 + 1) xq5.2.1), (.slice none 0 0), (.slice none 0 0), (.slice none 0 0), (.slice (some ⟨b2, 0, none⟩) n1 c2)], 31, true⟩ :: ⟨b, mkvI m cap, 3, true⟩ :: R)) rfl rfl Try.underlying28 T.sz3 T.zr3 rfl T.by3 rfl (by omega) hc2 (fun wz hz => hz.rdOf (i := 0) rfl 0) rfl rfl (by omega) (by omega) rfl (by decide)) (fun _ => (ulS (ulS (ulC (ulC (ulS (ulC ulR))))))) (fun xq26 hq27 => ?_)
          refine GH.take 11 (v := (.pointer (some ⟨kb, 7, none⟩))) rfl (by kernel_rfl) (by kernel_rfl) (by kernel_rfl) (fun _ _ _ h => h) (Ex.cast (Ex.indexArr (m := 4) rfl rfl Try.underlying29 T.sz28 (by decide) (by decide)) rfl) (ulS (ulS (ulC (ulC (ulS (ulC ulR)))))) (by decide) ?_
          refine GH.one 12 rfl (by kernel_rfl) (Stp.st4 (cs' := [(.slice none 0 0), (.slice none 0 0), (.slice none 0 0), (.slice (some ⟨xq5.1, 0, none⟩) (n1 + 1) xq5.2.1), (.slice none 0 0), (.slice none 0 0), (.slice none 0 0), (.slice (some ⟨xq26.1, 0, none⟩) (n1 + 1) xq26.2.1)]) rfl rfl rfl T.sz28 rfl rfl rfl) (fun _ => (ulS (ulS (ulC (ulC (ulS (ulC ulR))))))) (fun _ _ => ?_)
          refine GH.done (by kernel_rfl) ?_
          refine GC.end0 rfl (fun wN HN => ?_)
          exact HN.frm (xq26, xq5) ⟨hq6.1, hq27.1⟩ (by rfl) (ulC (ulS (ulC (ulS (ulC (ulC ulR))))))
        exact GHs.nil
      exact GHs.nil
    refine GHs.cons rfl (Stp.buildSlice (cs := [(.int .i64 m)]) (vs := [(0, (.int .i64 m))]) Try.underlying28 T.zr3 T.sz3 rfl (by decide) (by decide) (by first | rfl | kernel_rfl) (by decide)) (fun _ => (ulS (ulC (ulC (ulS (ulS (ulC ulR))))))) (fun bq28 _ => ?_) ?_
    · refine GH.many (rs := [2, 9]) (by kernel_rfl) (by simp) ?_
      refine GHs.cons rfl (Ex.wp (v := (.pointer (some ⟨kb, 0, none⟩))) (Ex.nilCheck rfl) (by decide)) (fun _ => (ulS (ulC (ulC (ulS (ulS (ulC ulR))))))) (fun _ _ => ?_) ?_
      · refine GH.take 3 (v := (.pointer (some ⟨kb, 4, none⟩))) rfl (by kernel_rfl) (by kernel_rfl) (by kernel_rfl) (fun _ _ _ h => h) (Ex.cast (Ex.fieldAddr rfl Try.underlying31 rfl T.sz29 (by decide)) rfl) (ulS (ulC (ulC (ulS (ulS (ulC ulR)))))) (by decide) ?_
        refine GH.take 4 (v := (.pointer (some ⟨kb, 7, none⟩))) rfl (by kernel_rfl) (by kernel_rfl) (by kernel_rfl) (fun _ _ _ h => h) (Ex.cast (Ex.indexArr (m := 4) rfl rfl Try.underlying29 T.sz28 (by decide) (by decide)) rfl) (ulS (ulC (ulC (ulS (ulS (ulC ulR)))))) (by decide) ?_
        refine GH.many (rs := [5, 9]) (by kernel_rfl) (by simp) ?_
        refine GHs.cons rfl (Ex.wp (v := (.slice (some ⟨b2, 0, none⟩) n1 c2)) (Ex.load rfl T.ag28 (i := 3) rfl rfl) (by decide)) (fun _ => (ulS (ulC (ulC (ulS (ulS (ulC ulR))))))) (fun _ _ => ?_) ?_
        · refine GH.many (rs := [8, 9]) (by kernel_rfl) (by simp) ?_
          refine GHs.cons rfl (Stp.appendOwn (i := 4) (xs := xs2) (sp := sp2) (vs := [(.int .i64 m)]) (L1 := (⟨bq28, [(.int .i64 m)], 3, true⟩ :: ⟨xq5.1, xs1 ++ [(.slice (some ⟨b, 0, none⟩) cap cap)] ++ xq5.2.2, 28, true⟩ :: ⟨bq4, [(.slice (some ⟨b, 0, none⟩) cap cap)], 28, true⟩ :: ⟨kb, [(.slice none 0 0), (.slice none 0 0), (.slice none 0 0), (.slice (some ⟨xq5.1, 0, none⟩) (n1 + 1) xq5.2.1), (.slice none 0 0), (.slice none 0 0), (.slice none 0 0), (.slice (some ⟨b2, 0, none⟩) n1 c2)], 31, true⟩ :: ⟨b, mkvI m cap, 3, true⟩ :: R)) rfl rfl Try.underlying28 T.sz3 T.zr3 rfl T.by3 rfl (by omega) hc2 (fun wz hz => hz.rdOf (i := 0) rfl 0) rfl rfl (by omega) (by omega) rfl (by decide)) (fun _ => (ulS (ulS (ulC (ulC (ulS (ulC ulR))))))) (fun xq29 hq30 => ?_) ?_
          · refine GH.one 9 rfl (by kernel_rfl) (Ex.wp (v := (.pointer (some ⟨kb, 0, none⟩))) (Ex.nilCheck rfl) (by decide)) (fun _ => (ulS (ulS (ulC (ulC (ulS (ulC ulR))))))) (fun _ _ => ?_)
            refine GH.take 10 (v := (.pointer (some ⟨kb, 4, none⟩))) rfl (by kernel_rfl) (by kernel_rfl) (by kernel_rfl) (fun _ _ _ h => h) (Ex.cast (Ex.fieldAddr rfl Try.underlying31 rfl T.sz29 (by decide)) rfl) (ulS (ulS (ulC (ulC (ulS (ulC ulR)))))) (by decide) ?_
            refine GH.take 11 (v := (.pointer (some ⟨kb, 7, none⟩))) rfl (by kernel_rfl) (by kernel_rfl) (by kernel_rfl) (fun _ _ _ h => h) (Ex.cast (Ex.indexArr (m := 4) rfl rfl Try.underlying29 T.sz28 (by decide) (by decide)) rfl) (ulS (ulS (ulC (ulC (ulS (ulC ulR)))))) (by decide) ?_
            refine GH.one 12 rfl (by kernel_rfl) (Stp.st4 (cs' := [(.slice none 0 0), (.slice none 0 0), (.slice none 0 0), (.slice (some ⟨xq5.1, 0, none⟩) (n1 + 1) xq5.2.1), (.slice none 0 0), (.slice none 0 0), (.slice none 0 0), (.slice (some ⟨xq29.1, 0, none⟩) (n1 + 1) xq29.2.1)]) rfl rfl rfl T.sz28 rfl rfl rfl) (fun _ => (ulS (ulS (ulC (ulC (ulS (ulC ulR))))))) (fun _ _ => ?_)
            refine GH.done (by kernel_rfl) ?_
            refine GC.end0 rfl (fun wN HN => ?_)
            exact HN.frm (xq29, xq5) ⟨hq6.1, hq30.1⟩ (by rfl) (ulC (ulS (ulC (ulS (ulC (ulC ulR))))))
          refine GHs.cons rfl (Ex.wp (v := (.pointer (some ⟨kb, 0, none⟩))) (Ex.nilCheck rfl) (by decide)) (fun _ => (ulS (ulC (ulC (ulS (ulS (ulC ulR))))))) (fun _ _ => ?_) ?_
          · refine GH.take 10 (v := (.pointer (some ⟨kb, 4, none⟩))) rfl (by kernel_rfl) (by kernel_rfl) (by kernel_rfl) (fun _ _ _ h => h) (Ex.cast (Ex.fieldAddr rfl Try.underlying31 rfl T.sz29 (by decide)) rfl) (ulS (ulC (ulC (ulS (ulS (ulC ulR)))))) (by decide) ?_
            refine GH.one 8 rfl (by kernel_rfl) (Stp.appendOwn (i := 4) (xs := xs2) (sp := sp2) (vs := [(.int .i64 m)]) (L1 := (⟨bq28, [(.int .i64 m)], 3, true⟩ :: ⟨xq5.1, xs1 ++ [(.slice (some ⟨b, 0, none⟩) cap cap)] ++ xq5.2.2, 28, true⟩ :: ⟨bq4, [(.slice (some ⟨b, 0, none⟩) cap cap)], 28, true⟩ :: ⟨kb, [(.slice none 0 0), (.slice none 0 0), (.slice none 0 0), (.slice (some ⟨xq5.1, 0, none⟩) (n1 + 1) xq5.2.1), (.slice none 0 0), (.slice none 0 0), (.slice none 0 0), (.slice (some ⟨b2, 0, none⟩) n1 c2)], 31, true⟩ :: ⟨b, mkvI m cap, 3, true⟩ :: R)) rfl rfl Try.underlying28 T.sz3 T.zr3 rfl T.by3 rfl (by omega) hc2 (fun wz hz => hz.rdOf (i := 0) rfl 0) rfl rfl (by omega) (by omega) rfl (by decide)) (fun _ => (ulS (ulS (ulC (ulC (ulS (ulC ulR))))))) (fun xq31 hq32 => ?_)
            refine GH.take 11 (v := (.pointer (some ⟨kb, 7, none⟩))) rfl (by kernel_rfl) (by kernel_rfl) (by kernel_rfl) (fun _ _ _ h => h) (Ex.cast (Ex.indexArr (m := 4) rfl rfl Try.underlying29 T.sz28 (by decide) (by decide)) rfl) (ulS (ulS (ulC (ulC (ulS (ulC ulR)))))) (by decide) ?_
            refine GH.one 12 rfl (by kernel_rfl) (Stp.st4 (cs' := [(.slice none 0 0), (.slice none 0 0), (.slice none 0 0), (.slice (some ⟨xq5.1, 0, none⟩) (n1 + 1) xq5.2.1), (.slice none 0 0), (.slice none 0 0), (.slice none 0 0), (.slice (some ⟨xq31.1, 0, none⟩) (n1 + 1) xq31.2.1)]) rfl rfl rfl T.sz28 rfl rfl rfl) (fun _ => (ulS (ulS (ulC (ulC (ulS (ulC ulR))))))) (fun _ _ => ?_)
            refine GH.done (by kernel_rfl) ?_
            refine GC.end0 rfl (fun wN HN => ?_)
            exact HN.frm (xq31, xq5) ⟨hq6.1, hq32.1⟩ (by rfl) (ulC (ulS (ulC (ulS (ulC (ulC ulR))))))
          exact GHs.nil
        refine GHs.cons rfl (Ex.wp (v := (.pointer (some ⟨kb, 0, none⟩))) (Ex.nilCheck rfl) (by decide)) (fun _ => (ulS (ulC (ulC (ulS (ulS (ulC ulR))))))) (fun _ _ => ?_) ?_
        · refine GH.take 10 (v := (.pointer (some ⟨kb, 4, none⟩))) rfl (by kernel_rfl) (by kernel_rfl) (by kernel_rfl) (fun _ _ _ h => h) (Ex.cast (Ex.fieldAddr rfl Try.underlying31 rfl T.sz29 (by decide)) rfl) (ulS (ulC (ulC (ulS (ulS (ulC ulR)))))) (by decide) ?_
          refine GH.one 5 rfl (by kernel_rfl) (Ex.wp (v := (.slice (some ⟨b2, 0, none⟩) n1 c2)) (Ex.load rfl T.ag28 (i := 3) rfl rfl) (by decide)) (fun _ => (ulS (ulC (ulC (ulS (ulS (ulC ulR))))))) (fun _ _ => ?_)
          refine GH.one 8 rfl (by kernel_rfl) (Stp.appendOwn (i := 4) (xs := xs2) (sp := sp2) (vs := [(.int .i64 m)]) (L1 := (⟨bq28, [(.int .i64 m)], 3, true⟩ :: ⟨xq5.1, xs1 ++ [(.slice (some ⟨b, 0, none⟩) cap cap)] ++ xq5.2.2, 28, true⟩ :: ⟨bq4, [(.slice (some ⟨b, 0, none⟩) cap cap)], 28, true⟩ :: ⟨kb, [(.slice none 0 0), (.slice none 0 0), (.slice none 0 0), (.slice (some ⟨xq5.1, 0, none⟩) (n1 + 1) xq5.2.1), (.slice none 0 0), (.slice none 0 0), (.slice none 0 0), (.slice (some ⟨b2, 0, none⟩) n1 c2)], 31, true⟩ :: ⟨b, mkvI m cap, 3, true⟩ :: R)) rfl rfl Try.underlying28 T.sz3 T.zr3 rfl T.by3 rfl (by omega) hc2 (fun wz hz => hz.rdOf (i := 0) rfl 0) rfl rfl (by omega) (by omega) rfl (by decide)) (fun _ => (ulS (ulS (ulC (ulC (ulS (ulC ulR))))))) (fun xq33 hq34 => ?_)
          refine GH.take 11 (v := (.pointer (some ⟨kb, 7, none⟩))) rfl (by kernel_rfl) (by kernel_rfl) (by kernel_rfl) (fun _ _ _ h => h) (Ex.cast (Ex.indexArr (m := 4) rfl rfl Try.underlying29 T.sz28 (by decide) (by decide)) rfl) (ulS (ulS (ulC (ulC (ulS (ulC ulR)))))) (by decide) ?_
          refine GH.one 12 rfl (by kernel_rfl) (Stp.st4 (cs' := [(.slice none 0 0), (.slice none 0 0), (.slice none 0 0), (.slice (some ⟨xq5.1, 0, none⟩) (n1 + 1) xq5.2.1), (.slice none 0 0), (.slice none 0 0), (.slice none 0 0), (.slice (some ⟨xq33.1, 0, none⟩) (n1 + 1) xq33.2.1)]) rfl rfl rfl T.sz28 rfl rfl rfl) (fun _ => (ulS (ulS (ulC (ulC (ulS (ulC ulR))))))) (fun _ _ => ?_)
          refine GH.done (by kernel_rfl) ?_
          refine GC.end0 rfl (fun wN HN => ?_)
          exact HN.frm (xq33, xq5) ⟨hq6.1, hq34.1⟩ (by rfl) (ulC (ulS (ulC (ulS (ulC (ulC ulR))))))
        exact GHs.nil
      refine GHs.cons rfl (Ex.wp (v := (.pointer (some ⟨kb, 0, none⟩))) (Ex.nilCheck rfl) (by decide)) (fun _ => (ulS (ulC (ulC (ulS (ulS (ulC ulR))))))) (fun _ _ => ?_) ?_
      · refine GH.take 10 (v := (.pointer (some ⟨kb, 4, none⟩))) rfl (by kernel_rfl) (by kernel_rfl) (by kernel_rfl) (fun _ _ _ h => h) (Ex.cast (Ex.fieldAddr rfl Try.underlying31 rfl T.sz29 (by decide)) rfl) (ulS (ulC (ulC (ulS (ulS (ulC ulR)))))) (by decide) ?_
        refine GH.one 2 rfl (by kernel_rfl) (Ex.wp (v := (.pointer (some ⟨kb, 0, none⟩))) (Ex.nilCheck rfl) (by decide)) (fun _ => (ulS (ulC (ulC (ulS (ulS (ulC ulR))))))) (fun _ _ => ?_)
        refine GH.take 3 (v := (.pointer (some ⟨kb, 4, none⟩))) rfl (by kernel_rfl) (by kernel_rfl) (by kernel_rfl) (fun _ _ _ h => h) (Ex.cast (Ex.fieldAddr rfl Try.underlying31 rfl T.sz29 (by decide)) rfl) (ulS (ulC (ulC (ulS (ulS (ulC ulR)))))) (by decide) ?_
        refine GH.take 4 (v := (.pointer (some ⟨kb, 7, none⟩))) rfl (by kernel_rfl) (by kernel_rfl) (by kernel_rfl) (fun _ _ _ h => h) (Ex.cast (Ex.indexArr (m := 4) rfl rfl Try.underlying29 T.sz28 (by decide) (by decide)) rfl) (ulS (ulC (ulC (ulS (ulS (ulC ulR)))))) (by decide) ?_
        refine GH.one 5 rfl (by kernel_rfl) (Ex.wp (v := (.slice (some ⟨b2, 0, none⟩) n1 c2)) (Ex.load rfl T.ag28 (i := 3) rfl rfl) (by decide)) (fun _ => (ulS (ulC (ulC (ulS (ulS (ulC ulR))))))) (fun _ _ => ?_)
        refine GH.one 8 rfl (by kernel_rfl) (Stp.appendOwn (i := 4) (xs := xs2) (sp := sp2) (vs := [(.int .i64 m)]) (L1 := (⟨bq28, [(.int .i64 m)], 3, true⟩ :: ⟨xq5.1, xs1 ++ [(.slice (some ⟨b, 0, none⟩) cap cap)] ++ xq5.2.2, 28, true⟩ :: ⟨bq4, [(.slice (some ⟨b, 0, none⟩) cap cap)], 28, true⟩ :: ⟨kb, [(.slice none 0 0), (.slice none 0 0), (.slice none 0 0), (.slice (some ⟨xq5.1, 0, none⟩) (n1 + 1) xq5.2.1), (.slice none 0 0), (.slice none 0 0), (.slice none 0 0), (.slice (some ⟨b2, 0, none⟩) n1 c2)], 31, true⟩ :: ⟨b, mkvI m cap, 3, true⟩ :: R)) rfl rfl Try.underlying28 T.sz3 T.zr3 rfl T.by3 rfl (by omega) hc2 (fun wz hz => hz.rdOf (i := 0) rfl 0) rfl rfl (by omega) (by omega) rfl (by decide)) (fun _ => (ulS (ulS (ulC (ulC (ulS (ulC ulR))))))) (fun xq35 hq36 => ?_)
        refine GH.take 11 (v := (.pointer (some ⟨kb, 7, none⟩))) rfl (by kernel_rfl) (by kernel_rfl) (by kernel_rfl) (fun _ _ _ h => h) (Ex.cast (Ex.indexArr (m := 4) rfl rfl Try.underlying29 T.sz28 (by decide) (by decide)) rfl) (ulS (ulS (ulC (ulC (ulS (ulC ulR)))))) (by decide) ?_
        refine GH.one 12 rfl (by kernel_rfl) (Stp.st4 (cs' := [(.slice none 0 0), (.slice none 0 0), (.slice none 0 0), (.slice (some ⟨xq5.1, 0, none⟩) (n1 + 1) xq5.2.1), (.slice none 0 0), (.slice none 0 0), (.slice none 0 0), (.slice (some ⟨xq35.1, 0, none⟩) (n1 + 1) xq35.2.1)]) rfl rfl rfl T.sz28 rfl rfl rfl) (fun _ => (ulS (ulS (ulC (ulC (ulS (ulC ulR))))))) (fun _ _ => ?_)
        refine GH.done (by kernel_rfl) ?_
        refine GC.end0 rfl (fun wN HN => ?_)
        exact HN.frm (xq35, xq5) ⟨hq6.1, hq36.1⟩ (by rfl) (ulC (ulS (ulC (ulS (ulC (ulC ulR))))))
      exact GHs.nil
    refine GHs.cons rfl (Ex.wp (v := (.pointer (some ⟨kb, 0, none⟩))) (Ex.nilCheck rfl) (by decide)) (fun _ => (ulC (ulC (ulS (ulS (ulC ulR)))))) (fun _ _ => ?_) ?_
    · refine GH.take 10 (v := (.pointer (some ⟨kb, 4, none⟩))) rfl (by kernel_rfl) (by kernel_rfl) (by kernel_rfl) (fun _ _ _ h => h) (Ex.cast (Ex.fieldAddr rfl Try.underlying31 rfl T.sz29 (by decide)) rfl) (ulC (ulC (ulS (ulS (ulC ulR))))) (by decide) ?_
      refine GH.many (rs := [2, 7]) (by kernel_rfl) (by simp) ?_
      refine GHs.cons rfl (Ex.wp (v := (.pointer (some ⟨kb, 0, none⟩))) (Ex.nilCheck rfl) (by decide)) (fun _ => (ulC (ulC (ulS (ulS (ulC ulR)))))) (fun _ _ => ?_) ?_
      · refine GH.take 3 (v := (.pointer (some ⟨kb, 4, none⟩))) rfl (by kernel_rfl) (by kernel_rfl) (by kernel_rfl) (fun _ _ _ h => h) (Ex.cast (Ex.fieldAddr rfl Try.underlying31 rfl T.sz29 (by decide)) rfl) (ulC (ulC (ulS (ulS (ulC ulR))))) (by decide) ?_
        refine GH.take 4 (v := (.pointer (some ⟨kb, 7, none⟩))) rfl (by kernel_rfl) (by kernel_rfl) (by kernel_rfl) (fun _ _ _ h => h) (Ex.cast (Ex.indexArr (m := 4) rfl rfl Try.underlying29 T.sz28 (by decide) (by decide)) rfl) (ulC (ulC (ulS (ulS (ulC ulR))))) (by decide) ?_
        refine GH.many (rs := [5, 7]) (by kernel_rfl) (by simp) ?_
        refine GHs.cons rfl (Ex.wp (v := (.slice (some ⟨b2, 0, none⟩) n1 c2)) (Ex.load rfl T.ag28 (i := 2) rfl rfl) (by decide)) (fun _ => (ulC (ulC (ulS (ulS (ulC ulR)))))) (fun _ _ => ?_) ?_
        · refine GH.one 7 rfl (by kernel_rfl) (Stp.buildSlice (cs := [(.int .i64 m)]) (vs := [(0, (.int .i64 m))]) Try.underlying28 T.zr3 T.sz3 rfl (by decide) (by decide) (by first | rfl | kernel_rfl) (by decide)) (fun _ => (ulS (ulC (ulC (ulS (ulS (ulC ulR))))))) (fun bq37 _ => ?_)
          refine GH.one 8 rfl (by kernel_rfl) (Stp.appendOwn (i := 4) (xs := xs2) (sp := sp2) (vs := [(.int .i64 m)]) (L1 := (⟨bq37, [(.int .i64 m)], 3, true⟩ :: ⟨xq5.1, xs1 ++ [(.slice (some ⟨b, 0, none⟩) cap cap)] ++ xq5.2.2, 28, true⟩ :: ⟨bq4, [(.slice (some ⟨b, 0, none⟩) cap cap)], 28, true⟩ :: ⟨kb, [(.slice none 0 0), (.slice none 0 0), (.slice none 0 0), (.slice (some ⟨xq5.1, 0, none⟩) (n1 + 1) xq5.2.1), (.slice none 0 0), (.slice none 0 0), (.slice none 0 0), (.slice (some ⟨b2, 0, none⟩) n1 c2)], 31, true⟩ :: ⟨b, mkvI m cap, 3, true⟩ :: R)) rfl rfl Try.underlying28 T.sz3 T.zr3 rfl T.by3 rfl (by omega) hc2 (fun wz hz => hz.rdOf (i := 0) rfl 0) rfl rfl (by omega) (by omega) rfl (by decide)) (fun _ => (ulS (ulS (ulC (ulC (ulS (ulC ulR))))))) (fun xq38 hq39 => ?_)
          refine GH.take 11 (v := (.pointer (some ⟨kb, 7, none⟩))) rfl (by kernel_rfl) (by kernel_rfl) (by kernel_rfl) (fun _ _ _ h => h) (Ex.cast (Ex.indexArr (m := 4) rfl rfl Try.underlying29 T.sz28 (by decide) (by decide)) rfl) (ulS (ulS (ulC (ulC (ulS (ulC ulR)))))) (by decide) ?_
          refine GH.one 12 rfl (by kernel_rfl) (Stp.st4 (cs' := [(.slice none 0 0), (.slice none 0 0), (.slice none 0 0), (.slice (some ⟨xq5.1, 0, none⟩) (n1 + 1) xq5.2.1), (.slice none 0 0), (.slice none 0 0), (.slice none 0 0), (.slice (some ⟨xq38.1, 0, none⟩) (n1 + 1) xq38.2.1)]) rfl rfl rfl T.sz28 rfl rfl rfl) (fun _ => (ulS (ulS (ulC (ulC (ulS (ulC ulR))))))) (fun _ _ => ?_)
          refine GH.done (by kernel_rfl) ?_
          refine GC.end0 rfl (fun wN HN => ?_)
          exact HN.frm (xq38, xq5) ⟨hq6.1, hq39.1⟩ (by rfl) (ulC (ulS (ulC (ulS (ulC (ulC ulR))))))
        refine GHs.cons rfl (Stp.buildSlice (cs := [(.int .i64 m)]) (vs := [(0, (.int .i64 m))]) Try.underlying28 T.zr3 T.sz3 rfl (by decide) (by decide) (by first | rfl | kernel_rfl) (by decide)) (fun _ => (ulS (ulC (ulC (ulS (ulS (ulC ulR))))))) (fun bq40 _ => ?_) ?_
        · refine GH.one 5 rfl (by kernel_rfl) (Ex.wp (v := (.slice (some ⟨b2, 0, none⟩) n1 c2)) (Ex.load rfl T.ag28 (i := 3) rfl rfl) (by decide)) (fun _ => (ulS (ulC (ulC (ulS (ulS (ulC ulR))))))) (fun _ _ => ?_)
          refine GH.one 8 rfl (by kernel_rfl) (Stp.appendOwn (i := 4) (xs := xs2) (sp := sp2) (vs := [(.int .i64 m)]) (L1 := (⟨bq40, [(.int .i64 m)], 3, true⟩ :: ⟨xq5.1, xs1 ++ [(.slice (some ⟨b, 0, none⟩) cap cap)] ++ xq5.2.2, 28, true⟩ :: ⟨bq4, [(.slice (some ⟨b, 0, none⟩) cap cap)], 28, true⟩ :: ⟨kb, [(.slice none 0 0), (.slice none 0 0), (.slice none 0 0), (.slice (some ⟨xq5.1, 0, none⟩) (n1 + 1) xq5.2.1), (.slice none 0 0), (.slice none 0 0), (.slice none 0 0), (.slice (some ⟨b2, 0, none⟩) n1 c2)], 31, true⟩ :: ⟨b, mkvI m cap, 3, true⟩ :: R)) rfl rfl Try.underlying28 T.sz3 T.zr3 rfl T.by3 rfl (by omega) hc2 (fun wz hz => hz.rdOf (i := 0) rfl 0) rfl rfl (by omega) (by omega) rfl (by decide)) (fun _ => (ulS (ulS (ulC (ulC (ulS (ulC ulR))))))) (fun xq41 hq42 => ?_)
          refine GH.take 11 (v := (.pointer (some ⟨kb, 7, none⟩))) rfl (by kernel_rfl) (by kernel_rfl) (by kernel_rfl) (fun _ _ _ h => h) (Ex.cast (Ex.indexArr (m := 4) rfl rfl Try.underlying29 T.sz28 (by decide) (by decide)) rfl) (ulS (ulS (ulC (ulC (ulS (ulC ulR)))))) (by decide) ?_
          refine GH.one 12 rfl (by kernel_rfl) (Stp.st4 (cs' := [(.slice none 0 0), (.slice none 0 0), (.slice none 0 0), (.slice (some ⟨xq5.1, 0, none⟩) (n1 + 1) xq5.2.1), (.slice none 0 0), (.slice none 0 0), (.slice none 0 0), (.slice (some ⟨xq41.1, 0, none⟩) (n1 + 1) xq41.2.1)]) rfl rfl rfl T.sz28 rfl rfl rfl) (fun _ => (ulS (ulS (ulC (ulC (ulS (ulC ulR))))))) (fun _ _ => ?_)
          refine GH.done (by kernel_rfl) ?_
          refine GC.end0 rfl (fun wN HN => ?_)
          exact HN.frm (xq41, xq5) ⟨hq6.1, hq42.1⟩ (by rfl) (ulC (ulS (ulC (ulS (ulC (ulC ulR))))))
        exact GHs.nil
      refine GHs.cons rfl (Stp.buildSlice (cs := [(.int .i64 m)]) (vs := [(0, (.int .i64 m))]) Try.underlying28 T.zr3 T.sz3 rfl (by decide) (by decide) (by first | rfl | kernel_rfl) (by decide)) (fun _ => (ulS (ulC (ulC (ulS (ulS (ulC ulR))))))) (fun bq43 _ => ?_) ?_
      · refine GH.one 2 rfl (by kernel_rfl) (Ex.wp (v := (.pointer (some ⟨kb, 0, none⟩))) (Ex.nilCheck rfl) (by decide)) (fun _ => (ulS (ulC (ulC (ulS (ulS (ulC ulR))))))) (fun _ _ => ?_)
        refine GH.take 3 (v := (.pointer (some ⟨kb, 4, none⟩))) rfl (by kernel_rfl) (by kernel_rfl) (by kernel_rfl) (fun _ _ _ h => h) (Ex.cast (Ex.fieldAddr rfl Try.underlying31 rfl T.sz29 (by decide)) rfl) (ulS (ulC (ulC (ulS (ulS (ulC ulR)))))) (by decide) ?_
        refine GH.take 4 (v := (.pointer (some ⟨kb, 7, none⟩))) rfl (by kernel_rfl) (by kernel_rfl) (by kernel_rfl) (fun _ _ _ h => h) (Ex.cast (Ex.indexArr (m := 4) rfl rfl Try.underlying29 T.sz28 (by decide) (by decide)) rfl) (ulS (ulC (ulC (ulS (ulS (ulC ulR)))))) (by decide) ?_
        refine GH.one 5 rfl (by kernel_rfl) (Ex.wp (v := (.slice (some ⟨b2, 0, none⟩) n1 c2)) (Ex.load rfl T.ag28 (i := 3) rfl rfl) (by decide)) (fun _ => (ulS (ulC (ulC (ulS (ulS (ulC ulR))))))) (fun _ _ => ?_)
        refine GH.one 8 rfl (by kernel_rfl) (Stp.appendOwn (i := 4) (xs := xs2) (sp := sp2) (vs := [(.int .i64 m)]) (L1 := (⟨bq43, [(.int .i64 m)], 3, true⟩ :: ⟨xq5.1, xs1 ++ [(.slice (some ⟨b, 0, none⟩) cap cap)] ++ xq5.2.2, 28, true⟩ :: ⟨bq4, [(.slice (some ⟨b, 0, none⟩) cap cap)], 28, true⟩ :: ⟨kb, [(.slice none 0 0), (.slice none 0 0), (.slice none 0 0), (.slice (some ⟨xq5.1, 0, none⟩) (n1 + 1) xq5.2.1), (.slice none 0 0), (.slice none 0 0), (.slice none 0 0), (.slice (some ⟨b2, 0, none⟩) n1 c2)], 31, true⟩ :: ⟨b, mkvI m cap, 3, true⟩ :: R)) rfl rfl Try.underlying28 T.sz3 T.zr3 rfl T.by3 rfl (by omega) hc2 (fun wz hz => hz.rdOf (i := 0) rfl 0) rfl rfl (by omega) (by omega) rfl (by decide)) (fun _ => (ulS (ulS (ulC (ulC (ulS (ulC ulR))))))) (fun xq44 hq45 => ?_)
        refine GH.take 11 (v := (.pointer (some ⟨kb, 7, none⟩))) rfl (by kernel_rfl) (by kernel_rfl) (by kernel_rfl) (fun _ _ _ h => h) (Ex.cast (Ex.indexArr (m := 4) rfl rfl Try.underlying29 T.sz28 (by decide) (by decide)) rfl) (ulS (ulS (ulC (ulC (ulS (ulC ulR)))))) (by decide) ?_
        refine GH.one 12 rfl (by kernel_rfl) (Stp.st4 (cs' := [(.slice none 0 0), (.slice none 0 0), (.slice none 0 0), (.slice (some ⟨xq5.1, 0, none⟩) (n1 + 1) xq5.2.1), (.slice none 0 0), (.slice none 0 0), (.slice none 0 0), (.slice (some ⟨xq44.1, 0, none⟩) (n1 + 1) xq44.2.1)]) rfl rfl rfl T.sz28 rfl rfl rfl) (fun _ => (ulS (ulS (ulC (ulC (ulS (ulC ulR))))))) (fun _ _ => ?_)
        refine GH.done (by kernel_rfl) ?_
        refine GC.end0 rfl (fun wN HN => ?_)
        exact HN.frm (xq44, xq5) ⟨hq6.1, hq45.1⟩ (by rfl) (ulC (ulS (ulC (ulS (ulC (ulC ulR))))))
      exact GHs.nil
    exact GHs.nil

set_option maxRecDepth 100000 in
set_option maxHeartbeats 1000000 in
theorem booki_hold (kb n1 b1 c1 b2 c2 : Nat) (its : List It) (sp1 sp2 : List Value) (w : World) (hn1 : its.length = n1) (hn2 : n1 ≤ 1000) (hit : ∀ t ∈ its, It.OkI w t) (hh : Has w [⟨kb, [(.slice none 0 0), (.slice none 0 0), (.slice none 0 0), (.slice (some ⟨b1, 0, none⟩) n1 c1), (.slice none 0 0), (.slice none 0 0), (.slice none 0 0), (.slice (some ⟨b2, 0, none⟩) n1 c2)], 31, false⟩, ⟨b1, its.map It.v ++ sp1, 28, false⟩, ⟨b2, its.map It.mv ++ sp2, 3, false⟩]) :
    Calls Try.prog 18 #[(.pointer (some ⟨kb, 0, none⟩))] w (Ret w (fun _ : Unit => True) (fun _ => .bool true) (fun _ => [])) := by
  refine enter (M := None) (L := [⟨kb, [(.slice none 0 0), (.slice none 0 0), (.slice none 0 0), (.slice (some ⟨b1, 0, none⟩) n1 c1), (.slice none 0 0), (.slice none 0 0), (.slice none 0 0), (.slice (some ⟨b2, 0, none⟩) n1 c2)], 31, false⟩, ⟨b1, its.map It.v ++ sp1, 28, false⟩, ⟨b2, its.map It.mv ++ sp2, 3, false⟩]) (n := 182) (l := [(0, (.pointer (some ⟨kb, 0, none⟩)))]) Try.func18 rfl rfl (Args.cons rfl (Args.nil _)) (Hp.reads hh rfl) ?_
  refine GC.seq ?_
  refine GC.region ?_
  refine GL.val (Ex.assign rfl) (by decide) ?_
  refine GL.nil ?_
  refine GE.thenN ?_
  refine GC.seq ?_
  refine GC.seq ?_
  refine GC.region ?_
  refine GL.val (Ex.assign rfl) (by decide) ?_
  refine GL.nil ?_
  refine GE.thenN ?_
  refine GC.block ?_
  refine GC.unroll 1 ?_
  refine GE.round ?_
  refine GC.seq ?_
  refine GC.seq ?_
  refine GC.region ?_
  refine GL.val (Ex.move rfl) (by decide) ?_
  refine GL.val (Ex.move rfl) (by decide) ?_
  refine GL.val (v := (.pointer (some ⟨kb, 0, none⟩))) (Ex.nilCheck rfl) (by decide) ?_
  refine GL.val (v := (.pointer (some ⟨kb, 0, none⟩))) (Ex.cast (Ex.fieldAddr rfl Try.underlying31 rfl T.sz24 (by decide)) rfl) (by decide) ?_
  refine GL.val (Ex.load rfl T.ag24 (i := 0) rfl rfl) (by decide) ?_
  refine GL.val (v := (.int .i64 0)) (Ex.len rfl Try.underlying24) (by decide) ?_
  refine GL.val (v := (.bool false)) (Ex.cast (Ex.lss rfl rfl) rfl) (by decide) ?_
  refine GL.nil ?_
  refine GE.thenN ?_
  refine GC.cond rfl (fun hq1 => by cases hq1) (fun _ => ?_)
  refine GC.exit ?_
  refine GE.thenE ?_
  refine GE.thenE ?_
  refine GE.blockE ?_
  refine GE.thenN ?_
  refine GC.seq ?_
  refine GC.seq ?_
  refine GC.region ?_
  refine GL.val (Ex.assign rfl) (by decide) ?_
  refine GL.nil ?_
  refine GE.thenN ?_
  refine GC.block ?_
  refine GC.unroll 1 ?_
  refine GE.round ?_
  refine GC.seq ?_
  refine GC.seq ?_
  refine GC.region ?_
  refine GL.val (Ex.move rfl) (by decide) ?_
  refine GL.val (Ex.move rfl) (by decide) ?_
  refine GL.val (v := (.pointer (some ⟨kb, 0, none⟩))) (Ex.nilCheck rfl) (by decide) ?_
  refine GL.val (v := (.pointer (some ⟨kb, 1, none⟩))) (Ex.cast (Ex.fieldAddr rfl Try.underlying31 rfl T.sz25 (by decide)) rfl) (by decide) ?_
  refine GL.val (Ex.load rfl T.ag25 (i := 0) rfl rfl) (by decide) ?_
  refine GL.val (v := (.int .i64 0)) (Ex.len rfl Try.underlying25) (by decide) ?_
  refine GL.val (v := (.bool false)) (Ex.cast (Ex.lss rfl rfl) rfl) (by decide) ?_
  refine GL.nil ?_
  refine GE.thenN ?_
  refine GC.cond rfl (fun hq2 => by cases hq2) (fun _ => ?_)
  refine GC.exit ?_
  refine GE.thenE ?_
  refine GE.thenE ?_
  refine GE.blockE ?_
  refine GE.thenN ?_
  refine GC.seq ?_
  refine GC.seq ?_
  refine GC.region ?_
  refine GL.val (Ex.assign rfl) (by decide) ?_
  refine GL.nil ?_
  refine GE.thenN ?_
  refine GC.block ?_
  refine GC.unroll 1 ?_
  refine GE.round ?_
  refine GC.seq ?_
  refine GC.seq ?_
  refine GC.region ?_
  refine GL.val (Ex.move rfl) (by decide) ?_
  refine GL.val (Ex.move rfl) (by decide) ?_
  refine GL.val (v := (.pointer (some ⟨kb, 0, none⟩))) (Ex.nilCheck rfl) (by decide) ?_
  refine GL.val (v := (.pointer (some ⟨kb, 2, none⟩))) (Ex.cast (Ex.fieldAddr rfl Try.underlying31 rfl T.sz26 (by decide)) rfl) (by decide) ?_
  refine GL.val (Ex.load rfl T.ag26 (i := 0) rfl rfl) (by decide) ?_
  refine GL.val (v := (.int .i64 0)) (Ex.len rfl Try.underlying26) (by decide) ?_
  refine GL.val (v := (.bool false)) (Ex.cast (Ex.lss rfl rfl) rfl) (by decide) ?_
  refine GL.nil ?_
  refine GE.thenN ?_
  refine GC.cond rfl (fun hq3 => by cases hq3) (fun _ => ?_)
  refine GC.exit ?_
  refine GE.thenE ?_
  refine GE.thenE ?_
  refine GE.blockE ?_
  refine GE.thenN ?_
  refine GC.seq ?_
  refine GC.seq ?_
  refine GC.region ?_
  refine GL.val (Ex.assign rfl) (by decide) ?_
  refine GL.nil ?_
  refine GE.thenN ?_
  refine GC.block ?_
  refine GC.loop (σ := Nat) (fun n => n ≤ n1) (fun n => [(0, (.pointer (some ⟨kb, 0, none⟩))), (9, (.int .i64 (((n : Nat) : Int))))]) (fun n => [⟨kb, [(.slice none 0 0), (.slice none 0 0), (.slice none 0 0), (.slice (some ⟨b1, 0, none⟩) n1 c1), (.slice none 0 0), (.slice none 0 0), (.slice none 0 0), (.slice (some ⟨b2, 0, none⟩) n1 c2)], 31, false⟩, ⟨b1, its.map It.v ++ sp1, 28, false⟩, ⟨b2, its.map It.mv ++ sp2, 3, false⟩]) (fun n => n1 - n) (0) (Nat.zero_le _) ((sub_cons rfl ((sub_cons rfl ((sub_nil _)))))) (ulC (ulC (ulC ulN))) (fun n hp => ?_)
  refine GC.seq ?_
  refine GC.seq ?_
  refine GC.region ?_
  refine GL.val (Ex.move rfl) (by decide) ?_
  refine GL.val (Ex.move rfl) (by decide) ?_
  refine GL.val (v := (.pointer (some ⟨kb, 0, none⟩))) (Ex.nilCheck rfl) (by decide) ?_
  refine GL.val (v := (.pointer (some ⟨kb, 3, none⟩))) (Ex.cast (Ex.fieldAddr rfl Try.underlying31 rfl T.sz27 (by decide)) rfl) (by decide) ?_
  refine GL.val (Ex.load rfl T.ag27 (i := 0) rfl rfl) (by decide) ?_
  refine GL.val (v := (.int .i64 ((n1 : Int)))) (Ex.len rfl Try.underlying27) (by decide) ?_
  refine GL.val (v := (.bool (decide ((((n : Nat) : Int)) < ((n1 : Int)))))) (Ex.lss rfl rfl) (by decide) ?_
  refine GL.nil ?_
  refine GE.thenN ?_
  refine GC.cond rfl (fun hq4 => ?_) (fun hq4 => ?_)
  · replace hq4 := of_decide_eq_true hq4
    refine GC.skip ?_
    refine GE.thenN ?_
    refine GC.seq ?_
    refine GC.block ?_
    refine GC.seq ?_
    have hnl : n < its.length := by omega
    have hio := it_okI hnl hit
    refine GC.region ?_
    refine GL.val (Ex.assign rfl) (by decide) ?_
    refine GL.nil ?_
    refine GE.thenN ?_
    refine GC.block ?_
    refine GC.loop (σ := Nat) (fun k => k ≤ (itAt its n).cap) (fun k => [(0, (.pointer (some ⟨kb, 0, none⟩))), (9, (.int .i64 (((n : Nat) : Int)))), (10, (.int .i64 (((k : Nat) : Int))))]) (fun k => [⟨kb, [(.slice none 0 0), (.slice none 0 0), (.slice none 0 0), (.slice (some ⟨b1, 0, none⟩) n1 c1), (.slice none 0 0), (.slice none 0 0), (.slice none 0 0), (.slice (some ⟨b2, 0, none⟩) n1 c2)], 31, false⟩, ⟨b1, its.map It.v ++ sp1, 28, false⟩, ⟨b2, its.map It.mv ++ sp2, 3, false⟩]) (fun k => (itAt its n).cap - k) (0) (Nat.zero_le _) ((sub_cons rfl ((sub_cons rfl ((sub_cons rfl ((sub_nil _)))))))) (ulC (ulC (ulC ulN))) (fun k hp => ?_)
    refine GC.seq ?_
    refine GC.seq ?_
    refine GC.region ?_
    refine GL.val (Ex.move rfl) (by decide) ?_
    refine GL.val (Ex.move rfl) (by decide) ?_
    refine GL.val (v := (.pointer (some ⟨kb, 0, none⟩))) (Ex.nilCheck rfl) (by decide) ?_
    refine GL.val (v := (.pointer (some ⟨kb, 3, none⟩))) (Ex.cast (Ex.fieldAddr rfl Try.underlying31 rfl T.sz27 (by decide)) rfl) (by decide) ?_
    refine GL.val (Ex.load rfl T.ag27 (i := 0) rfl rfl) (by decide) ?_
    refine GL.val (Ex.move rfl) (by decide) ?_
    refine GL.val (v := (.pointer (some ⟨b1, n, none⟩))) (Ex.cast (Ex.indexAddr rfl rfl Try.underlying27 T.sz28 (by omega) (by omega)) (by simp)) (by decide) ?_
    refine GL.val (Ex.load rfl T.ag28 (i := 1) rfl (it_at hnl sp1)) (by decide) ?_
    refine GL.val (v := (.int .i64 ((((itAt its n).cap) : Int)))) (Ex.len rfl Try.underlying28) (by decide) ?_
    refine GL.val (v := (.bool (decide ((((k : Nat) : Int)) < ((((itAt its n).cap) : Int)))))) (Ex.lss rfl rfl) (by decide) ?_
    refine GL.nil ?_
    refine GE.thenN ?_
    refine GC.cond rfl (fun hq5 => ?_) (fun hq5 => ?_)
    · replace hq5 := of_decide_eq_true hq5
      refine GC.skip ?_
      refine GE.thenN ?_
      refine GC.seq ?_
      refine GC.block ?_
      refine GC.seq ?_
      obtain ⟨bi, hbi, hri⟩ := hio.2.resolve_left (by omega)
      refine GC.draw [⟨kb, [(.slice none 0 0), (.slice none 0 0), (.slice none 0 0), (.slice (some ⟨b1, 0, none⟩) n1 c1), (.slice none 0 0), (.slice none 0 0), (.slice none 0 0), (.slice (some ⟨b2, 0, none⟩) n1 c2)], 31, false⟩, ⟨b1, its.map It.v ++ sp1, 28, false⟩, ⟨b2, its.map It.mv ++ sp2, 3, false⟩] T.mixed (fuel := 21) rfl rfl ?_
      refine GH.take 0 (v := (.pointer (some ⟨kb, 0, none⟩))) rfl (by kernel_rfl) (by kernel_rfl) (by kernel_rfl) (fun _ _ _ h => h) (Ex.move rfl) (ulC (ulC (ulC ulN))) (by decide) ?_
      refine GH.take 4 (v := (.int .i64 (((n : Nat) : Int)))) rfl (by kernel_rfl) (by kernel_rfl) (by kernel_rfl) (fun _ _ _ h => h) (Ex.move rfl) (ulC (ulC (ulC ulN))) (by decide) ?_
      refine GH.take 7 (v := (.int .i64 (((k : Nat) : Int)))) rfl (by kernel_rfl) (by kernel_rfl) (by kernel_rfl) (fun _ _ _ h => h) (Ex.move rfl) (ulC (ulC (ulC ulN))) (by decide) ?_
      refine GH.take 10 (v := (.pointer (some ⟨kb, 0, none⟩))) rfl (by kernel_rfl) (by kernel_rfl) (by kernel_rfl) (fun _ _ _ h => h) (Ex.move rfl) (ulC (ulC (ulC ulN))) (by decide) ?_
      refine GH.take 15 (v := (.int .i64 (((n : Nat) : Int)))) rfl (by kernel_rfl) (by kernel_rfl) (by kernel_rfl) (fun _ _ _ h => h) (Ex.move rfl) (ulC (ulC (ulC ulN))) (by decide) ?_
      refine GH.take 18 (v := (.int .i64 (((k : Nat) : Int)))) rfl (by kernel_rfl) (by kernel_rfl) (by kernel_rfl) (fun _ _ _ h => h) (Ex.move rfl) (ulC (ulC (ulC ulN))) (by decide) ?_
      refine GH.many (rs := [1, 11]) (by kernel_rfl) (by simp) ?_
      refine GHs.cons rfl (Ex.wp (v := (.pointer (some ⟨kb, 0, none⟩))) (Ex.nilCheck rfl) (by decide)) (fun _ => (ulC (ulC (ulC ulN)))) (fun _ _ => ?_) ?_
      · refine GH.take 2 (v := (.pointer (some ⟨kb, 3, none⟩))) rfl (by kernel_rfl) (by kernel_rfl) (by kernel_rfl) (fun _ _ _ h => h) (Ex.cast (Ex.fieldAddr rfl Try.underlying31 rfl T.sz27 (by decide)) rfl) (ulC (ulC (ulC ulN))) (by decide) ?_
        refine GH.take 3 (v := (.slice (some ⟨b1, 0, none⟩) n1 c1)) rfl (by kernel_rfl) (by kernel_rfl) (by kernel_rfl) (fun _ _ _ h => h) (Ex.load rfl T.ag27 (i := 0) rfl rfl) (ulC (ulC (ulC ulN))) (by decide) ?_
        refine GH.take 5 (v := (.pointer (some ⟨b1, n, none⟩))) rfl (by kernel_rfl) (by kernel_rfl) (by kernel_rfl) (fun _ _ _ h => h) (Ex.cast (Ex.indexAddr rfl rfl Try.underlying27 T.sz28 (by omega) (by omega)) (by simp)) (ulC (ulC (ulC ulN))) (by decide) ?_
        refine GH.take 6 (v := (.slice (some ⟨bi, 0, none⟩) ((itAt its n).cap) ((itAt its n).cap))) rfl (by kernel_rfl) (by kernel_rfl) (by kernel_rfl) (fun _ _ _ h => h) (Ex.load rfl T.ag28 (i := 1) rfl (by rw [← hbi]; exact it_at hnl sp1)) (ulC (ulC (ulC ulN))) (by decide) ?_
        refine GH.take 8 (v := (.pointer (some ⟨bi, k, none⟩))) rfl (by kernel_rfl) (by kernel_rfl) (by kernel_rfl) (fun _ _ _ h => h) (Ex.cast (Ex.indexAddr rfl rfl Try.underlying28 T.sz3 (by omega) (by omega)) (by simp)) (ulC (ulC (ulC ulN))) (by decide) ?_
        refine GH.take 9 (v := (.int .i64 (mkI ((itAt its n).m) (((k : Nat) : Int))))) rfl (by kernel_rfl) (by kernel_rfl) (by kernel_rfl) (fun _ _ _ h => h) (Ex.loadO rfl T.ag3 (Rd.mkatI hri (by omega)) (fun x => x)) (ulC (ulC (ulC ulN))) (by decide) ?_
        refine GH.one 11 rfl (by kernel_rfl) (Ex.wp (v := (.pointer (some ⟨kb, 0, none⟩))) (Ex.nilCheck rfl) (by decide)) (fun _ => (ulC (ulC (ulC ulN)))) (fun _ _ => ?_)
        refine GH.take 12 (v := (.pointer (some ⟨kb, 4, none⟩))) rfl (by kernel_rfl) (by kernel_rfl) (by kernel_rfl) (fun _ _ _ h => h) (Ex.cast (Ex.fieldAddr rfl Try.underlying31 rfl T.sz29 (by decide)) rfl) (ulC (ulC (ulC ulN))) (by decide) ?_
        refine GH.take 13 (v := (.pointer (some ⟨kb, 7, none⟩))) rfl (by kernel_rfl) (by kernel_rfl) (by kernel_rfl) (fun _ _ _ h => h) (Ex.cast (Ex.indexArr (m := 4) rfl rfl Try.underlying29 T.sz28 (by decide) (by decide)) rfl) (ulC (ulC (ulC ulN))) (by decide) ?_
        refine GH.take 14 (v := (.slice (some ⟨b2, 0, none⟩) n1 c2)) rfl (by kernel_rfl) (by kernel_rfl) (by kernel_rfl) (fun _ _ _ h => h) (Ex.load rfl T.ag28 (i := 0) rfl rfl) (ulC (ulC (ulC ulN))) (by decide) ?_
        refine GH.take 16 (v := (.pointer (some ⟨b2, n, none⟩))) rfl (by kernel_rfl) (by kernel_rfl) (by kernel_rfl) (fun _ _ _ h => h) (Ex.cast (Ex.indexAddr rfl rfl Try.underlying28 T.sz3 (by omega) (by omega)) (by simp)) (ulC (ulC (ulC ulN))) (by decide) ?_
        refine GH.take 17 (v := (.int .i64 ((itAt its n).m))) rfl (by kernel_rfl) (by kernel_rfl) (by kernel_rfl) (fun _ _ _ h => h) (Ex.load rfl T.ag3 (i := 2) rfl (it_mv hnl sp2)) (ulC (ulC (ulC ulN))) (by decide) ?_
        refine GH.one 19 rfl (by kernel_rfl) (Stp.callR (vs := [(.int .i64 ((itAt its n).m)), (.int .i64 (((k : Nat) : Int)))]) rfl rfl T.own39 (by decide) (fun wc hw => bkmark ((itAt its n).m) (((k : Nat) : Int)) wc)) (fun _ => (ulC (ulC (ulC ulN)))) (fun xq6 hq7 => ?_)
        refine GH.take 20 (v := (.bool false)) rfl (by kernel_rfl) (by kernel_rfl) (by kernel_rfl) (fun _ _ _ h => h) (Ex.cast (Ex.neq rfl rfl) (congrArg Value.bool (decide_eq_false (by simp)))) (ulC (ulC (ulC ulN))) (by decide) ?_
        refine GH.done (by kernel_rfl) ?_
        refine GE.thenN ?_
        refine GC.cond rfl (fun hq8 => by cases hq8) (fun _ => ?_)
        refine GC.skip ?_
        refine GE.blockN ?_
        refine GE.thenN ?_
        refine GC.region ?_
        refine GL.val (Ex.move rfl) (by decide) ?_
        refine GL.val (v := (.int .i64 (((k + 1 : Nat) : Int)))) (Ex.add rfl rfl (Z := ((k + 1 : Nat) : Int)) (by rw [w64 (by have := hio.1; omega)]; rfl)) (by decide) ?_
        refine GL.val (Ex.assign rfl) (by decide) ?_
        refine GL.nil ?_
        refine GE.thenN ?_
        exact Head.mk (k + 1) (by omega) (by omega) ((sub_cons rfl ((sub_cons rfl ((sub_cons rfl ((sub_nil _)))))))) (ulC (ulC (ulC ulN)))
      refine GHs.cons rfl (Ex.wp (v := (.pointer (some ⟨kb, 0, none⟩))) (Ex.nilCheck rfl) (by decide)) (fun _ => (ulC (ulC (ulC ulN)))) (fun _ _ => ?_) ?_
      · refine GH.take 12 (v := (.pointer (some ⟨kb, 4, none⟩))) rfl (by kernel_rfl) (by kernel_rfl) (by kernel_rfl) (fun _ _ _ h => h) (Ex.cast (Ex.fieldAddr rfl Try.underlying31 rfl T.sz29 (by decide)) rfl) (ulC (ulC (ulC ulN))) (by decide) ?_
        refine GH.take 13 (v := (.pointer (some ⟨kb, 7, none⟩))) rfl (by kernel_rfl) (by kernel_rfl) (by kernel_rfl) (fun _ _ _ h => h) (Ex.cast (Ex.indexArr (m := 4) rfl rfl Try.underlying29 T.sz28 (by decide) (by decide)) rfl) (ulC (ulC (ulC ulN))) (by decide) ?_
        refine GH.take 14 (v := (.slice (some ⟨b2, 0, none⟩) n1 c2)) rfl (by kernel_rfl) (by kernel_rfl) (by kernel_rfl) (fun _ _ _ h => h) (Ex.load rfl T.ag28 (i := 0) rfl rfl) (ulC (ulC (ulC ulN))) (by decide) ?_
        refine GH.take 16 (v := (.pointer (some ⟨b2, n, none⟩))) rfl (by kernel_rfl) (by kernel_rfl) (by kernel_rfl) (fun _ _ _ h => h) (Ex.cast (Ex.indexAddr rfl rfl Try.underlying28 T.sz3 (by omega) (by omega)) (by simp)) (ulC (ulC (ulC ulN))) (by decide) ?_
        refine GH.take 17 (v := (.int .i64 ((itAt its n).m))) rfl (by kernel_rfl) (by kernel_rfl) (by kernel_rfl) (fun _ _ _ h => h) (Ex.load rfl T.ag3 (i := 2) rfl (it_mv hnl sp2)) (ulC (ulC (ulC ulN))) (by decide) ?_
        refine GH.many (rs := [1, 19]) (by kernel_rfl) (by simp) ?_
        refine GHs.cons rfl (Ex.wp (v := (.pointer (some ⟨kb, 0, none⟩))) (Ex.nilCheck rfl) (by decide)) (fun _ => (ulC (ulC (ulC ulN)))) (fun _ _ => ?_) ?_
        · refine GH.take 2 (v := (.pointer (some ⟨kb, 3, none⟩))) rfl (by kernel_rfl) (by kernel_rfl) (by kernel_rfl) (fun _ _ _ h => h) (Ex.cast (Ex.fieldAddr rfl Try.underlying31 rfl T.sz27 (by decide)) rfl) (ulC (ulC (ulC ulN))) (by decide) ?_
          refine GH.take 3 (v := (.slice (some ⟨b1, 0, none⟩) n1 c1)) rfl (by kernel_rfl) (by kernel_rfl) (by kernel_rfl) (fun _ _ _ h => h) (Ex.load rfl T.ag27 (i := 0) rfl rfl) (ulC (ulC (ulC ulN))) (by decide) ?_
          refine GH.take 5 (v := (.pointer (some ⟨b1, n, none⟩))) rfl (by kernel_rfl) (by kernel_rfl) (by kernel_rfl) (fun _ _ _ h => h) (Ex.cast (Ex.indexAddr rfl rfl Try.underlying27 T.sz28 (by omega) (by omega)) (by simp)) (ulC (ulC (ulC ulN))) (by decide) ?_
          refine GH.take 6 (v := (.slice (some ⟨bi, 0, none⟩) ((itAt its n).cap) ((itAt its n).cap))) rfl (by kernel_rfl) (by kernel_rfl) (by kernel_rfl) (fun _ _ _ h => h) (Ex.load rfl T.ag28 (i := 1) rfl (by rw [← hbi]; exact it_at hnl sp1)) (ulC (ulC (ulC ulN))) (by decide) ?_
          refine GH.take 8 (v := (.pointer (some ⟨bi, k, none⟩))) rfl (by kernel_rfl) (by kernel_rfl) (by kernel_rfl) (fun _ _ _ h => h) (Ex.cast (Ex.indexAddr rfl rfl Try.underlying28 T.sz3 (by omega) (by omega)) (by simp)) (ulC (ulC (ulC ulN))) (by decide) ?_
          refine GH.take 9 (v := (.int .i64 (mkI ((itAt its n).m) (((k : Nat) : Int))))) rfl (by kernel_rfl) (by kernel_rfl) (by kernel_rfl) (fun _ _ _ h => h) (Ex.loadO rfl T.ag3 (Rd.mkatI hri (by omega)) (fun x => x)) (ulC (ulC (ulC ulN))) (by decide) ?_
          refine GH.one 19 rfl (by kernel_rfl) (Stp.callR (vs := [(.int .i64 ((itAt its n).m)), (.int .i64 (((k : Nat) : Int)))]) rfl rfl T.own39 (by decide) (fun wc hw => bkmark ((itAt its n).m) (((k : Nat) : Int)) wc)) (fun _ => (ulC (ulC (ulC ulN)))) (fun xq9 hq10 => ?_)
          refine GH.take 20 (v := (.bool false)) rfl (by kernel_rfl) (by kernel_rfl) (by kernel_rfl) (fun _ _ _ h => h) (Ex.cast (Ex.neq rfl rfl) (congrArg Value.bool (decide_eq_false (by simp)))) (ulC (ulC (ulC ulN))) (by decide) ?_
          refine GH.done (by kernel_rfl) ?_
          refine GE.thenN ?_
          refine GC.cond rfl (fun hq11 => by cases hq11) (fun _ => ?_)
          refine GC.skip ?_
          refine GE.blockN ?_
          refine GE.thenN ?_
          refine GC.region ?_
          refine GL.val (Ex.move rfl) (by decide) ?_
          refine GL.val (v := (.int .i64 (((k + 1 : Nat) : Int)))) (Ex.add rfl rfl (Z := ((k + 1 : Nat) : Int)) (by rw [w64 (by have := hio.1; omega)]; rfl)) (by decide) ?_
          refine GL.val (Ex.assign rfl) (by decide) ?_
          refine GL.nil ?_
          refine GE.thenN ?_
          exact Head.mk (k + 1) (by omega) (by omega) ((sub_cons rfl ((sub_cons rfl ((sub_cons rfl ((sub_nil _)))))))) (ulC (ulC (ulC ulN)))
        refine GHs.cons rfl (Stp.callR (vs := [(.int .i64 ((itAt its n).m)), (.int .i64 (((k : Nat) : Int)))]) rfl rfl T.own39 (by decide) (fun wc hw => bkmark ((itAt its n).m) (((k : Nat) : Int)) wc)) (fun _ => (ulC (ulC (ulC ulN)))) (fun xq12 hq13 => ?_) ?_
        · refine GH.one 1 rfl (by kernel_rfl) (Ex.wp (v := (.pointer (some ⟨kb, 0, none⟩))) (Ex.nilCheck rfl) (by decide)) (fun _ => (ulC (ulC (ulC ulN)))) (fun _ _ => ?_)
          refine GH.take 2 (v := (.pointer (some ⟨kb, 3, none⟩))) rfl (by kernel_rfl) (by kernel_rfl) (by kernel_rfl) (fun _ _ _ h => h) (Ex.cast (Ex.fieldAddr rfl Try.underlying31 rfl T.sz27 (by decide)) rfl) (ulC (ulC (ulC ulN))) (by decide) ?_
          refine GH.take 3 (v := (.slice (some ⟨b1, 0, none⟩) n1 c1)) rfl (by kernel_rfl) (by kernel_rfl) (by kernel_rfl) (fun _ _ _ h => h) (Ex.load rfl T.ag27 (i := 0) rfl rfl) (ulC (ulC (ulC ulN))) (by decide) ?_
          refine GH.take 5 (v := (.pointer (some ⟨b1, n, none⟩))) rfl (by kernel_rfl) (by kernel_rfl) (by kernel_rfl) (fun _ _ _ h => h) (Ex.cast (Ex.indexAddr rfl rfl Try.underlying27 T.sz28 (by omega) (by omega)) (by simp)) (ulC (ulC (ulC ulN))) (by decide) ?_
          refine GH.take 6 (v := (.slice (some ⟨bi, 0, none⟩) ((itAt its n).cap) ((itAt its n).cap))) rfl (by kernel_rfl) (by kernel_rfl) (by kernel_rfl) (fun _ _ _ h => h) (Ex.load rfl T.ag28 (i := 1) rfl (by rw [← hbi]; exact it_at hnl sp1)) (ulC (ulC (ulC ulN))) (by decide) ?_
          refine GH.take 8 (v := (.pointer (some ⟨bi, k, none⟩))) rfl (by kernel_rfl) (by kernel_rfl) (by kernel_rfl) (fun _ _ _ h => h) (Ex.cast (Ex.indexAddr rfl rfl Try.underlying28 T.sz3 (by omega) (by omega)) (by simp)) (ulC (ulC (ulC ulN))) (by decide) ?_
          refine GH.take 9 (v := (.int .i64 (mkI ((itAt its n).m) (((k : Nat) : Int))))) rfl (by kernel_rfl) (by kernel_rfl) (by kernel_rfl) (fun _ _ _ h => h) (Ex.loadO rfl T.ag3 (Rd.mkatI hri (by omega)) (fun x => x)) (ulC (ulC (ulC ulN))) (by decide) ?_
          refine GH.take 20 (v := (.bool false)) rfl (by kernel_rfl) (by kernel_rfl) (by kernel_rfl) (fun _ _ _ h => h) (Ex.cast (Ex.neq rfl rfl) (congrArg Value.bool (decide_eq_false (by simp)))) (ulC (ulC (ulC ulN))) (by decide) ?_
          refine GH.done (by kernel_rfl) ?_
          refine GE.thenN ?_
          refine GC.cond rfl (fun hq14 => by cases hq14) (fun _ => ?_)
          refine GC.skip ?_
          refine GE.blockN ?_
          refine GE.thenN ?_
          refine GC.region ?_
          refine GL.val (Ex.move rfl) (by decide) ?_
          refine GL.val (v := (.int .i64 (((k + 1 : Nat) : Int)))) (Ex.add rfl rfl (Z := ((k + 1 : Nat) : Int)) (by rw [w64 (by have := hio.1; omega)]; rfl)) (by decide) ?_
          refine GL.val (Ex.assign rfl) (by decide) ?_
          refine GL.nil ?_
          refine GE.thenN ?_
          exact Head.mk (k + 1) (by omega) (by omega) ((sub_cons rfl ((sub_cons rfl ((sub_cons rfl ((sub_nil _)))))))) (ulC (ulC (ulC ulN)))
        exact GHs.nil
      exact GHs.nil
    · replace hq5 := of_decide_eq_false hq5
      refine GC.exit ?_
      refine GE.thenE ?_
      refine GE.thenE ?_
      refine GE.blockE ?_
      refine GE.blockN ?_
      refine GE.thenN ?_
      refine GC.region ?_
      refine GL.val (Ex.move rfl) (by decide) ?_
      refine GL.val (v := (.int .i64 (((n + 1 : Nat) : Int)))) (Ex.add rfl rfl (Z := ((n + 1 : Nat) : Int)) (by rw [w64 (by omega)]; rfl)) (by decide) ?_
      refine GL.val (Ex.assign rfl) (by decide) ?_
      refine GL.nil ?_
      refine GE.thenN ?_
      exact Head.mk (n + 1) (by omega) (by omega) ((sub_cons rfl ((sub_cons rfl ((sub_nil _)))))) (ulC (ulC (ulC ulN)))
  · replace hq4 := of_decide_eq_false hq4
    refine GC.exit ?_
    refine GE.thenE ?_
    refine GE.thenE ?_
    refine GE.blockE ?_
    refine GE.thenN ?_
    refine GC.seq ?_
    refine GC.region ?_
    refine GL.val (Ex.assign rfl) (by decide) ?_
    refine GL.nil ?_
    refine GE.thenN ?_
    refine GC.ret ?_
    refine GC.ret1 rfl (Rv.tmp rfl) (fun wN HN => ?_)
    exact HN.ret () trivial rfl (List.nil_sublist _) rfl

set_option maxRecDepth 100000 in
set_option maxHeartbeats 1000000 in
theorem weights_bad (kd r : Int) (w : World) (hb : ¬ (0 ≤ r ∧ r ≤ 7 ∧ (kd = 1 ∨ kd = 2))) :
    Calls Try.prog 14 #[(.int .i64 kd), (.int .i64 r)] w (Ret w (fun _ : Unit => True) (fun _ => .tuple #[.slice none 0 0, .int .i64 110]) (fun _ => [])) := by
  refine enter (M := None) (L := []) (n := 64) (l := [(0, (.int .i64 kd)), (1, (.int .i64 r))]) Try.func14 rfl rfl (Args.cons rfl (Args.cons rfl (Args.nil _))) (Hp.start _ _) ?_
  refine GC.seq ?_
  refine GC.region ?_
  refine GL.val (Ex.assign rfl) (by decide) ?_
  refine GL.val (Ex.assign rfl) (by decide) ?_
  refine GL.nil ?_
  refine GE.thenN ?_
  refine GC.seq ?_
  refine GC.seq ?_
  refine GC.region ?_
  refine GL.val (Ex.move rfl) (by decide) ?_
  by_cases hq1 : r < 0
  · refine GL.val (v := (.bool true)) (Ex.cast (Ex.lss rfl rfl) (congrArg Value.bool (decide_eq_true hq1))) (by decide) ?_
    refine GL.val (Ex.move rfl) (by decide) ?_
    refine GL.skipG (tj := 12) rfl rfl rfl (by decide) ?_
    refine GL.skipG (tj := 12) rfl rfl rfl (by decide) ?_
    refine GL.val (v := (.bool true)) (Ex.pickT rfl rfl) (by decide) ?_
    refine GL.val (Ex.move rfl) (by decide) ?_
    refine GL.skipG (tj := 16) rfl rfl rfl (by decide) ?_
    refine GL.skipG (tj := 16) rfl rfl rfl (by decide) ?_
    refine GL.skipG (tj := 16) rfl rfl rfl (by decide) ?_
    refine GL.skipU (tj := 19) rfl rfl (by decide) ?_
    refine GL.skipU (tj := 19) rfl rfl (by decide) ?_
    refine GL.skipG (tj := 16) rfl rfl rfl (by decide) ?_
    refine GL.val (v := (.bool true)) (Ex.pickT rfl rfl) (by decide) ?_
    refine GL.nil ?_
    refine GE.thenN ?_
    refine GC.cond rfl (fun _ => ?_) (fun hq2 => by cases hq2)
    refine GC.seq ?_
    refine GC.region ?_
    refine GL.val (Ex.assign rfl) (by decide) ?_
    refine GL.val (Ex.assign rfl) (by decide) ?_
    refine GL.nil ?_
    refine GE.thenN ?_
    refine GC.ret ?_
    refine GE.thenR ?_
    refine GC.ret2 rfl (Rv.tmp rfl) (Rv.tmp rfl) (fun wN HN => ?_)
    exact HN.ret () trivial rfl (List.nil_sublist _) rfl
  · refine GL.val (v := (.bool false)) (Ex.cast (Ex.lss rfl rfl) (congrArg Value.bool (decide_eq_false hq1))) (by decide) ?_
    refine GL.val (Ex.move rfl) (by decide) ?_
    refine GL.stepG (tj := 12) rfl rfl (Ex.wp (v := (.int .i64 r)) (Ex.move rfl) (by decide)) (fun _ _ => ?_)
    by_cases hq3 : 7 < r
    · refine GL.stepG (tj := 12) rfl rfl (Ex.wp (v := (.bool true)) (Ex.cast (Ex.gtr rfl rfl) (congrArg Value.bool (decide_eq_true hq3))) (by decide)) (fun _ _ => ?_)
      refine GL.val (v := (.bool true)) (Ex.pickF rfl rfl) (by decide) ?_
      refine GL.val (Ex.move rfl) (by decide) ?_
      refine GL.skipG (tj := 16) rfl rfl rfl (by decide) ?_
      refine GL.skipG (tj := 16) rfl rfl rfl (by decide) ?_
      refine GL.skipG (tj := 16) rfl rfl rfl (by decide) ?_
      refine GL.skipU (tj := 19) rfl rfl (by decide) ?_
      refine GL.skipU (tj := 19) rfl rfl (by decide) ?_
      refine GL.skipG (tj := 16) rfl rfl rfl (by decide) ?_
      refine GL.val (v := (.bool true)) (Ex.pickT rfl rfl) (by decide) ?_
      refine GL.nil ?_
      refine GE.thenN ?_
      refine GC.cond rfl (fun _ => ?_) (fun hq4 => by cases hq4)
      refine GC.seq ?_
      refine GC.region ?_
      refine GL.val (Ex.assign rfl) (by decide) ?_
      refine GL.val (Ex.assign rfl) (by decide) ?_
      refine GL.nil ?_
      refine GE.thenN ?_
      refine GC.ret ?_
      refine GE.thenR ?_
      refine GC.ret2 rfl (Rv.tmp rfl) (Rv.tmp rfl) (fun wN HN => ?_)
      exact HN.ret () trivial rfl (List.nil_sublist _) rfl
    · refine GL.stepG (tj := 12) rfl rfl (Ex.wp (v := (.bool false)) (Ex.cast (Ex.gtr rfl rfl) (congrArg Value.bool (decide_eq_false hq3))) (by decide)) (fun _ _ => ?_)
      refine GL.val (v := (.bool false)) (Ex.pickF rfl rfl) (by decide) ?_
      refine GL.val (Ex.move rfl) (by decide) ?_
      refine GL.stepG (tj := 16) rfl rfl (Ex.wp (v := (.int .i64 kd)) (Ex.move rfl) (by decide)) (fun _ _ => ?_)
      by_cases hq5 : kd ≠ 1
      · refine GL.stepG (tj := 16) rfl rfl (Ex.wp (v := (.bool true)) (Ex.cast (Ex.neq rfl rfl) (congrArg Value.bool (decide_eq_true hq5))) (by decide)) (fun _ _ => ?_)
        refine GL.stepG (tj := 16) rfl rfl (Ex.wp (v := (.bool true)) (Ex.move rfl) (by decide)) (fun _ _ => ?_)
        refine GL.stepG (tj := 19) rfl rfl (Ex.wp (v := (.int .i64 kd)) (Ex.move rfl) (by decide)) (fun _ _ => ?_)
        refine GL.stepG (tj := 19) rfl rfl (Ex.wp (v := (.bool (decide (kd ≠ 2)))) (Ex.neq rfl rfl) (by decide)) (fun _ _ => ?_)
        refine GL.stepG (tj := 16) rfl rfl (Ex.wp (v := (.bool (decide (kd ≠ 2)))) (Ex.pickT rfl rfl) (by decide)) (fun _ _ => ?_)
        refine GL.val (v := (.bool (decide (kd ≠ 2)))) (Ex.pickF rfl rfl) (by decide) ?_
        refine GL.nil ?_
        refine GE.thenN ?_
        refine GC.cond rfl (fun hq6 => ?_) (fun hq6 => ?_)
        · replace hq6 := of_decide_eq_true hq6
          refine GC.seq ?_
          refine GC.region ?_
          refine GL.val (Ex.assign rfl) (by decide) ?_
          refine GL.val (Ex.assign rfl) (by decide) ?_
          refine GL.nil ?_
          refine GE.thenN ?_
          refine GC.ret ?_
          refine GE.thenR ?_
          refine GC.ret2 rfl (Rv.tmp rfl) (Rv.tmp rfl) (fun wN HN => ?_)
          exact HN.ret () trivial rfl (List.nil_sublist _) rfl
        · replace hq6 := of_decide_eq_false hq6
          exfalso; omega
      · exfalso; omega

set_option maxRecDepth 100000 in
set_option maxHeartbeats 1000000 in
theorem ref_weights_bad (kd r : Int) (w : World) (hb : ¬ (0 ≤ r ∧ r ≤ 7 ∧ (kd = 1 ∨ kd = 2))) :
    Calls Try.prog 13 #[(.int .i64 kd), (.int .i64 r)] w (Ret w (fun _ : Unit => True) (fun _ => .tuple #[.slice none 0 0, .int .i64 110]) (fun _ => [])) := by
  refine enter (M := None) (L := []) (n := 51) (l := [(0, (.int .i64 kd)), (1, (.int .i64 r))]) Try.func13 rfl rfl (Args.cons rfl (Args.cons rfl (Args.nil _))) (Hp.start _ _) ?_
  refine GC.seq ?_
  refine GC.region ?_
  refine GL.val (Ex.assign rfl) (by decide) ?_
  refine GL.val (Ex.assign rfl) (by decide) ?_
  refine GL.nil ?_
  refine GE.thenN ?_
  refine GC.seq ?_
  refine GC.seq ?_
  refine GC.region ?_
  refine GL.val (Ex.move rfl) (by decide) ?_
  by_cases hq1 : r < 0
  · refine GL.val (v := (.bool true)) (Ex.cast (Ex.lss rfl rfl) (congrArg Value.bool (decide_eq_true hq1))) (by decide) ?_
    refine GL.val (Ex.move rfl) (by decide) ?_
    refine GL.skipG (tj := 10) rfl rfl rfl (by decide) ?_
    refine GL.skipG (tj := 10) rfl rfl rfl (by decide) ?_
    refine GL.val (v := (.bool true)) (Ex.pickT rfl rfl) (by decide) ?_
    refine GL.val (Ex.move rfl) (by decide) ?_
    refine GL.skipG (tj := 14) rfl rfl rfl (by decide) ?_
    refine GL.skipG (tj := 14) rfl rfl rfl (by decide) ?_
    refine GL.skipG (tj := 14) rfl rfl rfl (by decide) ?_
    refine GL.skipU (tj := 17) rfl rfl (by decide) ?_
    refine GL.skipU (tj := 17) rfl rfl (by decide) ?_
    refine GL.skipG (tj := 14) rfl rfl rfl (by decide) ?_
    refine GL.val (v := (.bool true)) (Ex.pickT rfl rfl) (by decide) ?_
    refine GL.nil ?_
    refine GE.thenN ?_
    refine GC.cond rfl (fun _ => ?_) (fun hq2 => by cases hq2)
    refine GC.seq ?_
    refine GC.region ?_
    refine GL.val (Ex.assign rfl) (by decide) ?_
    refine GL.val (Ex.assign rfl) (by decide) ?_
    refine GL.nil ?_
    refine GE.thenN ?_
    refine GC.ret ?_
    refine GE.thenR ?_
    refine GC.ret2 rfl (Rv.tmp rfl) (Rv.tmp rfl) (fun wN HN => ?_)
    exact HN.ret () trivial rfl (List.nil_sublist _) rfl
  · refine GL.val (v := (.bool false)) (Ex.cast (Ex.lss rfl rfl) (congrArg Value.bool (decide_eq_false hq1))) (by decide) ?_
    refine GL.val (Ex.move rfl) (by decide) ?_
    refine GL.stepG (tj := 10) rfl rfl (Ex.wp (v := (.int .i64 r)) (Ex.move rfl) (by decide)) (fun _ _ => ?_)
    by_cases hq3 : 7 < r
    · refine GL.stepG (tj := 10) rfl rfl (Ex.wp (v := (.bool true)) (Ex.cast (Ex.gtr rfl rfl) (congrArg Value.bool (decide_eq_true hq3))) (by decide)) (fun _ _ => ?_)
      refine GL.val (v := (.bool true)) (Ex.pickF rfl rfl) (by decide) ?_
      refine GL.val (Ex.move rfl) (by decide) ?_
      refine GL.skipG (tj := 14) rfl rfl rfl (by decide) ?_
      refine GL.skipG (tj := 14) rfl rfl rfl (by decide) ?_
      refine GL.skipG (tj := 14) rfl rfl rfl (by decide) ?_
      refine GL.skipU (tj := 17) rfl rfl (by decide) ?_
      refine GL.skipU (tj := 17) rfl rfl (by decide) ?_
      refine GL.skipG (tj := 14) rfl rfl rfl (by decide) ?_
      refine GL.val (v := (.bool true)) (Ex.pickT rfl rfl) (by decide) ?_
      refine GL.nil ?_
      refine GE.thenN ?_
      refine GC.cond rfl (fun _ => ?_) (fun hq4 => by cases hq4)
      refine GC.seq ?_
      refine GC.region ?_
      refine GL.val (Ex.assign rfl) (by decide) ?_
      refine GL.val (Ex.assign rfl) (by decide) ?_
      refine GL.nil ?_
      refine GE.thenN ?_
      refine GC.ret ?_
      refine GE.thenR ?_
      refine GC.ret2 rfl (Rv.tmp rfl) (Rv.tmp rfl) (fun wN HN => ?_)
      exact HN.ret () trivial rfl (List.nil_sublist _) rfl
    · refine GL.stepG (tj := 10) rfl rfl (Ex.wp (v := (.bool false)) (Ex.cast (Ex.gtr rfl rfl) (congrArg Value.bool (decide_eq_false hq3))) (by decide)) (fun _ _ => ?_)
      refine GL.val (v := (.bool false)) (Ex.pickF rfl rfl) (by decide) ?_
      refine GL.val (Ex.move rfl) (by decide) ?_
      refine GL.stepG (tj := 14) rfl rfl (Ex.wp (v := (.int .i64 kd)) (Ex.move rfl) (by decide)) (fun _ _ => ?_)
      by_cases hq5 : kd ≠ 1
      · refine GL.stepG (tj := 14) rfl rfl (Ex.wp (v := (.bool true)) (Ex.cast (Ex.neq rfl rfl) (congrArg Value.bool (decide_eq_true hq5))) (by decide)) (fun _ _ => ?_)
        refine GL.stepG (tj := 14) rfl rfl (Ex.wp (v := (.bool true)) (Ex.move rfl) (by decide)) (fun _ _ => ?_)
        refine GL.stepG (tj := 17) rfl rfl (Ex.wp (v := (.int .i64 kd)) (Ex.move rfl) (by decide)) (fun _ _ => ?_)
        refine GL.stepG (tj := 17) rfl rfl (Ex.wp (v := (.bool (decide (kd ≠ 2)))) (Ex.neq rfl rfl) (by decide)) (fun _ _ => ?_)
        refine GL.stepG (tj := 14) rfl rfl (Ex.wp (v := (.bool (decide (kd ≠ 2)))) (Ex.pickT rfl rfl) (by decide)) (fun _ _ => ?_)
        refine GL.val (v := (.bool (decide (kd ≠ 2)))) (Ex.pickF rfl rfl) (by decide) ?_
        refine GL.nil ?_
        refine GE.thenN ?_
        refine GC.cond rfl (fun hq6 => ?_) (fun hq6 => ?_)
        · replace hq6 := of_decide_eq_true hq6
          refine GC.seq ?_
          refine GC.region ?_
          refine GL.val (Ex.assign rfl) (by decide) ?_
          refine GL.val (Ex.assign rfl) (by decide) ?_
          refine GL.nil ?_
          refine GE.thenN ?_
          refine GC.ret ?_
          refine GE.thenR ?_
          refine GC.ret2 rfl (Rv.tmp rfl) (Rv.tmp rfl) (fun wN HN => ?_)
          exact HN.ret () trivial rfl (List.nil_sublist _) rfl
        · replace hq6 := of_decide_eq_false hq6
          exfalso; omega
      · exfalso; omega

set_option maxRecDepth 100000 in
set_option maxHeartbeats 1000000 in
theorem weights2 (r : Nat) (w : World) (hr : r ≤ 7) :
    Calls Try.prog 14 #[(.int .i64 2), (.int .i64 (((r : Nat) : Int)))] w (Ret w (fun _ : Nat => True) (fun b => .tuple #[.slice (some ⟨b, 0, none⟩) (2 * r + 1) (2 * r + 1), .int .i64 0]) (fun b => [⟨b, wl (2 * r + 1) (fun _ => 1), 3, true⟩])) := by
  refine enter (M := None) (L := []) (n := 64) (l := [(0, (.int .i64 2)), (1, (.int .i64 (((r : Nat) : Int))))]) Try.func14 rfl rfl (Args.cons rfl (Args.cons rfl (Args.nil _))) (Hp.start _ _) ?_
  refine GC.seq ?_
  refine GC.region ?_
  refine GL.val (Ex.assign rfl) (by decide) ?_
  refine GL.val (Ex.assign rfl) (by decide) ?_
  refine GL.nil ?_
  refine GE.thenN ?_
  refine GC.seq ?_
  refine GC.seq ?_
  refine GC.region ?_
  refine GL.val (Ex.move rfl) (by decide) ?_
  refine GL.val (v := (.bool false)) (Ex.cast (Ex.lss rfl rfl) (congrArg Value.bool (decide_eq_false (by omega)))) (by decide) ?_
  refine GL.val (Ex.move rfl) (by decide) ?_
  refine GL.stepG (tj := 12) rfl rfl (Ex.wp (v := (.int .i64 (((r : Nat) : Int)))) (Ex.move rfl) (by decide)) (fun _ _ => ?_)
  refine GL.stepG (tj := 12) rfl rfl (Ex.wp (v := (.bool false)) (Ex.cast (Ex.gtr rfl rfl) (congrArg Value.bool (decide_eq_false (by omega)))) (by decide)) (fun _ _ => ?_)
  refine GL.val (v := (.bool false)) (Ex.pickF rfl rfl) (by decide) ?_
  refine GL.val (Ex.move rfl) (by decide) ?_
  refine GL.stepG (tj := 16) rfl rfl (Ex.wp (v := (.int .i64 2)) (Ex.move rfl) (by decide)) (fun _ _ => ?_)
  refine GL.stepG (tj := 16) rfl rfl (Ex.wp (v := (.bool true)) (Ex.cast (Ex.neq rfl rfl) rfl) (by decide)) (fun _ _ => ?_)
  refine GL.stepG (tj := 16) rfl rfl (Ex.wp (v := (.bool true)) (Ex.move rfl) (by decide)) (fun _ _ => ?_)
  refine GL.stepG (tj := 19) rfl rfl (Ex.wp (v := (.int .i64 2)) (Ex.move rfl) (by decide)) (fun _ _ => ?_)
  refine GL.stepG (tj := 19) rfl rfl (Ex.wp (v := (.bool false)) (Ex.cast (Ex.neq rfl rfl) rfl) (by decide)) (fun _ _ => ?_)
  refine GL.stepG (tj := 16) rfl rfl (Ex.wp (v := (.bool false)) (Ex.pickT rfl rfl) (by decide)) (fun _ _ => ?_)
  refine GL.val (v := (.bool false)) (Ex.pickF rfl rfl) (by decide) ?_
  refine GL.nil ?_
  refine GE.thenN ?_
  refine GC.cond rfl (fun hq1 => by cases hq1) (fun _ => ?_)
  refine GC.skip ?_
  refine GE.thenN ?_
  refine GC.seq ?_
  refine GC.region ?_
  refine GL.val (Ex.move rfl) (by decide) ?_
  refine GL.val (v := (.int .i64 (((2 * r : Nat) : Int)))) (Ex.mul rfl rfl (Z := ((2 * r : Nat) : Int)) (by rw [w64 (by omega)]; omega)) (by decide) ?_
  refine GL.val (v := (.int .i64 (((2 * r + 1 : Nat) : Int)))) (Ex.add rfl rfl (Z := ((2 * r + 1 : Nat) : Int)) (by rw [w64 (by omega)]; omega)) (by decide) ?_
  refine GL.step (Stp.makeSlice (a1 := 2 * r + 1) (c := 2 * r + 1) rfl rfl Try.underlying28 T.zr3 T.sz3 T.by3 rfl (Nat.le_refl _) (by omega) (by omega) (by decide)) (fun bq2 _ => ?_)
  rw [madeOne, wl_zero]
  refine GL.val (Ex.assign rfl) (by decide) ?_
  refine GL.nil ?_
  refine GE.thenN ?_
  refine GC.seq ?_
  refine GC.seq ?_
  rw [show wl (2 * r + 1) (fun _ => (0 : Int)) = wl (2 * r + 1) (fun j => if j < 0 then 1 else 0) from wl_congr fun j hj => by simp]
  refine GC.region ?_
  refine GL.val (Ex.move rfl) (by decide) ?_
  refine GL.val (v := (.int .i64 (((2 * r + 1) : Int)))) (Ex.len rfl Try.underlying28) (by decide) ?_
  refine GL.val (Ex.move rfl) (by decide) ?_
  refine GL.nil ?_
  refine GE.thenN ?_
  refine GC.block ?_
  refine GC.loop (σ := Nat) (fun k => k ≤ 2 * r + 1) (fun k => [(0, (.int .i64 2)), (1, (.int .i64 (((r : Nat) : Int)))), (4, (.slice none 0 0)), (5, (.int .i64 0)), (6, (.slice (some ⟨bq2, 0, none⟩) (2 * r + 1) (2 * r + 1))), (29, (.int .i64 (((2 * r + 1) : Int)))), (30, (.int .i64 (((k : Nat) : Int))))]) (fun k => [⟨bq2, wl (2 * r + 1) (fun j => if j < k then 1 else 0), 3, true⟩]) (fun k => 2 * r + 1 - k) (0) (Nat.zero_le _) ((sub_cons rfl ((sub_cons rfl ((sub_cons rfl ((sub_cons rfl ((sub_cons rfl ((sub_cons rfl ((sub_cons rfl ((sub_nil _)))))))))))))))) (ulC ulN) (fun k hp => ?_)
  refine GC.seq ?_
  refine GC.region ?_
  refine GL.val (v := (.bool (decide ((((k : Nat) : Int)) < (((2 * r + 1) : Int)))))) (Ex.lss rfl rfl) (by decide) ?_
  refine GL.nil ?_
  refine GE.thenN ?_
  refine GC.seq ?_
  refine GC.cond rfl (fun hq3 => ?_) (fun hq3 => ?_)
  · replace hq3 := of_decide_eq_true hq3
    refine GC.skip ?_
    refine GE.thenN ?_
    refine GC.seq ?_
    refine GC.block ?_
    refine GC.seq ?_
    refine GC.region ?_
    refine GL.val (Ex.move rfl) (by decide) ?_
    refine GL.val (Ex.assign rfl) (by decide) ?_
    refine GL.nil ?_
    refine GE.thenN ?_
    refine GC.region ?_
    refine GL.val (Ex.move rfl) (by decide) ?_
    refine GL.val (Ex.move rfl) (by decide) ?_
    refine GL.val (v := (.pointer (some ⟨bq2, k, none⟩))) (Ex.cast (Ex.indexAddr rfl rfl Try.underlying28 T.sz3 (by omega) (by omega)) (by simp)) (by decide) ?_
    refine GL.step (Stp.storeL (i := 0) (cs := wl (2 * r + 1) (fun j => if j < k then 1 else 0)) (vs := [.int .i64 1]) (o := k) (L1 := [⟨bq2, wl (2 * r + 1) (fun j => if j < k + 1 then 1 else 0), 3, true⟩]) rfl rfl rfl T.sz3 rfl (Nat.ble_eq_true_of_le (by rw [wl_len]; simp; omega)) rfl (by rw [one_store (by omega)]; rfl)) (fun _ _ => ?_)
    refine GL.nil ?_
    refine GE.blockN ?_
    refine GE.thenN ?_
    refine GC.region ?_
    refine GL.val (v := (.int .i64 (((k + 1 : Nat) : Int)))) (Ex.add rfl rfl (Z := ((k + 1 : Nat) : Int)) (by rw [w64 (by omega)]; omega)) (by decide) ?_
    refine GL.val (Ex.move rfl) (by decide) ?_
    refine GL.nil ?_
    refine GE.thenN ?_
    exact Head.mk (k + 1) (by omega) (by omega) ((sub_cons rfl ((sub_cons rfl ((sub_cons rfl ((sub_cons rfl ((sub_cons rfl ((sub_cons rfl ((sub_cons rfl ((sub_nil _)))))))))))))))) (ulC ulN)
  · replace hq3 := of_decide_eq_false hq3
    refine GC.exit ?_
    refine GE.thenE ?_
    refine GE.thenE ?_
    refine GE.blockE ?_
    refine GE.thenN ?_
    refine GC.seq ?_
    refine GC.seq ?_
    have ek : k = 2 * r + 1 := by omega
    rw [ek, one_full]
    refine GC.region ?_
    refine GL.val (Ex.move rfl) (by decide) ?_
    refine GL.val (v := (.bool true)) (Ex.cast (Ex.eql rfl rfl) rfl) (by decide) ?_
    refine GL.nil ?_
    refine GE.thenN ?_
    refine GC.cond rfl (fun _ => ?_) (fun hq4 => by cases hq4)
    refine GC.seq ?_
    refine GC.region ?_
    refine GL.val (Ex.move rfl) (by decide) ?_
    refine GL.val (Ex.assign rfl) (by decide) ?_
    refine GL.val (Ex.assign rfl) (by decide) ?_
    refine GL.nil ?_
    refine GE.thenN ?_
    refine GC.ret ?_
    refine GE.thenR ?_
    refine GC.ret2 rfl (Rv.tmp rfl) (Rv.tmp rfl) (fun wN HN => ?_)
    exact HN.ret bq2 trivial rfl (ulC ulN) rfl

set_option maxRecDepth 100000 in
set_option maxHeartbeats 1000000 in
theorem weights1 (r : Nat) (w : World) (hr : r ≤ 7) :
    Calls Try.prog 14 #[(.int .i64 1), (.int .i64 (((r : Nat) : Int)))] w (Ret w (fun _ : Nat => True) (fun b => .tuple #[.slice (some ⟨b, 0, none⟩) (2 * r + 1) (2 * r + 1), .int .i64 0]) (fun b => [⟨b, wl (2 * r + 1) (pv (2 * r)), 3, true⟩])) := by
  refine enter (M := None) (L := []) (n := 64) (l := [(0, (.int .i64 1)), (1, (.int .i64 (((r : Nat) : Int))))]) Try.func14 rfl rfl (Args.cons rfl (Args.cons rfl (Args.nil _))) (Hp.start _ _) ?_
  refine GC.seq ?_
  refine GC.region ?_
  refine GL.val (Ex.assign rfl) (by decide) ?_
  refine GL.val (Ex.assign rfl) (by decide) ?_
  refine GL.nil ?_
  refine GE.thenN ?_
  refine GC.seq ?_
  refine GC.seq ?_
  refine GC.region ?_
  refine GL.val (Ex.move rfl) (by decide) ?_
  refine GL.val (v := (.bool false)) (Ex.cast (Ex.lss rfl rfl) (congrArg Value.bool (decide_eq_false (by omega)))) (by decide) ?_
  refine GL.val (Ex.move rfl) (by decide) ?_
  refine GL.stepG (tj := 12) rfl rfl (Ex.wp (v := (.int .i64 (((r : Nat) : Int)))) (Ex.move rfl) (by decide)) (fun _ _ => ?_)
  refine GL.stepG (tj := 12) rfl rfl (Ex.wp (v := (.bool false)) (Ex.cast (Ex.gtr rfl rfl) (congrArg Value.bool (decide_eq_false (by omega)))) (by decide)) (fun _ _ => ?_)
  refine GL.val (v := (.bool false)) (Ex.pickF rfl rfl) (by decide) ?_
  refine GL.val (Ex.move rfl) (by decide) ?_
  refine GL.stepG (tj := 16) rfl rfl (Ex.wp (v := (.int .i64 1)) (Ex.move rfl) (by decide)) (fun _ _ => ?_)
  refine GL.stepG (tj := 16) rfl rfl (Ex.wp (v := (.bool false)) (Ex.cast (Ex.neq rfl rfl) rfl) (by decide)) (fun _ _ => ?_)
  refine GL.stepG (tj := 16) rfl rfl (Ex.wp (v := (.bool false)) (Ex.move rfl) (by decide)) (fun _ _ => ?_)
  refine GL.skipG (tj := 19) rfl rfl rfl (by decide) ?_
  refine GL.skipG (tj := 19) rfl rfl rfl (by decide) ?_
  refine GL.stepG (tj := 16) rfl rfl (Ex.wp (v := (.bool false)) (Ex.pickF rfl rfl) (by decide)) (fun _ _ => ?_)
  refine GL.val (v := (.bool false)) (Ex.pickF rfl rfl) (by decide) ?_
  refine GL.nil ?_
  refine GE.thenN ?_
  refine GC.cond rfl (fun hq1 => by cases hq1) (fun _ => ?_)
  refine GC.skip ?_
  refine GE.thenN ?_
  refine GC.seq ?_
  refine GC.region ?_
  refine GL.val (Ex.move rfl) (by decide) ?_
  refine GL.val (v := (.int .i64 (((2 * r : Nat) : Int)))) (Ex.mul rfl rfl (Z := ((2 * r : Nat) : Int)) (by rw [w64 (by omega)]; omega)) (by decide) ?_
  refine GL.val (v := (.int .i64 (((2 * r + 1 : Nat) : Int)))) (Ex.add rfl rfl (Z := ((2 * r + 1 : Nat) : Int)) (by rw [w64 (by omega)]; omega)) (by decide) ?_
  refine GL.step (Stp.makeSlice (a1 := 2 * r + 1) (c := 2 * r + 1) rfl rfl Try.underlying28 T.zr3 T.sz3 T.by3 rfl (Nat.le_refl _) (by omega) (by omega) (by decide)) (fun bq2 _ => ?_)
  rw [madeOne, wl_zero]
  refine GL.val (Ex.assign rfl) (by decide) ?_
  refine GL.nil ?_
  refine GE.thenN ?_
  refine GC.seq ?_
  refine GC.seq ?_
  rw [show wl (2 * r + 1) (fun _ => (0 : Int)) = wl (2 * r + 1) (fun j => if j < 0 then 1 else 0) from wl_congr fun j hj => by simp]
  refine GC.region ?_
  refine GL.val (Ex.move rfl) (by decide) ?_
  refine GL.val (v := (.int .i64 (((2 * r + 1) : Int)))) (Ex.len rfl Try.underlying28) (by decide) ?_
  refine GL.val (Ex.move rfl) (by decide) ?_
  refine GL.nil ?_
  refine GE.thenN ?_
  refine GC.block ?_
  refine GC.loop (σ := Nat) (fun k => k ≤ 2 * r + 1) (fun k => [(0, (.int .i64 1)), (1, (.int .i64 (((r : Nat) : Int)))), (4, (.slice none 0 0)), (5, (.int .i64 0)), (6, (.slice (some ⟨bq2, 0, none⟩) (2 * r + 1) (2 * r + 1))), (29, (.int .i64 (((2 * r + 1) : Int)))), (30, (.int .i64 (((k : Nat) : Int))))]) (fun k => [⟨bq2, wl (2 * r + 1) (fun j => if j < k then 1 else 0), 3, true⟩]) (fun k => 2 * r + 1 - k) (0) (Nat.zero_le _) ((sub_cons rfl ((sub_cons rfl ((sub_cons rfl ((sub_cons rfl ((sub_cons rfl ((sub_cons rfl ((sub_cons rfl ((sub_nil _)))))))))))))))) (ulC ulN) (fun k hp => ?_)
  refine GC.seq ?_
  refine GC.region ?_
  refine GL.val (v := (.bool (decide ((((k : Nat) : Int)) < (((2 * r + 1) : Int)))))) (Ex.lss rfl rfl) (by decide) ?_
  refine GL.nil ?_
  refine GE.thenN ?_
  refine GC.seq ?_
  refine GC.cond rfl (fun hq3 => ?_) (fun hq3 => ?_)
  · replace hq3 := of_decide_eq_true hq3
    refine GC.skip ?_
    refine GE.thenN ?_
    refine GC.seq ?_
    refine GC.block ?_
    refine GC.seq ?_
    refine GC.region ?_
    refine GL.val (Ex.move rfl) (by decide) ?_
    refine GL.val (Ex.assign rfl) (by decide) ?_
    refine GL.nil ?_
    refine GE.thenN ?_
    refine GC.region ?_
    refine GL.val (Ex.move rfl) (by decide) ?_
    refine GL.val (Ex.move rfl) (by decide) ?_
    refine GL.val (v := (.pointer (some ⟨bq2, k, none⟩))) (Ex.cast (Ex.indexAddr rfl rfl Try.underlying28 T.sz3 (by omega) (by omega)) (by simp)) (by decide) ?_
    refine GL.step (Stp.storeL (i := 0) (cs := wl (2 * r + 1) (fun j => if j < k then 1 else 0)) (vs := [.int .i64 1]) (o := k) (L1 := [⟨bq2, wl (2 * r + 1) (fun j => if j < k + 1 then 1 else 0), 3, true⟩]) rfl rfl rfl T.sz3 rfl (Nat.ble_eq_true_of_le (by rw [wl_len]; simp; omega)) rfl (by rw [one_store (by omega)]; rfl)) (fun _ _ => ?_)
    refine GL.nil ?_
    refine GE.blockN ?_
    refine GE.thenN ?_
    refine GC.region ?_
    refine GL.val (v := (.int .i64 (((k + 1 : Nat) : Int)))) (Ex.add rfl rfl (Z := ((k + 1 : Nat) : Int)) (by rw [w64 (by omega)]; omega)) (by decide) ?_
    refine GL.val (Ex.move rfl) (by decide) ?_
    refine GL.nil ?_
    refine GE.thenN ?_
    exact Head.mk (k + 1) (by omega) (by omega) ((sub_cons rfl ((sub_cons rfl ((sub_cons rfl ((sub_cons rfl ((sub_cons rfl ((sub_cons rfl ((sub_cons rfl ((sub_nil _)))))))))))))))) (ulC ulN)
  · replace hq3 := of_decide_eq_false hq3
    refine GC.exit ?_
    refine GE.thenE ?_
    refine GE.thenE ?_
    refine GE.blockE ?_
    refine GE.thenN ?_
    refine GC.seq ?_
    refine GC.seq ?_
    have ek : k = 2 * r + 1 := by omega
    rw [ek, one_full]
    refine GC.region ?_
    refine GL.val (Ex.move rfl) (by decide) ?_
    refine GL.val (v := (.bool false)) (Ex.cast (Ex.eql rfl rfl) rfl) (by decide) ?_
    refine GL.nil ?_
    refine GE.thenN ?_
    refine GC.cond rfl (fun hq4 => by cases hq4) (fun _ => ?_)
    refine GC.skip ?_
    refine GE.thenN ?_
    refine GC.seq ?_
    refine GC.seq ?_
    rw [one_pv]
    refine GC.region ?_
    refine GL.val (Ex.assign rfl) (by decide) ?_
    refine GL.nil ?_
    refine GE.thenN ?_
    refine GC.block ?_
    refine GC.loop (σ := Nat) (fun n => 1 ≤ n ∧ n ≤ 2 * r + 1) (fun n => [(0, (.int .i64 1)), (1, (.int .i64 (((r : Nat) : Int)))), (4, (.slice none 0 0)), (5, (.int .i64 0)), (6, (.slice (some ⟨bq2, 0, none⟩) (2 * r + 1) (2 * r + 1))), (8, (.int .i64 (((n : Nat) : Int))))]) (fun n => [⟨bq2, wl (2 * r + 1) (pv (n - 1)), 3, true⟩]) (fun n => 2 * r + 1 - n) (1) ⟨Nat.le_refl _, by omega⟩ ((sub_cons rfl ((sub_cons rfl ((sub_cons rfl ((sub_cons rfl ((sub_cons rfl ((sub_cons rfl ((sub_nil _)))))))))))))) (ulC ulN) (fun n hp => ?_)
    refine GC.seq ?_
    refine GC.seq ?_
    refine GC.region ?_
    refine GL.val (Ex.move rfl) (by decide) ?_
    refine GL.val (Ex.move rfl) (by decide) ?_
    refine GL.val (v := (.int .i64 (((2 * r : Nat) : Int)))) (Ex.mul rfl rfl (Z := ((2 * r : Nat) : Int)) (by rw [w64 (by omega)]; omega)) (by decide) ?_
    refine GL.val (v := (.bool (decide ((((n : Nat) : Int)) ≤ (((2 * r : Nat) : Int)))))) (Ex.leq rfl rfl) (by decide) ?_
    refine GL.nil ?_
    refine GE.thenN ?_
    refine GC.cond rfl (fun hq5 => ?_) (fun hq5 => ?_)
    · replace hq5 := of_decide_eq_true hq5
      refine GC.skip ?_
      refine GE.thenN ?_
      refine GC.seq ?_
      refine GC.block ?_
      refine GC.seq ?_
      rw [show wl (2 * r + 1) (pv (n - 1)) = wl (2 * r + 1) (mid n (n - 1)) from mid_start (by omega) (by omega)]
      refine GC.region ?_
      refine GL.val (Ex.move rfl) (by decide) ?_
      refine GL.val (v := (.int .i64 (((n - 1 : Nat) : Int)))) (Ex.sub' rfl rfl (Z := ((n - 1 : Nat) : Int)) (subN (b := 1) (by omega) (by omega))) (by decide) ?_
      refine GL.val (Ex.assign rfl) (by decide) ?_
      refine GL.nil ?_
      refine GE.thenN ?_
      refine GC.block ?_
      refine GC.loop (σ := Nat) (fun i => i < n) (fun i => [(0, (.int .i64 1)), (1, (.int .i64 (((r : Nat) : Int)))), (4, (.slice none 0 0)), (5, (.int .i64 0)), (6, (.slice (some ⟨bq2, 0, none⟩) (2 * r + 1) (2 * r + 1))), (8, (.int .i64 (((n : Nat) : Int)))), (9, (.int .i64 (((i : Nat) : Int))))]) (fun i => [⟨bq2, wl (2 * r + 1) (mid n i), 3, true⟩]) (fun i => i) (n - 1) (by omega) ((sub_cons rfl ((sub_cons rfl ((sub_cons rfl ((sub_cons rfl ((sub_cons rfl ((sub_cons rfl ((sub_cons rfl ((sub_nil _)))))))))))))))) (ulC ulN) (fun i hp => ?_)
      refine GC.seq ?_
      refine GC.seq ?_
      refine GC.region ?_
      refine GL.val (Ex.move rfl) (by decide) ?_
      refine GL.val (v := (.bool (decide (0 < (((i : Nat) : Int)))))) (Ex.gtr rfl rfl) (by decide) ?_
      refine GL.nil ?_
      refine GE.thenN ?_
      refine GC.cond rfl (fun hq6 => ?_) (fun hq6 => ?_)
      · replace hq6 := of_decide_eq_true hq6
        refine GC.skip ?_
        refine GE.thenN ?_
        refine GC.seq ?_
        refine GC.block ?_
        refine GC.drawP [⟨bq2, wl (2 * r + 1) (mid n i), 3, true⟩] T.mixed (by kernel_rfl) (by kernel_rfl) (fuel := 11) rfl rfl ?_
        refine GH.take 0 (v := (.slice (some ⟨bq2, 0, none⟩) (2 * r + 1) (2 * r + 1))) rfl (by kernel_rfl) (by kernel_rfl) (by kernel_rfl) (fun _ _ _ h => h) (Ex.move rfl) (ulC ulN) (by decide) ?_
        refine GH.take 1 (v := (.int .i64 (((i : Nat) : Int)))) rfl (by kernel_rfl) (by kernel_rfl) (by kernel_rfl) (fun _ _ _ h => h) (Ex.move rfl) (ulC ulN) (by decide) ?_
        refine GH.take 2 (v := (.pointer (some ⟨bq2, i, none⟩))) rfl (by kernel_rfl) (by kernel_rfl) (by kernel_rfl) (fun _ _ _ h => h) (Ex.cast (Ex.indexAddr rfl rfl Try.underlying28 T.sz3 (by omega) (by omega)) (by simp)) (ulC ulN) (by decide) ?_
        refine GH.take 3 (v := (.int .i64 ((mid n i i)))) rfl (by kernel_rfl) (by kernel_rfl) (by kernel_rfl) (fun _ _ _ h => h) (Ex.load rfl T.ag3 (i := 0) rfl (wl_at (by omega))) (ulC ulN) (by decide) ?_
        refine GH.take 4 (v := (.slice (some ⟨bq2, 0, none⟩) (2 * r + 1) (2 * r + 1))) rfl (by kernel_rfl) (by kernel_rfl) (by kernel_rfl) (fun _ _ _ h => h) (Ex.move rfl) (ulC ulN) (by decide) ?_
        refine GH.take 5 (v := (.int .i64 (((i : Nat) : Int)))) rfl (by kernel_rfl) (by kernel_rfl) (by kernel_rfl) (fun _ _ _ h => h) (Ex.move rfl) (ulC ulN) (by decide) ?_
        refine GH.take 6 (v := (.int .i64 (((i - 1 : Nat) : Int)))) rfl (by kernel_rfl) (by kernel_rfl) (by kernel_rfl) (fun _ _ _ h => h) (Ex.sub' rfl rfl (Z := ((i - 1 : Nat) : Int)) (subN (b := 1) (by omega) (by omega))) (ulC ulN) (by decide) ?_
        refine GH.take 7 (v := (.pointer (some ⟨bq2, (((i - 1 : Nat) : Int)).toNat, none⟩))) rfl (by kernel_rfl) (by kernel_rfl) (by kernel_rfl) (fun _ _ _ h => h) (Ex.cast (Ex.indexAddr rfl rfl Try.underlying28 T.sz3 (by omega) (by omega)) (by simp)) (ulC ulN) (by decide) ?_
        refine GH.take 8 (v := (.int .i64 ((mid n i ((((i - 1 : Nat) : Int)).toNat))))) rfl (by kernel_rfl) (by kernel_rfl) (by kernel_rfl) (fun _ _ _ h => h) (Ex.load rfl T.ag3 (i := 0) rfl (wl_at (by omega))) (ulC ulN) (by decide) ?_
        refine GH.take 9 (v := (.int .i64 ((pv n i)))) rfl (by kernel_rfl) (by kernel_rfl) (by kernel_rfl) (fun _ _ _ h => h) (Ex.add rfl rfl (Z := (pv n i)) (mid_add (by omega) (by omega) (by omega))) (ulC ulN) (by decide) ?_
        refine GH.take 10 (v := (.pointer (some ⟨bq2, i, none⟩))) rfl (by kernel_rfl) (by kernel_rfl) (by kernel_rfl) (fun _ _ _ h => h) (Ex.cast (Ex.indexAddr rfl rfl Try.underlying28 T.sz3 (by omega) (by omega)) (by simp)) (ulC ulN) (by decide) ?_
        refine GH.done (by kernel_rfl) ?_
        refine GE.thenN ?_
        refine GE.tail rfl (Stp.storeL (i := 0) (cs := wl (2 * r + 1) (mid n i)) (vs := [.int .i64 (pv n i)]) (o := i) (L1 := [⟨bq2, wl (2 * r + 1) (mid n (i - 1)), 3, true⟩]) rfl rfl rfl T.sz3 rfl (Nat.ble_eq_true_of_le (by rw [wl_len]; simp; omega)) rfl (by rw [mid_store (by omega) (by omega)]; rfl)) (fun _ _ => ?_)
        refine GE.blockN ?_
        refine GE.thenN ?_
        refine GC.region ?_
        refine GL.val (Ex.move rfl) (by decide) ?_
        refine GL.val (v := (.int .i64 (((i - 1 : Nat) : Int)))) (Ex.sub' rfl rfl (Z := ((i - 1 : Nat) : Int)) (subN (b := 1) (by omega) (by omega))) (by decide) ?_
        refine GL.val (Ex.assign rfl) (by decide) ?_
        refine GL.nil ?_
        refine GE.thenN ?_
        exact Head.mk (i - 1) (by omega) (by omega) ((sub_cons rfl ((sub_cons rfl ((sub_cons rfl ((sub_cons rfl ((sub_cons rfl ((sub_cons rfl ((sub_cons rfl ((sub_nil _)))))))))))))))) (ulC ulN)
      · replace hq6 := of_decide_eq_false hq6
        have ei : i = 0 := by omega
        rw [ei, mid_end (by omega)]
        refine GC.exit ?_
        refine GE.thenE ?_
        refine GE.thenE ?_
        refine GE.blockE ?_
        refine GE.blockN ?_
        refine GE.thenN ?_
        refine GC.region ?_
        refine GL.val (Ex.move rfl) (by decide) ?_
        refine GL.val (v := (.int .i64 (((n + 1 : Nat) : Int)))) (Ex.add rfl rfl (Z := ((n + 1 : Nat) : Int)) (by rw [w64 (by omega)]; omega)) (by decide) ?_
        refine GL.val (Ex.assign rfl) (by decide) ?_
        refine GL.nil ?_
        refine GE.thenN ?_
        exact Head.mk (n + 1) ⟨by omega, by omega⟩ (by omega) ((sub_cons rfl ((sub_cons rfl ((sub_cons rfl ((sub_cons rfl ((sub_cons rfl ((sub_cons rfl ((sub_nil _)))))))))))))) (ulC ulN)
    · replace hq5 := of_decide_eq_false hq5
      refine GC.exit ?_
      refine GE.thenE ?_
      refine GE.thenE ?_
      refine GE.blockE ?_
      refine GE.thenN ?_
      refine GC.seq ?_
      refine GC.region ?_
      refine GL.val (Ex.move rfl) (by decide) ?_
      refine GL.val (Ex.assign rfl) (by decide) ?_
      refine GL.val (Ex.assign rfl) (by decide) ?_
      refine GL.nil ?_
      refine GE.thenN ?_
      refine GC.ret ?_
      refine GC.ret2 rfl (Rv.tmp rfl) (Rv.tmp rfl) (fun wN HN => ?_)
      rw [show n - 1 = 2 * r from by omega] at HN
      exact HN.ret bq2 trivial rfl (ulC ulN) rfl

set_option maxRecDepth 100000 in
set_option maxHeartbeats 1000000 in
theorem ref_weights1 (r : Nat) (w : World) (hr : r ≤ 7) :
    Calls Try.prog 13 #[(.int .i64 1), (.int .i64 (((r : Nat) : Int)))] w (Ret w (fun _ : Nat × Nat × List Value => True) (fun x => .tuple #[.slice (some ⟨x.1, 0, none⟩) (2 * r + 1) x.2.1, .int .i64 0]) (fun x => [⟨x.1, wl (2 * r + 1) (pv (2 * r)) ++ x.2.2, 3, true⟩])) := by
  refine enter (M := None) (L := []) (n := 51) (l := [(0, (.int .i64 1)), (1, (.int .i64 (((r : Nat) : Int))))]) Try.func13 rfl rfl (Args.cons rfl (Args.cons rfl (Args.nil _))) (Hp.start _ _) ?_
  refine GC.seq ?_
  refine GC.region ?_
  refine GL.val (Ex.assign rfl) (by decide) ?_
  refine GL.val (Ex.assign rfl) (by decide) ?_
  refine GL.nil ?_
  refine GE.thenN ?_
  refine GC.seq ?_
  refine GC.seq ?_
  refine GC.region ?_
  refine GL.val (Ex.move rfl) (by decide) ?_
  refine GL.val (v := (.bool false)) (Ex.cast (Ex.lss rfl rfl) (congrArg Value.bool (decide_eq_false (by omega)))) (by decide) ?_
  refine GL.val (Ex.move rfl) (by decide) ?_
  refine GL.stepG (tj := 10) rfl rfl (Ex.wp (v := (.int .i64 (((r : Nat) : Int)))) (Ex.move rfl) (by decide)) (fun _ _ => ?_)
  refine GL.stepG (tj := 10) rfl rfl (Ex.wp (v := (.bool false)) (Ex.cast (Ex.gtr rfl rfl) (congrArg Value.bool (decide_eq_false (by omega)))) (by decide)) (fun _ _ => ?_)
  refine GL.val (v := (.bool false)) (Ex.pickF rfl rfl) (by decide) ?_
  refine GL.val (Ex.move rfl) (by decide) ?_
  refine GL.stepG (tj := 14) rfl rfl (Ex.wp (v := (.int .i64 1)) (Ex.move rfl) (by decide)) (fun _ _ => ?_)
  refine GL.stepG (tj := 14) rfl rfl (Ex.wp (v := (.bool false)) (Ex.cast (Ex.neq rfl rfl) rfl) (by decide)) (fun _ _ => ?_)
  refine GL.stepG (tj := 14) rfl rfl (Ex.wp (v := (.bool false)) (Ex.move rfl) (by decide)) (fun _ _ => ?_)
  refine GL.skipG (tj := 17) rfl rfl rfl (by decide) ?_
  refine GL.skipG (tj := 17) rfl rfl rfl (by decide) ?_
  refine GL.stepG (tj := 14) rfl rfl (Ex.wp (v := (.bool false)) (Ex.pickF rfl rfl) (by decide)) (fun _ _ => ?_)
  refine GL.val (v := (.bool false)) (Ex.pickF rfl rfl) (by decide) ?_
  refine GL.nil ?_
  refine GE.thenN ?_
  refine GC.cond rfl (fun hq1 => by cases hq1) (fun _ => ?_)
  refine GC.skip ?_
  refine GE.thenN ?_
  refine GC.seq ?_
  refine GC.region ?_
  refine GL.step (Stp.buildSlice (cs := [(.int .i64 1)]) (vs := [(0, (.int .i64 1))]) Try.underlying28 T.zr3 T.sz3 rfl (by decide) (by decide) (by first | rfl | kernel_rfl) (by decide)) (fun bq2 _ => ?_)
  refine GL.val (Ex.assign rfl) (by decide) ?_
  refine GL.nil ?_
  refine GE.thenN ?_
  refine GC.seq ?_
  refine GC.seq ?_
  rw [show [Value.int .i64 1] = wl 1 (pv (2 * r)) ++ [] from by simp [wl, List.range_succ, pv_zero]]
  refine GC.region ?_
  refine GL.val (Ex.assign rfl) (by decide) ?_
  refine GL.nil ?_
  refine GE.thenN ?_
  refine GC.block ?_
  refine GC.loop (σ := Nat × Nat × Nat × List Value) (fun q => 1 ≤ q.1 ∧ q.1 ≤ 2 * r + 1 ∧ (wl q.1 (pv (2 * r)) ++ q.2.2.2).length = q.2.2.1 * 1) (fun q => [(0, (.int .i64 1)), (1, (.int .i64 (((r : Nat) : Int)))), (4, (.slice none 0 0)), (5, (.int .i64 0)), (6, (.slice (some ⟨q.2.1, 0, none⟩) q.1 q.2.2.1)), (7, (.int .i64 (((q.1 : Nat) : Int))))]) (fun q => [⟨q.2.1, wl q.1 (pv (2 * r)) ++ q.2.2.2, 3, true⟩]) (fun q => 2 * r + 1 - q.1) ((1, bq2, 1, [])) ⟨Nat.le_refl _, by show 1 ≤ 2 * r + 1; omega, by simp [wl_len]⟩ ((sub_cons rfl ((sub_cons rfl ((sub_cons rfl ((sub_cons rfl ((sub_cons rfl ((sub_cons rfl ((sub_nil _)))))))))))))) (ulC ulN) (fun q hp => ?_)
  obtain ⟨i, b, cap, sp⟩ := q
  have hp : 1 ≤ i ∧ i ≤ 2 * r + 1 ∧ (wl i (pv (2 * r)) ++ sp).length = cap * 1 := hp
  refine GC.seq ?_
  refine GC.seq ?_
  refine GC.region ?_
  refine GL.val (Ex.move rfl) (by decide) ?_
  refine GL.val (Ex.move rfl) (by decide) ?_
  refine GL.val (v := (.int .i64 (((2 * r : Nat) : Int)))) (Ex.mul rfl rfl (Z := ((2 * r : Nat) : Int)) (by rw [w64 (by omega)]; omega)) (by decide) ?_
  refine GL.val (v := (.bool (decide ((((i : Nat) : Int)) ≤ (((2 * r : Nat) : Int)))))) (Ex.leq rfl rfl) (by decide) ?_
  refine GL.nil ?_
  refine GE.thenN ?_
  refine GC.cond rfl (fun hq3 => ?_) (fun hq3 => ?_)
  · replace hq3 := of_decide_eq_true hq3
    refine GC.skip ?_
    refine GE.thenN ?_
    refine GC.seq ?_
    refine GC.block ?_
    refine GC.seq ?_
    refine GC.region ?_
    refine GL.val (Ex.move rfl) (by decide) ?_
    refine GL.val (v := (.bool false)) (Ex.cast (Ex.eql rfl rfl) rfl) (by decide) ?_
    refine GL.nil ?_
    refine GE.thenN ?_
    refine GC.cond rfl (fun hq4 => by cases hq4) (fun _ => ?_)
    refine GC.region ?_
    refine GL.val (Ex.move rfl) (by decide) ?_
    refine GL.val (Ex.move rfl) (by decide) ?_
    refine GL.val (Ex.move rfl) (by decide) ?_
    refine GL.val (v := (.int .i64 (((i - 1 : Nat) : Int)))) (Ex.sub' rfl rfl (Z := ((i - 1 : Nat) : Int)) (subN (b := 1) (by omega) (by omega))) (by decide) ?_
    refine GL.val (v := (.pointer (some ⟨b, (((i - 1 : Nat) : Int)).toNat, none⟩))) (Ex.cast (Ex.indexAddr rfl rfl Try.underlying28 T.sz3 (by omega) (by omega)) (by simp)) (by decide) ?_
    refine GL.val (Ex.load rfl T.ag3 (i := 0) rfl (wl_at' sp (by omega))) (by decide) ?_
    refine GL.val (Ex.move rfl) (by decide) ?_
    refine GL.val (v := (.int .i64 (((2 * r : Nat) : Int)))) (Ex.mul rfl rfl (Z := ((2 * r : Nat) : Int)) (by rw [w64 (by omega)]; omega)) (by decide) ?_
    refine GL.val (Ex.move rfl) (by decide) ?_
    refine GL.val (v := (.int .i64 ((((2 * r : Nat) : Int) - ((i : Nat) : Int))))) (Ex.sub' rfl rfl (Z := (((2 * r : Nat) : Int) - ((i : Nat) : Int))) (w64 (by omega))) (by decide) ?_
    refine GL.val (v := (.int .i64 ((((2 * r : Nat) : Int) - ((i : Nat) : Int) + 1)))) (Ex.add rfl rfl (Z := (((2 * r : Nat) : Int) - ((i : Nat) : Int) + 1)) (w64 (by omega))) (by decide) ?_
    refine GL.val (v := (.int .i64 ((pv (2 * r) (i - 1) * (((2 * r : Nat) : Int) - ((i : Nat) : Int) + 1))))) (Ex.mul rfl rfl (Z := (pv (2 * r) (i - 1) * (((2 * r : Nat) : Int) - ((i : Nat) : Int) + 1))) (pv_mul r (by omega) i (by omega) (by omega) (by omega))) (by decide) ?_
    refine GL.val (Ex.move rfl) (by decide) ?_
    refine GL.val (v := (.int .i64 ((pv (2 * r) i)))) (Ex.quo rfl rfl (Z := (pv (2 * r) i)) (by omega) (pv_quo r (by omega) i (by omega) (by omega) (by omega))) (by decide) ?_
    refine GL.step (Stp.buildSlice (cs := [(.int .i64 ((pv (2 * r) i)))]) (vs := [(0, (.int .i64 ((pv (2 * r) i))))]) Try.underlying28 T.zr3 T.sz3 rfl (by decide) (by decide) (by first | rfl | kernel_rfl) (by decide)) (fun bq5 _ => ?_)
    refine GL.step (Stp.appendOwn (i := 1) (xs := wl i (pv (2 * r))) (sp := sp) (vs := [(.int .i64 ((pv (2 * r) i)))]) (L1 := [⟨bq5, [(.int .i64 ((pv (2 * r) i)))], 3, true⟩]) rfl rfl Try.underlying28 T.sz3 T.zr3 rfl T.by3 rfl (by rw [wl_len]; omega) hp.2.2 (fun wz hz => hz.rdOf (i := 0) rfl 0) rfl rfl (by omega) (by omega) rfl (by decide)) (fun xq6 hq7 => ?_)
    refine GL.val (Ex.assign rfl) (by decide) ?_
    refine GL.nil ?_
    refine GE.blockN ?_
    refine GE.thenN ?_
    refine GC.region ?_
    refine GL.val (Ex.move rfl) (by decide) ?_
    refine GL.val (v := (.int .i64 (((i + 1 : Nat) : Int)))) (Ex.add rfl rfl (Z := ((i + 1 : Nat) : Int)) (by rw [w64 (by omega)]; omega)) (by decide) ?_
    refine GL.val (Ex.assign rfl) (by decide) ?_
    refine GL.nil ?_
    refine GE.thenN ?_
    have hsn : wl i (pv (2 * r)) ++ [Value.int .i64 (pv (2 * r) i)] = wl (i + 1) (pv (2 * r)) := wl_snoc i (pv (2 * r))
    rw [hsn]
    rw [hsn] at hq7
    exact Head.mk ((i + 1, xq6.1, xq6.2.1, xq6.2.2)) ⟨by show 1 ≤ i + 1; omega, by show i + 1 ≤ 2 * r + 1; omega, hq7.1⟩ (by show 2 * r + 1 - (i + 1) < 2 * r + 1 - i; omega) ((sub_cons rfl ((sub_cons rfl ((sub_cons rfl ((sub_cons rfl ((sub_cons rfl ((sub_cons rfl ((sub_nil _)))))))))))))) (ulC (ulS ulN))
  · replace hq3 := of_decide_eq_false hq3
    refine GC.exit ?_
    refine GE.thenE ?_
    refine GE.thenE ?_
    refine GE.blockE ?_
    refine GE.thenN ?_
    refine GC.seq ?_
    refine GC.region ?_
    refine GL.val (Ex.move rfl) (by decide) ?_
    refine GL.val (Ex.assign rfl) (by decide) ?_
    refine GL.val (Ex.assign rfl) (by decide) ?_
    refine GL.nil ?_
    refine GE.thenN ?_
    refine GC.ret ?_
    refine GC.ret2 rfl (Rv.tmp rfl) (Rv.tmp rfl) (fun wN HN => ?_)
    have ei : i = 2 * r + 1 := by omega
    subst ei
    exact HN.ret (b, cap, sp) trivial rfl (ulC ulN) rfl

set_option maxRecDepth 100000 in
set_option maxHeartbeats 1000000 in
theorem ref_weights2 (r : Nat) (w : World) (hr : r ≤ 7) :
    Calls Try.prog 13 #[(.int .i64 2), (.int .i64 (((r : Nat) : Int)))] w (Ret w (fun _ : Nat × Nat × List Value => True) (fun x => .tuple #[.slice (some ⟨x.1, 0, none⟩) (2 * r + 1) x.2.1, .int .i64 0]) (fun x => [⟨x.1, wl (2 * r + 1) (fun _ => 1) ++ x.2.2, 3, true⟩])) := by
  refine enter (M := None) (L := []) (n := 51) (l := [(0, (.int .i64 2)), (1, (.int .i64 (((r : Nat) : Int))))]) Try.func13 rfl rfl (Args.cons rfl (Args.cons rfl (Args.nil _))) (Hp.start _ _) ?_
  refine GC.seq ?_
  refine GC.region ?_
  refine GL.val (Ex.assign rfl) (by decide) ?_
  refine GL.val (Ex.assign rfl) (by decide) ?_
  refine GL.nil ?_
  refine GE.thenN ?_
  refine GC.seq ?_
  refine GC.seq ?_
  refine GC.region ?_
  refine GL.val (Ex.move rfl) (by decide) ?_
  refine GL.val (v := (.bool false)) (Ex.cast (Ex.lss rfl rfl) (congrArg Value.bool (decide_eq_false (by omega)))) (by decide) ?_
  refine GL.val (Ex.move rfl) (by decide) ?_
  refine GL.stepG (tj := 10) rfl rfl (Ex.wp (v := (.int .i64 (((r : Nat) : Int)))) (Ex.move rfl) (by decide)) (fun _ _ => ?_)
  refine GL.stepG (tj := 10) rfl rfl (Ex.wp (v := (.bool false)) (Ex.cast (Ex.gtr rfl rfl) (congrArg Value.bool (decide_eq_false (by omega)))) (by decide)) (fun _ _ => ?_)
  refine GL.val (v := (.bool false)) (Ex.pickF rfl rfl) (by decide) ?_
  refine GL.val (Ex.move rfl) (by decide) ?_
  refine GL.stepG (tj := 14) rfl rfl (Ex.wp (v := (.int .i64 2)) (Ex.move rfl) (by decide)) (fun _ _ => ?_)
  refine GL.stepG (tj := 14) rfl rfl (Ex.wp (v := (.bool true)) (Ex.cast (Ex.neq rfl rfl) rfl) (by decide)) (fun _ _ => ?_)
  refine GL.stepG (tj := 14) rfl rfl (Ex.wp (v := (.bool true)) (Ex.move rfl) (by decide)) (fun _ _ => ?_)
  refine GL.stepG (tj := 17) rfl rfl (Ex.wp (v := (.int .i64 2)) (Ex.move rfl) (by decide)) (fun _ _ => ?_)
  refine GL.stepG (tj := 17) rfl rfl (Ex.wp (v := (.bool false)) (Ex.cast (Ex.neq rfl rfl) rfl) (by decide)) (fun _ _ => ?_)
  refine GL.stepG (tj := 14) rfl rfl (Ex.wp (v := (.bool false)) (Ex.pickT rfl rfl) (by decide)) (fun _ _ => ?_)
  refine GL.val (v := (.bool false)) (Ex.pickF rfl rfl) (by decide) ?_
  refine GL.nil ?_
  refine GE.thenN ?_
  refine GC.cond rfl (fun hq1 => by cases hq1) (fun _ => ?_)
  refine GC.skip ?_
  refine GE.thenN ?_
  refine GC.seq ?_
  refine GC.region ?_
  refine GL.step (Stp.buildSlice (cs := [(.int .i64 1)]) (vs := [(0, (.int .i64 1))]) Try.underlying28 T.zr3 T.sz3 rfl (by decide) (by decide) (by first | rfl | kernel_rfl) (by decide)) (fun bq2 _ => ?_)
  refine GL.val (Ex.assign rfl) (by decide) ?_
  refine GL.nil ?_
  refine GE.thenN ?_
  refine GC.seq ?_
  refine GC.seq ?_
  rw [show [Value.int .i64 1] = wl 1 (fun _ => 1) ++ [] from by simp [wl, List.range_succ]]
  refine GC.region ?_
  refine GL.val (Ex.assign rfl) (by decide) ?_
  refine GL.nil ?_
  refine GE.thenN ?_
  refine GC.block ?_
  refine GC.loop (σ := Nat × Nat × Nat × List Value) (fun q => 1 ≤ q.1 ∧ q.1 ≤ 2 * r + 1 ∧ (wl q.1 (fun _ => 1) ++ q.2.2.2).length = q.2.2.1 * 1) (fun q => [(0, (.int .i64 2)), (1, (.int .i64 (((r : Nat) : Int)))), (4, (.slice none 0 0)), (5, (.int .i64 0)), (6, (.slice (some ⟨q.2.1, 0, none⟩) q.1 q.2.2.1)), (7, (.int .i64 (((q.1 : Nat) : Int))))]) (fun q => [⟨q.2.1, wl q.1 (fun _ => 1) ++ q.2.2.2, 3, true⟩]) (fun q => 2 * r + 1 - q.1) ((1, bq2, 1, [])) ⟨Nat.le_refl _, by show 1 ≤ 2 * r + 1; omega, by simp [wl_len]⟩ ((sub_cons rfl ((sub_cons rfl ((sub_cons rfl ((sub_cons rfl ((sub_cons rfl ((sub_cons rfl ((sub_nil _)))))))))))))) (ulC ulN) (fun q hp => ?_)
  obtain ⟨i, b, cap, sp⟩ := q
  have hp : 1 ≤ i ∧ i ≤ 2 * r + 1 ∧ (wl i (fun _ => 1) ++ sp).length = cap * 1 := hp
  refine GC.seq ?_
  refine GC.seq ?_
  refine GC.region ?_
  refine GL.val (Ex.move rfl) (by decide) ?_
  refine GL.val (Ex.move rfl) (by decide) ?_
  refine GL.val (v := (.int .i64 (((2 * r : Nat) : Int)))) (Ex.mul rfl rfl (Z := ((2 * r : Nat) : Int)) (by rw [w64 (by omega)]; omega)) (by decide) ?_
  refine GL.val (v := (.bool (decide ((((i : Nat) : Int)) ≤ (((2 * r : Nat) : Int)))))) (Ex.leq rfl rfl) (by decide) ?_
  refine GL.nil ?_
  refine GE.thenN ?_
  refine GC.cond rfl (fun hq3 => ?_) (fun hq3 => ?_)
  · replace hq3 := of_decide_eq_true hq3
    refine GC.skip ?_
    refine GE.thenN ?_
    refine GC.seq ?_
    refine GC.block ?_
    refine GC.seq ?_
    refine GC.region ?_
    refine GL.val (Ex.move rfl) (by decide) ?_
    refine GL.val (v := (.bool true)) (Ex.cast (Ex.eql rfl rfl) rfl) (by decide) ?_
    refine GL.nil ?_
    refine GE.thenN ?_
    refine GC.cond rfl (fun _ => ?_) (fun hq4 => by cases hq4)
    refine GC.region ?_
    refine GL.val (Ex.move rfl) (by decide) ?_
    refine GL.step (Stp.buildSlice (cs := [(.int .i64 1)]) (vs := [(0, (.int .i64 1))]) Try.underlying28 T.zr3 T.sz3 rfl (by decide) (by decide) (by first | rfl | kernel_rfl) (by decide)) (fun bq5 _ => ?_)
    refine GL.step (Stp.appendOwn (i := 1) (xs := wl i (fun _ => 1)) (sp := sp) (vs := [(.int .i64 1)]) (L1 := [⟨bq5, [(.int .i64 1)], 3, true⟩]) rfl rfl Try.underlying28 T.sz3 T.zr3 rfl T.by3 rfl (by rw [wl_len]; omega) hp.2.2 (fun wz hz => hz.rdOf (i := 0) rfl 0) rfl rfl (by omega) (by omega) rfl (by decide)) (fun xq6 hq7 => ?_)
    refine GL.val (Ex.assign rfl) (by decide) ?_
    refine GL.nil ?_
    refine GE.blockN ?_
    refine GE.thenN ?_
    refine GC.region ?_
    refine GL.val (Ex.move rfl) (by decide) ?_
    refine GL.val (v := (.int .i64 (((i + 1 : Nat) : Int)))) (Ex.add rfl rfl (Z := ((i + 1 : Nat) : Int)) (by rw [w64 (by omega)]; omega)) (by decide) ?_
    refine GL.val (Ex.assign rfl) (by decide) ?_
    refine GL.nil ?_
    refine GE.thenN ?_
    have hsn : wl i (fun _ => 1) ++ [Value.int .i64 1] = wl (i + 1) (fun _ => 1) := wl_snoc i (fun _ => 1)
    rw [hsn]
    rw [hsn] at hq7
    exact Head.mk ((i + 1, xq6.1, xq6.2.1, xq6.2.2)) ⟨by show 1 ≤ i + 1; omega, by show i + 1 ≤ 2 * r + 1; omega, hq7.1⟩ (by show 2 * r + 1 - (i + 1) < 2 * r + 1 - i; omega) ((sub_cons rfl ((sub_cons rfl ((sub_cons rfl ((sub_cons rfl ((sub_cons rfl ((sub_cons rfl ((sub_nil _)))))))))))))) (ulC (ulS ulN))
  · replace hq3 := of_decide_eq_false hq3
    refine GC.exit ?_
    refine GE.thenE ?_
    refine GE.thenE ?_
    refine GE.blockE ?_
    refine GE.thenN ?_
    refine GC.seq ?_
    refine GC.region ?_
    refine GL.val (Ex.move rfl) (by decide) ?_
    refine GL.val (Ex.assign rfl) (by decide) ?_
    refine GL.val (Ex.assign rfl) (by decide) ?_
    refine GL.nil ?_
    refine GE.thenN ?_
    refine GC.ret ?_
    refine GC.ret2 rfl (Rv.tmp rfl) (Rv.tmp rfl) (fun wN HN => ?_)
    have ei : i = 2 * r + 1 := by omega
    subst ei
    exact HN.ret (b, cap, sp) trivial rfl (ulC ulN) rfl

set_option maxRecDepth 100000 in
set_option maxHeartbeats 1000000 in
theorem ints_eq (b1 b2 n c1 c2 : Nat) (f : Nat → Int) (sp : List Value) (w : World) (hn : n ≤ 1000) (hh : Has w [⟨b1, wl n f, 3, false⟩, ⟨b2, wl n f ++ sp, 3, false⟩]) :
    Calls Try.prog 16 #[(.slice (some ⟨b1, 0, none⟩) n c1), (.slice (some ⟨b2, 0, none⟩) n c2)] w (Ret w (fun _ : Unit => True) (fun _ => .bool true) (fun _ => [])) := by
  refine enter (M := None) (L := [⟨b1, wl n f, 3, false⟩, ⟨b2, wl n f ++ sp, 3, false⟩]) (n := 26) (l := [(0, (.slice (some ⟨b1, 0, none⟩) n c1)), (1, (.slice (some ⟨b2, 0, none⟩) n c2))]) Try.func16 rfl rfl (Args.cons rfl (Args.cons rfl (Args.nil _))) (Hp.reads hh rfl) ?_
  refine GC.seq ?_
  refine GC.region ?_
  refine GL.val (Ex.assign rfl) (by decide) ?_
  refine GL.nil ?_
  refine GE.thenN ?_
  refine GC.seq ?_
  refine GC.seq ?_
  refine GC.region ?_
  refine GL.val (Ex.move rfl) (by decide) ?_
  refine GL.val (v := (.int .i64 ((n : Int)))) (Ex.len rfl Try.underlying28) (by decide) ?_
  refine GL.val (Ex.move rfl) (by decide) ?_
  refine GL.val (v := (.int .i64 ((n : Int)))) (Ex.len rfl Try.underlying28) (by decide) ?_
  refine GL.val (v := (.bool false)) (Ex.cast (Ex.neq rfl rfl) (congrArg Value.bool (decide_eq_false (by simp)))) (by decide) ?_
  refine GL.nil ?_
  refine GE.thenN ?_
  refine GC.cond rfl (fun hq1 => by cases hq1) (fun _ => ?_)
  refine GC.skip ?_
  refine GE.thenN ?_
  refine GC.seq ?_
  refine GC.seq ?_
  refine GC.region ?_
  refine GL.val (Ex.assign rfl) (by decide) ?_
  refine GL.nil ?_
  refine GE.thenN ?_
  refine GC.block ?_
  refine GC.loop (σ := Nat) (fun k => k ≤ n) (fun k => [(0, (.slice (some ⟨b1, 0, none⟩) n c1)), (1, (.slice (some ⟨b2, 0, none⟩) n c2)), (4, (.bool false)), (5, (.int .i64 (((k : Nat) : Int))))]) (fun k => [⟨b1, wl n f, 3, false⟩, ⟨b2, wl n f ++ sp, 3, false⟩]) (fun k => n - k) (0) (Nat.zero_le _) ((sub_cons rfl ((sub_cons rfl ((sub_cons rfl ((sub_cons rfl ((sub_nil _)))))))))) (ulC (ulC ulN)) (fun k hp => ?_)
  refine GC.seq ?_
  refine GC.seq ?_
  refine GC.region ?_
  refine GL.val (Ex.move rfl) (by decide) ?_
  refine GL.val (Ex.move rfl) (by decide) ?_
  refine GL.val (v := (.int .i64 ((n : Int)))) (Ex.len rfl Try.underlying28) (by decide) ?_
  refine GL.val (v := (.bool (decide ((((k : Nat) : Int)) < ((n : Int)))))) (Ex.lss rfl rfl) (by decide) ?_
  refine GL.nil ?_
  refine GE.thenN ?_
  refine GC.cond rfl (fun hq2 => ?_) (fun hq2 => ?_)
  · replace hq2 := of_decide_eq_true hq2
    refine GC.skip ?_
    refine GE.thenN ?_
    refine GC.seq ?_
    refine GC.block ?_
    refine GC.seq ?_
    refine GC.draw [⟨b1, wl n f, 3, false⟩, ⟨b2, wl n f ++ sp, 3, false⟩] T.mixed (fuel := 9) rfl rfl ?_
    refine GH.take 0 (v := (.slice (some ⟨b1, 0, none⟩) n c1)) rfl (by kernel_rfl) (by kernel_rfl) (by kernel_rfl) (fun _ _ _ h => h) (Ex.move rfl) (ulC (ulC ulN)) (by decide) ?_
    refine GH.take 1 (v := (.int .i64 (((k : Nat) : Int)))) rfl (by kernel_rfl) (by kernel_rfl) (by kernel_rfl) (fun _ _ _ h => h) (Ex.move rfl) (ulC (ulC ulN)) (by decide) ?_
    refine GH.take 2 (v := (.pointer (some ⟨b1, k, none⟩))) rfl (by kernel_rfl) (by kernel_rfl) (by kernel_rfl) (fun _ _ _ h => h) (Ex.cast (Ex.indexAddr rfl rfl Try.underlying28 T.sz3 (by omega) (by omega)) (by simp)) (ulC (ulC ulN)) (by decide) ?_
    refine GH.take 3 (v := (.int .i64 ((f k)))) rfl (by kernel_rfl) (by kernel_rfl) (by kernel_rfl) (fun _ _ _ h => h) (Ex.load rfl T.ag3 (i := 0) rfl (wl_at (by omega))) (ulC (ulC ulN)) (by decide) ?_
    refine GH.take 4 (v := (.slice (some ⟨b2, 0, none⟩) n c2)) rfl (by kernel_rfl) (by kernel_rfl) (by kernel_rfl) (fun _ _ _ h => h) (Ex.move rfl) (ulC (ulC ulN)) (by decide) ?_
    refine GH.take 5 (v := (.int .i64 (((k : Nat) : Int)))) rfl (by kernel_rfl) (by kernel_rfl) (by kernel_rfl) (fun _ _ _ h => h) (Ex.move rfl) (ulC (ulC ulN)) (by decide) ?_
    refine GH.take 6 (v := (.pointer (some ⟨b2, k, none⟩))) rfl (by kernel_rfl) (by kernel_rfl) (by kernel_rfl) (fun _ _ _ h => h) (Ex.cast (Ex.indexAddr rfl rfl Try.underlying28 T.sz3 (by omega) (by omega)) (by simp)) (ulC (ulC ulN)) (by decide) ?_
    refine GH.take 7 (v := (.int .i64 ((f k)))) rfl (by kernel_rfl) (by kernel_rfl) (by kernel_rfl) (fun _ _ _ h => h) (Ex.load rfl T.ag3 (i := 1) rfl (wl_at' sp (by omega))) (ulC (ulC ulN)) (by decide) ?_
    refine GH.take 8 (v := (.bool false)) rfl (by kernel_rfl) (by kernel_rfl) (by kernel_rfl) (fun _ _ _ h => h) (Ex.cast (Ex.neq rfl rfl) (congrArg Value.bool (decide_eq_false (by simp)))) (ulC (ulC ulN)) (by decide) ?_
    refine GH.done (by kernel_rfl) ?_
    refine GE.thenN ?_
    refine GC.cond rfl (fun hq3 => by cases hq3) (fun _ => ?_)
    refine GC.skip ?_
    refine GE.blockN ?_
    refine GE.thenN ?_
    refine GC.region ?_
    refine GL.val (Ex.move rfl) (by decide) ?_
    refine GL.val (v := (.int .i64 (((k + 1 : Nat) : Int)))) (Ex.add rfl rfl (Z := ((k + 1 : Nat) : Int)) (w64 (by omega))) (by decide) ?_
    refine GL.val (Ex.assign rfl) (by decide) ?_
    refine GL.nil ?_
    refine GE.thenN ?_
    exact Head.mk (k + 1) (by omega) (by omega) ((sub_cons rfl ((sub_cons rfl ((sub_cons rfl ((sub_cons rfl ((sub_nil _)))))))))) (ulC (ulC ulN))
  · replace hq2 := of_decide_eq_false hq2
    refine GC.exit ?_
    refine GE.thenE ?_
    refine GE.thenE ?_
    refine GE.blockE ?_
    refine GE.thenN ?_
    refine GC.seq ?_
    refine GC.region ?_
    refine GL.val (Ex.assign rfl) (by decide) ?_
    refine GL.nil ?_
    refine GE.thenN ?_
    refine GC.ret ?_
    refine GC.ret1 rfl (Rv.tmp rfl) (fun wN HN => ?_)
    exact HN.ret () trivial rfl (List.nil_sublist _) rfl

set_option maxRecDepth 100000 in
set_option maxHeartbeats 1000000 in
theorem ints_nil (w : World) :
    Calls Try.prog 16 #[(.slice none 0 0), (.slice none 0 0)] w (Ret w (fun _ : Unit => True) (fun _ => .bool true) (fun _ => [])) := by
  refine enter (M := None) (L := []) (n := 26) (l := [(0, (.slice none 0 0)), (1, (.slice none 0 0))]) Try.func16 rfl rfl (Args.cons rfl (Args.cons rfl (Args.nil _))) (Hp.start _ _) ?_
  refine GC.seq ?_
  refine GC.region ?_
  refine GL.val (Ex.assign rfl) (by decide) ?_
  refine GL.nil ?_
  refine GE.thenN ?_
  refine GC.seq ?_
  refine GC.seq ?_
  refine GC.region ?_
  refine GL.val (Ex.move rfl) (by decide) ?_
  refine GL.val (v := (.int .i64 0)) (Ex.len rfl Try.underlying28) (by decide) ?_
  refine GL.val (Ex.move rfl) (by decide) ?_
  refine GL.val (v := (.int .i64 0)) (Ex.len rfl Try.underlying28) (by decide) ?_
  refine GL.val (v := (.bool false)) (Ex.cast (Ex.neq rfl rfl) rfl) (by decide) ?_
  refine GL.nil ?_
  refine GE.thenN ?_
  refine GC.cond rfl (fun hq1 => by cases hq1) (fun _ => ?_)
  refine GC.skip ?_
  refine GE.thenN ?_
  refine GC.seq ?_
  refine GC.seq ?_
  refine GC.region ?_
  refine GL.val (Ex.assign rfl) (by decide) ?_
  refine GL.nil ?_
  refine GE.thenN ?_
  refine GC.block ?_
  refine GC.unroll 1 ?_
  refine GE.round ?_
  refine GC.seq ?_
  refine GC.seq ?_
  refine GC.region ?_
  refine GL.val (Ex.move rfl) (by decide) ?_
  refine GL.val (Ex.move rfl) (by decide) ?_
  refine GL.val (v := (.int .i64 0)) (Ex.len rfl Try.underlying28) (by decide) ?_
  refine GL.val (v := (.bool false)) (Ex.cast (Ex.lss rfl rfl) rfl) (by decide) ?_
  refine GL.nil ?_
  refine GE.thenN ?_
  refine GC.cond rfl (fun hq2 => by cases hq2) (fun _ => ?_)
  refine GC.exit ?_
  refine GE.thenE ?_
  refine GE.thenE ?_
  refine GE.blockE ?_
  refine GE.thenN ?_
  refine GC.seq ?_
  refine GC.region ?_
  refine GL.val (Ex.assign rfl) (by decide) ?_
  refine GL.nil ?_
  refine GE.thenN ?_
  refine GC.ret ?_
  refine GC.ret1 rfl (Rv.tmp rfl) (fun wN HN => ?_)
  exact HN.ret () trivial rfl (List.nil_sublist _) rfl

set_option maxRecDepth 100000 in
set_option maxHeartbeats 1000000 in
theorem num (e : Int) (w : World) :
    Calls Try.prog 15 #[(.int .i64 e)] w (Ret w (fun _ : Unit => True) (fun _ => .int .i64 e) (fun _ => [])) := by
  refine enter (M := None) (L := []) (n := 4) (l := [(0, (.int .i64 e))]) Try.func15 rfl rfl (Args.cons rfl (Args.nil _)) (Hp.start _ _) ?_
  refine GC.seq ?_
  refine GC.region ?_
  refine GL.val (Ex.assign rfl) (by decide) ?_
  refine GL.nil ?_
  refine GE.thenN ?_
  refine GC.seq ?_
  refine GC.region ?_
  refine GL.val (Ex.move rfl) (by decide) ?_
  refine GL.val (Ex.assign rfl) (by decide) ?_
  refine GL.nil ?_
  refine GE.thenN ?_
  refine GC.ret ?_
  refine GC.ret1 rfl (Rv.tmp rfl) (fun wN HN => ?_)
  exact HN.ret () trivial rfl (List.nil_sublist _) rfl

set_option maxRecDepth 100000 in
set_option maxHeartbeats 1000000 in
theorem we_1 (r : Nat) (w : World) (hr : r ≤ 7) :
    Calls Try.prog 4 #[(.int .i64 1), (.int .i64 (((r : Nat) : Int)))] w (Ret w (fun _ : Unit => True) (fun _ => .bool true) (fun _ => [])) := by
  refine enter (M := None) (L := []) (n := 47) (l := [(0, (.int .i64 1)), (1, (.int .i64 (((r : Nat) : Int))))]) Try.func4 rfl rfl (Args.cons rfl (Args.cons rfl (Args.nil _))) (Hp.start _ _) ?_
  refine GC.seq ?_
  refine GC.region ?_
  refine GL.val (Ex.assign rfl) (by decide) ?_
  refine GL.nil ?_
  refine GE.thenN ?_
  refine GC.seq ?_
  refine GC.seq ?_
  refine GC.region ?_
  refine GL.step (Stp.callR (vs := []) rfl rfl T.own12 (by decide) (fun wc hw => known wc)) (fun xq1 hq2 => ?_)
  refine GL.val (v := (.bool false)) (Ex.cast (Ex.not rfl) rfl) (by decide) ?_
  refine GL.nil ?_
  refine GE.thenN ?_
  refine GC.cond rfl (fun hq3 => by cases hq3) (fun _ => ?_)
  refine GC.skip ?_
  refine GE.thenN ?_
  refine GC.seq ?_
  refine GC.region ?_
  refine GL.val (v := (.agg #[(.slice none 0 0), (.slice none 0 0), (.slice none 0 0), (.slice none 0 0), (.slice none 0 0), (.slice none 0 0), (.slice none 0 0), (.slice none 0 0)])) (Ex.build (vs := []) rfl (by first | rfl | kernel_rfl)) (by decide) ?_
  refine GL.step (Stp.box (cs := [(.slice none 0 0), (.slice none 0 0), (.slice none 0 0), (.slice none 0 0), (.slice none 0 0), (.slice none 0 0), (.slice none 0 0), (.slice none 0 0)]) rfl rfl (by decide)) (fun bq4 _ => ?_)
  refine GL.val (Ex.assign rfl) (by decide) ?_
  refine GL.nil ?_
  refine GE.thenN ?_
  refine GC.seq ?_
  refine GC.region ?_
  refine GL.val (Ex.move rfl) (by decide) ?_
  refine GL.val (Ex.move rfl) (by decide) ?_
  refine GL.step (Stp.callR (vs := [(.int .i64 1), (.int .i64 (((r : Nat) : Int)))]) rfl rfl T.own13 (by decide) (fun wc hw => ref_weights1 r wc hr)) (fun xq5 hq6 => ?_)
  refine GL.val (Ex.move rfl) (by decide) ?_
  refine GL.val (Ex.extract rfl rfl) (by decide) ?_
  refine GL.val (Ex.extract rfl rfl) (by decide) ?_
  refine GL.val (Ex.assign rfl) (by decide) ?_
  refine GL.val (Ex.assign rfl) (by decide) ?_
  refine GL.nil ?_
  refine GE.thenN ?_
  refine GC.seq ?_
  refine GC.seq ?_
  refine GC.region ?_
  refine GL.val (Ex.assign rfl) (by decide) ?_
  refine GL.nil ?_
  refine GE.thenN ?_
  refine GC.block ?_
  refine GC.unroll 3 ?_
  refine GE.round ?_
  refine GC.seq ?_
  refine GC.seq ?_
  refine GC.region ?_
  refine GL.val (Ex.move rfl) (by decide) ?_
  refine GL.val (v := (.bool true)) (Ex.cast (Ex.lss rfl rfl) rfl) (by decide) ?_
  refine GL.nil ?_
  refine GE.thenN ?_
  refine GC.cond rfl (fun _ => ?_) (fun hq7 => by cases hq7)
  refine GC.skip ?_
  refine GE.thenN ?_
  refine GC.seq ?_
  refine GC.block ?_
  refine GC.seq ?_
  refine GC.region ?_
  refine GL.val (Ex.move rfl) (by decide) ?_
  refine GL.val (Ex.move rfl) (by decide) ?_
  refine GL.step (Stp.callR (vs := [(.int .i64 1), (.int .i64 (((r : Nat) : Int)))]) rfl rfl T.own14 (by decide) (fun wc hw => weights1 r wc hr)) (fun xq8 hq9 => ?_)
  refine GL.val (Ex.move rfl) (by decide) ?_
  refine GL.val (Ex.extract rfl rfl) (by decide) ?_
  refine GL.val (Ex.extract rfl rfl) (by decide) ?_
  refine GL.val (Ex.assign rfl) (by decide) ?_
  refine GL.val (Ex.assign rfl) (by decide) ?_
  refine GL.nil ?_
  refine GE.thenN ?_
  refine GC.seq ?_
  refine GC.seq ?_
  refine GC.region ?_
  refine GL.val (Ex.move rfl) (by decide) ?_
  refine GL.step (Stp.callR (vs := [(.int .i64 0)]) rfl rfl T.own15 (by decide) (fun wc hw => num 0 wc)) (fun xq10 hq11 => ?_)
  refine GL.val (Ex.move rfl) (by decide) ?_
  refine GL.val (v := (.bool false)) (Ex.cast (Ex.neq rfl rfl) rfl) (by decide) ?_
  refine GL.val (Ex.move rfl) (by decide) ?_
  refine GL.stepG (tj := 35) rfl rfl (Ex.wp (v := (.slice (some ⟨xq8, 0, none⟩) (2 * r + 1) (2 * r + 1))) (Ex.move rfl) (by decide)) (fun _ _ => ?_)
  refine GL.stepG (tj := 35) rfl rfl (Ex.wp (v := (.slice (some ⟨xq5.1, 0, none⟩) (2 * r + 1) xq5.2.1)) (Ex.move rfl) (by decide)) (fun _ _ => ?_)
  refine GL.stepG (tj := 35) rfl rfl (Stp.callR (vs := [(.slice (some ⟨xq8, 0, none⟩) (2 * r + 1) (2 * r + 1)), (.slice (some ⟨xq5.1, 0, none⟩) (2 * r + 1) xq5.2.1)]) rfl rfl T.own16 (by decide) (fun wc hw => ints_eq xq8 xq5.1 (2 * r + 1) (2 * r + 1) xq5.2.1 (pv (2 * r)) xq5.2.2 wc (by omega) (Has.cons (hw.hasOf (i := 0) rfl) (Has.cons (hw.hasOf (i := 1) rfl) (Has.nil _))))) (fun xq12 hq13 => ?_)
  refine GL.stepG (tj := 35) rfl rfl (Ex.wp (v := (.bool false)) (Ex.cast (Ex.not rfl) rfl) (by decide)) (fun _ _ => ?_)
  refine GL.val (v := (.bool false)) (Ex.pickF rfl rfl) (by decide) ?_
  refine GL.nil ?_
  refine GE.thenN ?_
  refine GC.cond rfl (fun hq14 => by cases hq14) (fun _ => ?_)
  refine GC.skip ?_
  refine GE.thenN ?_
  refine GC.region ?_
  refine GL.val (Ex.move rfl) (by decide) ?_
  refine GL.val (Ex.move rfl) (by decide) ?_
  refine GL.val (Ex.move rfl) (by decide) ?_
  refine GL.step (Stp.call (vs := [(.pointer (some ⟨bq4, 0, none⟩)), (.slice (some ⟨xq8, 0, none⟩) (2 * r + 1) (2 * r + 1)), (.int .i64 0)]) rfl rfl T.own17 (by decide) (fun wc hw => booki_s01 w _ bq4 0 xq8 (2 * r + 1) (2 * r + 1) (wl (2 * r + 1) (pv (2 * r))) wc (by rw [wl_len]) (by omega) (hw.pick (idx := [2, 0, 1]) (by decide) rfl))) (fun xq15 hq16 => ?_)
  refine GL.nil ?_
  refine GE.blockN ?_
  refine GE.thenN ?_
  refine GC.region ?_
  refine GL.val (Ex.move rfl) (by decide) ?_
  refine GL.val (v := (.int .i64 1)) (Ex.add rfl rfl (Z := 1) (by decide)) (by decide) ?_
  refine GL.val (Ex.assign rfl) (by decide) ?_
  refine GL.nil ?_
  refine GE.thenN ?_
  refine GE.round ?_
  refine GC.seq ?_
  refine GC.seq ?_
  refine GC.region ?_
  refine GL.val (Ex.move rfl) (by decide) ?_
  refine GL.val (v := (.bool true)) (Ex.cast (Ex.lss rfl rfl) rfl) (by decide) ?_
  refine GL.nil ?_
  refine GE.thenN ?_
  refine GC.cond rfl (fun _ => ?_) (fun hq17 => by cases hq17)
  refine GC.skip ?_
  refine GE.thenN ?_
  refine GC.seq ?_
  refine GC.block ?_
  refine GC.seq ?_
  refine GC.region ?_
  refine GL.val (Ex.move rfl) (by decide) ?_
  refine GL.val (Ex.move rfl) (by decide) ?_
  refine GL.step (Stp.callR (vs := [(.int .i64 1), (.int .i64 (((r : Nat) : Int)))]) rfl rfl T.own14 (by decide) (fun wc hw => weights1 r wc hr)) (fun xq18 hq19 => ?_)
  refine GL.val (Ex.move rfl) (by decide) ?_
  refine GL.val (Ex.extract rfl rfl) (by decide) ?_
  refine GL.val (Ex.extract rfl rfl) (by decide) ?_
  refine GL.val (Ex.assign rfl) (by decide) ?_
  refine GL.val (Ex.assign rfl) (by decide) ?_
  refine GL.nil ?_
  refine GE.thenN ?_
  refine GC.seq ?_
  refine GC.seq ?_
  refine GC.region ?_
  refine GL.val (Ex.move rfl) (by decide) ?_
  refine GL.step (Stp.callR (vs := [(.int .i64 0)]) rfl rfl T.own15 (by decide) (fun wc hw => num 0 wc)) (fun xq20 hq21 => ?_)
  refine GL.val (Ex.move rfl) (by decide) ?_
  refine GL.val (v := (.bool false)) (Ex.cast (Ex.neq rfl rfl) rfl) (by decide) ?_
  refine GL.val (Ex.move rfl) (by decide) ?_
  refine GL.stepG (tj := 35) rfl rfl (Ex.wp (v := (.slice (some ⟨xq18, 0, none⟩) (2 * r + 1) (2 * r + 1))) (Ex.move rfl) (by decide)) (fun _ _ => ?_)
  refine GL.stepG (tj := 35) rfl rfl (Ex.wp (v := (.slice (some ⟨xq5.1, 0, none⟩) (2 * r + 1) xq5.2.1)) (Ex.move rfl) (by decide)) (fun _ _ => ?_)
  refine GL.stepG (tj := 35) rfl rfl (Stp.callR (vs := [(.slice (some ⟨xq18, 0, none⟩) (2 * r + 1) (2 * r + 1)), (.slice (some ⟨xq5.1, 0, none⟩) (2 * r + 1) xq5.2.1)]) rfl rfl T.own16 (by decide) (fun wc hw => ints_eq xq18 xq5.1 (2 * r + 1) (2 * r + 1) xq5.2.1 (pv (2 * r)) xq5.2.2 wc (by omega) (Has.cons (hw.hasOf (i := 0) rfl) (Has.cons (hw.hasOf (i := 5) rfl) (Has.nil _))))) (fun xq22 hq23 => ?_)
  refine GL.stepG (tj := 35) rfl rfl (Ex.wp (v := (.bool false)) (Ex.cast (Ex.not rfl) rfl) (by decide)) (fun _ _ => ?_)
  refine GL.val (v := (.bool false)) (Ex.pickF rfl rfl) (by decide) ?_
  refine GL.nil ?_
  refine GE.thenN ?_
  refine GC.cond rfl (fun hq24 => by cases hq24) (fun _ => ?_)
  refine GC.skip ?_
  refine GE.thenN ?_
  refine GC.region ?_
  refine GL.val (Ex.move rfl) (by decide) ?_
  refine GL.val (Ex.move rfl) (by decide) ?_
  refine GL.val (Ex.move rfl) (by decide) ?_
  refine GL.step (Stp.call (vs := [(.pointer (some ⟨bq4, 0, none⟩)), (.slice (some ⟨xq18, 0, none⟩) (2 * r + 1) (2 * r + 1)), (.int .i64 1)]) rfl rfl T.own17 (by decide) (fun wc hw => booki_s11 w _ bq4 1 xq18 (2 * r + 1) (2 * r + 1) (wl (2 * r + 1) (pv (2 * r))) 1 xq15.2.1 xq15.2.2.1 xq15.1.1 xq15.1.2.1 ([(Value.slice (some ⟨xq8, 0, none⟩) (2 * r + 1) (2 * r + 1))]) xq15.2.2.2 ([(Value.int .i64 0)]) xq15.1.2.2 wc (by rw [wl_len]) (by omega) (by first | decide | omega) (by first | rfl | omega) (by first | rfl | omega) hq16.1 hq16.2 (hw.pick (idx := [3, 2, 1, 0, 4, 5]) (by decide) rfl))) (fun xq25 hq26 => ?_)
  refine GL.nil ?_
  refine GE.blockN ?_
  refine GE.thenN ?_
  refine GC.region ?_
  refine GL.val (Ex.move rfl) (by decide) ?_
  refine GL.val (v := (.int .i64 2)) (Ex.add rfl rfl (Z := 2) (by decide)) (by decide) ?_
  refine GL.val (Ex.assign rfl) (by decide) ?_
  refine GL.nil ?_
  refine GE.thenN ?_
  refine GE.round ?_
  refine GC.seq ?_
  refine GC.seq ?_
  refine GC.region ?_
  refine GL.val (Ex.move rfl) (by decide) ?_
  refine GL.val (v := (.bool false)) (Ex.cast (Ex.lss rfl rfl) rfl) (by decide) ?_
  refine GL.nil ?_
  refine GE.thenN ?_
  refine GC.cond rfl (fun hq27 => by cases hq27) (fun _ => ?_)
  refine GC.exit ?_
  refine GE.thenE ?_
  refine GE.thenE ?_
  refine GE.blockE ?_
  refine GE.thenN ?_
  refine GC.seq ?_
  refine GC.region ?_
  refine GL.val (Ex.move rfl) (by decide) ?_
  refine GL.step (Stp.callR (vs := [(.pointer (some ⟨bq4, 0, none⟩))]) rfl rfl T.own18 (by decide) (fun wc hw => booki_hold bq4 2 xq25.2.1 xq25.2.2.1 xq25.1.1 xq25.1.2.1 ([⟨(some ⟨xq8, 0, none⟩), 2 * r + 1, 0⟩, ⟨(some ⟨xq18, 0, none⟩), 2 * r + 1, 1⟩] : List It) xq25.2.2.2 xq25.1.2.2 wc rfl (by decide) (it_consI (it_blkI (by omega) (hw.rdOf (i := 4) rfl 0)) (it_consI (it_blkI (by omega) (hw.rdOf (i := 3) rfl 0)) it_allI)) (Has.cons (hw.hasOf (i := 2) rfl) (Has.cons (hw.hasOf (i := 1) rfl) (Has.cons (hw.hasOf (i := 0) rfl) (Has.nil _)))))) (fun xq28 hq29 => ?_)
  refine GL.val (Ex.assign rfl) (by decide) ?_
  refine GL.nil ?_
  refine GE.thenN ?_
  refine GC.ret ?_
  refine GC.ret1 rfl (Rv.tmp rfl) (fun wN HN => ?_)
  exact HN.ret () trivial rfl (List.nil_sublist _) rfl

set_option maxRecDepth 100000 in
set_option maxHeartbeats 1000000 in
theorem we_2 (r : Nat) (w : World) (hr : r ≤ 7) :
    Calls Try.prog 4 #[(.int .i64 2), (.int .i64 (((r : Nat) : Int)))] w (Ret w (fun _ : Unit => True) (fun _ => .bool true) (fun _ => [])) := by
  refine enter (M := None) (L := []) (n := 47) (l := [(0, (.int .i64 2)), (1, (.int .i64 (((r : Nat) : Int))))]) Try.func4 rfl rfl (Args.cons rfl (Args.cons rfl (Args.nil _))) (Hp.start _ _) ?_
  refine GC.seq ?_
  refine GC.region ?_
  refine GL.val (Ex.assign rfl) (by decide) ?_
  refine GL.nil ?_
  refine GE.thenN ?_
  refine GC.seq ?_
  refine GC.seq ?_
  refine GC.region ?_
  refine GL.step (Stp.callR (vs := []) rfl rfl T.own12 (by decide) (fun wc hw => known wc)) (fun xq1 hq2 => ?_)
  refine GL.val (v := (.bool false)) (Ex.cast (Ex.not rfl) rfl) (by decide) ?_
  refine GL.nil ?_
  refine GE.thenN ?_
  refine GC.cond rfl (fun hq3 => by cases hq3) (fun _ => ?_)
  refine GC.skip ?_
  refine GE.thenN ?_
  refine GC.seq ?_
  refine GC.region ?_
  refine GL.val (v := (.agg #[(.slice none 0 0), (.slice none 0 0), (.slice none 0 0), (.slice none 0 0), (.slice none 0 0), (.slice none 0 0), (.slice none 0 0), (.slice none 0 0)])) (Ex.build (vs := []) rfl (by first | rfl | kernel_rfl)) (by decide) ?_
  refine GL.step (Stp.box (cs := [(.slice none 0 0), (.slice none 0 0), (.slice none 0 0), (.slice none 0 0), (.slice none 0 0), (.slice none 0 0), (.slice none 0 0), (.slice none 0 0)]) rfl rfl (by decide)) (fun bq4 _ => ?_)
  refine GL.val (Ex.assign rfl) (by decide) ?_
  refine GL.nil ?_
  refine GE.thenN ?_
  refine GC.seq ?_
  refine GC.region ?_
  refine GL.val (Ex.move rfl) (by decide) ?_
  refine GL.val (Ex.move rfl) (by decide) ?_
  refine GL.step (Stp.callR (vs := [(.int .i64 2), (.int .i64 (((r : Nat) : Int)))]) rfl rfl T.own13 (by decide) (fun wc hw => ref_weights2 r wc hr)) (fun xq5 hq6 => ?_)
  refine GL.val (Ex.move rfl) (by decide) ?_
  refine GL.val (Ex.extract rfl rfl) (by decide) ?_
  refine GL.val (Ex.extract rfl rfl) (by decide) ?_
  refine GL.val (Ex.assign rfl) (by decide) ?_
  refine GL.val (Ex.assign rfl) (by decide) ?_
  refine GL.nil ?_
  refine GE.thenN ?_
  refine GC.seq ?_
  refine GC.seq ?_
  refine GC.region ?_
  refine GL.val (Ex.assign rfl) (by decide) ?_
  refine GL.nil ?_
  refine GE.thenN ?_
  refine GC.block ?_
  refine GC.unroll 3 ?_
  refine GE.round ?_
  refine GC.seq ?_
  refine GC.seq ?_
  refine GC.region ?_
  refine GL.val (Ex.move rfl) (by decide) ?_
  refine GL.val (v := (.bool true)) (Ex.cast (Ex.lss rfl rfl) rfl) (by decide) ?_
  refine GL.nil ?_
  refine GE.thenN ?_
  refine GC.cond rfl (fun _ => ?_) (fun hq7 => by cases hq7)
  refine GC.skip ?_
  refine GE.thenN ?_
  refine GC.seq ?_
  refine GC.block ?_
  refine GC.seq ?_
  refine GC.region ?_
  refine GL.val (Ex.move rfl) (by decide) ?_
  refine GL.val (Ex.move rfl) (by decide) ?_
  refine GL.step (Stp.callR (vs := [(.int .i64 2), (.int .i64 (((r : Nat) : Int)))]) rfl rfl T.own14 (by decide) (fun wc hw => weights2 r wc hr)) (fun xq8 hq9 => ?_)
  refine GL.val (Ex.move rfl) (by decide) ?_
  refine GL.val (Ex.extract rfl rfl) (by decide) ?_
  refine GL.val (Ex.extract rfl rfl) (by decide) ?_
  refine GL.val (Ex.assign rfl) (by decide) ?_
  refine GL.val (Ex.assign rfl) (by decide) ?_
  refine GL.nil ?_
  refine GE.thenN ?_
  refine GC.seq ?_
  refine GC.seq ?_
  refine GC.region ?_
  refine GL.val (Ex.move rfl) (by decide) ?_
  refine GL.step (Stp.callR (vs := [(.int .i64 0)]) rfl rfl T.own15 (by decide) (fun wc hw => num 0 wc)) (fun xq10 hq11 => ?_)
  refine GL.val (Ex.move rfl) (by decide) ?_
  refine GL.val (v := (.bool false)) (Ex.cast (Ex.neq rfl rfl) rfl) (by decide) ?_
  refine GL.val (Ex.move rfl) (by decide) ?_
  refine GL.stepG (tj := 35) rfl rfl (Ex.wp (v := (.slice (some ⟨xq8, 0, none⟩) (2 * r + 1) (2 * r + 1))) (Ex.move rfl) (by decide)) (fun _ _ => ?_)
  refine GL.stepG (tj := 35) rfl rfl (Ex.wp (v := (.slice (some ⟨xq5.1, 0, none⟩) (2 * r + 1) xq5.2.1)) (Ex.move rfl) (by decide)) (fun _ _ => ?_)
  refine GL.stepG (tj := 35) rfl rfl (Stp.callR (vs := [(.slice (some ⟨xq8, 0, none⟩) (2 * r + 1) (2 * r + 1)), (.slice (some ⟨xq5.1, 0, none⟩) (2 * r + 1) xq5.2.1)]) rfl rfl T.own16 (by decide) (fun wc hw => ints_eq xq8 xq5.1 (2 * r + 1) (2 * r + 1) xq5.2.1 (fun _ => 1) xq5.2.2 wc (by omega) (Has.cons (hw.hasOf (i := 0) rfl) (Has.cons (hw.hasOf (i := 1) rfl) (Has.nil _))))) (fun xq12 hq13 => ?_)
  refine GL.stepG (tj := 35) rfl rfl (Ex.wp (v := (.bool false)) (Ex.cast (Ex.not rfl) rfl) (by decide)) (fun _ _ => ?_)
  refine GL.val (v := (.bool false)) (Ex.pickF rfl rfl) (by decide) ?_
  refine GL.nil ?_
  refine GE.thenN ?_
  refine GC.cond rfl (fun hq14 => by cases hq14) (fun _ => ?_)
  refine GC.skip ?_
  refine GE.thenN ?_
  refine GC.region ?_
  refine GL.val (Ex.move rfl) (by decide) ?_
  refine GL.val (Ex.move rfl) (by decide) ?_
  refine GL.val (Ex.move rfl) (by decide) ?_
  refine GL.step (Stp.call (vs := [(.pointer (some ⟨bq4, 0, none⟩)), (.slice (some ⟨xq8, 0, none⟩) (2 * r + 1) (2 * r + 1)), (.int .i64 0)]) rfl rfl T.own17 (by decide) (fun wc hw => booki_s01 w _ bq4 0 xq8 (2 * r + 1) (2 * r + 1) (wl (2 * r + 1) (fun _ => 1)) wc (by rw [wl_len]) (by omega) (hw.pick (idx := [2, 0, 1]) (by decide) rfl))) (fun xq15 hq16 => ?_)
  refine GL.nil ?_
  refine GE.blockN ?_
  refine GE.thenN ?_
  refine GC.region ?_
  refine GL.val (Ex.move rfl) (by decide) ?_
  refine GL.val (v := (.int .i64 1)) (Ex.add rfl rfl (Z := 1) (by decide)) (by decide) ?_
  refine GL.val (Ex.assign rfl) (by decide) ?_
  refine GL.nil ?_
  refine GE.thenN ?_
  refine GE.round ?_
  refine GC.seq ?_
  refine GC.seq ?_
  refine GC.region ?_
  refine GL.val (Ex.move rfl) (by decide) ?_
  refine GL.val (v := (.bool true)) (Ex.cast (Ex.lss rfl rfl) rfl) (by decide) ?_
  refine GL.nil ?_
  refine GE.thenN ?_
  refine GC.cond rfl (fun _ => ?_) (fun hq17 => by cases hq17)
  refine GC.skip ?_
  refine GE.thenN ?_
  refine GC.seq ?_
  refine GC.block ?_
  refine GC.seq ?_
  refine GC.region ?_
  refine GL.val (Ex.move rfl) (by decide) ?_
  refine GL.val (Ex.move rfl) (by decide) ?_
  refine GL.step (Stp.callR (vs := [(.int .i64 2), (.int .i64 (((r : Nat) : Int)))]) rfl rfl T.own14 (by decide) (fun wc hw => weights2 r wc hr)) (fun xq18 hq19 => ?_)
  refine GL.val (Ex.move rfl) (by decide) ?_
  refine GL.val (Ex.extract rfl rfl) (by decide) ?_
  refine GL.val (Ex.extract rfl rfl) (by decide) ?_
  refine GL.val (Ex.assign rfl) (by decide) ?_
  refine GL.val (Ex.assign rfl) (by decide) ?_
  refine GL.nil ?_
  refine GE.thenN ?_
  refine GC.seq ?_
  refine GC.seq ?_
  refine GC.region ?_
  refine GL.val (Ex.move rfl) (by decide) ?_
  refine GL.step (Stp.callR (vs := [(.int .i64 0)]) rfl rfl T.own15 (by decide) (fun wc hw => num 0 wc)) (fun xq20 hq21 => ?_)
  refine GL.val (Ex.move rfl) (by decide) ?_
  refine GL.val (v := (.bool false)) (Ex.cast (Ex.neq rfl rfl) rfl) (by decide) ?_
  refine GL.val (Ex.move rfl) (by decide) ?_
  refine GL.stepG (tj := 35) rfl rfl (Ex.wp (v := (.slice (some ⟨xq18, 0, none⟩) (2 * r + 1) (2 * r + 1))) (Ex.move rfl) (by decide)) (fun _ _ => ?_)
  refine GL.stepG (tj := 35) rfl rfl (Ex.wp (v := (.slice (some ⟨xq5.1, 0, none⟩) (2 * r + 1) xq5.2.1)) (Ex.move rfl) (by decide)) (fun _ _ => ?_)
  refine GL.stepG (tj := 35) rfl rfl (Stp.callR (vs := [(.slice (some ⟨xq18, 0, none⟩) (2 * r + 1) (2 * r + 1)), (.slice (some ⟨xq5.1, 0, none⟩) (2 * r + 1) xq5.2.1)]) rfl rfl T.own16 (by decide) (fun wc hw => ints_eq xq18 xq5.1 (2 * r + 1) (2 * r + 1) xq5.2.1 (fun _ => 1) xq5.2.2 wc (by omega) (Has.cons (hw.hasOf (i := 0) rfl) (Has.cons (hw.hasOf (i := 5) rfl) (Has.nil _))))) (fun xq22 hq23 => ?_)
  refine GL.stepG (tj := 35) rfl rfl (Ex.wp (v := (.bool false)) (Ex.cast (Ex.not rfl) rfl) (by decide)) (fun _ _ => ?_)
  refine GL.val (v := (.bool false)) (Ex.pickF rfl rfl) (by decide) ?_
  refine GL.nil ?_
  refine GE.thenN ?_
  refine GC.cond rfl (fun hq24 => by cases hq24) (fun _ => ?_)
  refine GC.skip ?_
  refine GE.thenN ?_
  refine GC.region ?_
  refine GL.val (Ex.move rfl) (by decide) ?_
  refine GL.val (Ex.move rfl) (by decide) ?_
  refine GL.val (Ex.move rfl) (by decide) ?_
  refine GL.step (Stp.call (vs := [(.pointer (some ⟨bq4, 0, none⟩)), (.slice (some ⟨xq18, 0, none⟩) (2 * r + 1) (2 * r + 1)), (.int .i64 1)]) rfl rfl T.own17 (by decide) (fun wc hw => booki_s11 w _ bq4 1 xq18 (2 * r + 1) (2 * r + 1) (wl (2 * r + 1) (fun _ => 1)) 1 xq15.2.1 xq15.2.2.1 xq15.1.1 xq15.1.2.1 ([(Value.slice (some ⟨xq8, 0, none⟩) (2 * r + 1) (2 * r + 1))]) xq15.2.2.2 ([(Value.int .i64 0)]) xq15.1.2.2 wc (by rw [wl_len]) (by omega) (by first | decide | omega) (by first | rfl | omega) (by first | rfl | omega) hq16.1 hq16.2 (hw.pick (idx := [3, 2, 1, 0, 4, 5]) (by decide) rfl))) (fun xq25 hq26 => ?_)
  refine GL.nil ?_
  refine GE.blockN ?_
  refine GE.thenN ?_
  refine GC.region ?_
  refine GL.val (Ex.move rfl) (by decide) ?_
  refine GL.val (v := (.int .i64 2)) (Ex.add rfl rfl (Z := 2) (by decide)) (by decide) ?_
  refine GL.val (Ex.assign rfl) (by decide) ?_
  refine GL.nil ?_
  refine GE.thenN ?_
  refine GE.round ?_
  refine GC.seq ?_
  refine GC.seq ?_
  refine GC.region ?_
  refine GL.val (Ex.move rfl) (by decide) ?_
  refine GL.val (v := (.bool false)) (Ex.cast (Ex.lss rfl rfl) rfl) (by decide) ?_
  refine GL.nil ?_
  refine GE.thenN ?_
  refine GC.cond rfl (fun hq27 => by cases hq27) (fun _ => ?_)
  refine GC.exit ?_
  refine GE.thenE ?_
  refine GE.thenE ?_
  refine GE.blockE ?_
  refine GE.thenN ?_
  refine GC.seq ?_
  refine GC.region ?_
  refine GL.val (Ex.move rfl) (by decide) ?_
  refine GL.step (Stp.callR (vs := [(.pointer (some ⟨bq4, 0, none⟩))]) rfl rfl T.own18 (by decide) (fun wc hw => booki_hold bq4 2 xq25.2.1 xq25.2.2.1 xq25.1.1 xq25.1.2.1 ([⟨(some ⟨xq8, 0, none⟩), 2 * r + 1, 0⟩, ⟨(some ⟨xq18, 0, none⟩), 2 * r + 1, 1⟩] : List It) xq25.2.2.2 xq25.1.2.2 wc rfl (by decide) (it_consI (it_blkI (by omega) (hw.rdOf (i := 4) rfl 0)) (it_consI (it_blkI (by omega) (hw.rdOf (i := 3) rfl 0)) it_allI)) (Has.cons (hw.hasOf (i := 2) rfl) (Has.cons (hw.hasOf (i := 1) rfl) (Has.cons (hw.hasOf (i := 0) rfl) (Has.nil _)))))) (fun xq28 hq29 => ?_)
  refine GL.val (Ex.assign rfl) (by decide) ?_
  refine GL.nil ?_
  refine GE.thenN ?_
  refine GC.ret ?_
  refine GC.ret1 rfl (Rv.tmp rfl) (fun wN HN => ?_)
  exact HN.ret () trivial rfl (List.nil_sublist _) rfl

set_option maxRecDepth 100000 in
set_option maxHeartbeats 1000000 in
theorem we_bad (kd r : Int) (w : World) (hb : ¬ (0 ≤ r ∧ r ≤ 7 ∧ (kd = 1 ∨ kd = 2))) :
    Calls Try.prog 4 #[(.int .i64 kd), (.int .i64 r)] w (Ret w (fun _ : Unit => True) (fun _ => .bool true) (fun _ => [])) := by
  refine enter (M := None) (L := []) (n := 47) (l := [(0, (.int .i64 kd)), (1, (.int .i64 r))]) Try.func4 rfl rfl (Args.cons rfl (Args.cons rfl (Args.nil _))) (Hp.start _ _) ?_
  refine GC.seq ?_
  refine GC.region ?_
  refine GL.val (Ex.assign rfl) (by decide) ?_
  refine GL.nil ?_
  refine GE.thenN ?_
  refine GC.seq ?_
  refine GC.seq ?_
  refine GC.region ?_
  refine GL.step (Stp.callR (vs := []) rfl rfl T.own12 (by decide) (fun wc hw => known wc)) (fun xq1 hq2 => ?_)
  refine GL.val (v := (.bool false)) (Ex.cast (Ex.not rfl) rfl) (by decide) ?_
  refine GL.nil ?_
  refine GE.thenN ?_
  refine GC.cond rfl (fun hq3 => by cases hq3) (fun _ => ?_)
  refine GC.skip ?_
  refine GE.thenN ?_
  refine GC.seq ?_
  refine GC.region ?_
  refine GL.val (v := (.agg #[(.slice none 0 0), (.slice none 0 0), (.slice none 0 0), (.slice none 0 0), (.slice none 0 0), (.slice none 0 0), (.slice none 0 0), (.slice none 0 0)])) (Ex.build (vs := []) rfl (by first | rfl | kernel_rfl)) (by decide) ?_
  refine GL.step (Stp.box (cs := [(.slice none 0 0), (.slice none 0 0), (.slice none 0 0), (.slice none 0 0), (.slice none 0 0), (.slice none 0 0), (.slice none 0 0), (.slice none 0 0)]) rfl rfl (by decide)) (fun bq4 _ => ?_)
  refine GL.val (Ex.assign rfl) (by decide) ?_
  refine GL.nil ?_
  refine GE.thenN ?_
  refine GC.seq ?_
  refine GC.region ?_
  refine GL.val (Ex.move rfl) (by decide) ?_
  refine GL.val (Ex.move rfl) (by decide) ?_
  refine GL.step (Stp.callR (vs := [(.int .i64 kd), (.int .i64 r)]) rfl rfl T.own13 (by decide) (fun wc hw => ref_weights_bad kd r wc hb)) (fun xq5 hq6 => ?_)
  refine GL.val (Ex.move rfl) (by decide) ?_
  refine GL.val (Ex.extract rfl rfl) (by decide) ?_
  refine GL.val (Ex.extract rfl rfl) (by decide) ?_
  refine GL.val (Ex.assign rfl) (by decide) ?_
  refine GL.val (Ex.assign rfl) (by decide) ?_
  refine GL.nil ?_
  refine GE.thenN ?_
  refine GC.seq ?_
  refine GC.seq ?_
  refine GC.region ?_
  refine GL.val (Ex.assign rfl) (by decide) ?_
  refine GL.nil ?_
  refine GE.thenN ?_
  refine GC.block ?_
  refine GC.unroll 3 ?_
  refine GE.round ?_
  refine GC.seq ?_
  refine GC.seq ?_
  refine GC.region ?_
  refine GL.val (Ex.move rfl) (by decide) ?_
  refine GL.val (v := (.bool true)) (Ex.cast (Ex.lss rfl rfl) rfl) (by decide) ?_
  refine GL.nil ?_
  refine GE.thenN ?_
  refine GC.cond rfl (fun _ => ?_) (fun hq7 => by cases hq7)
  refine GC.skip ?_
  refine GE.thenN ?_
  refine GC.seq ?_
  refine GC.block ?_
  refine GC.seq ?_
  refine GC.region ?_
  refine GL.val (Ex.move rfl) (by decide) ?_
  refine GL.val (Ex.move rfl) (by decide) ?_
  refine GL.step (Stp.callR (vs := [(.int .i64 kd), (.int .i64 r)]) rfl rfl T.own14 (by decide) (fun wc hw => weights_bad kd r wc hb)) (fun xq8 hq9 => ?_)
  refine GL.val (Ex.move rfl) (by decide) ?_
  refine GL.val (Ex.extract rfl rfl) (by decide) ?_
  refine GL.val (Ex.extract rfl rfl) (by decide) ?_
  refine GL.val (Ex.assign rfl) (by decide) ?_
  refine GL.val (Ex.assign rfl) (by decide) ?_
  refine GL.nil ?_
  refine GE.thenN ?_
  refine GC.seq ?_
  refine GC.seq ?_
  refine GC.region ?_
  refine GL.val (Ex.move rfl) (by decide) ?_
  refine GL.step (Stp.callR (vs := [(.int .i64 110)]) rfl rfl T.own15 (by decide) (fun wc hw => num 110 wc)) (fun xq10 hq11 => ?_)
  refine GL.val (Ex.move rfl) (by decide) ?_
  refine GL.val (v := (.bool false)) (Ex.cast (Ex.neq rfl rfl) rfl) (by decide) ?_
  refine GL.val (Ex.move rfl) (by decide) ?_
  refine GL.stepG (tj := 35) rfl rfl (Ex.wp (v := (.slice none 0 0)) (Ex.move rfl) (by decide)) (fun _ _ => ?_)
  refine GL.stepG (tj := 35) rfl rfl (Ex.wp (v := (.slice none 0 0)) (Ex.move rfl) (by decide)) (fun _ _ => ?_)
  refine GL.stepG (tj := 35) rfl rfl (Stp.callR (vs := [(.slice none 0 0), (.slice none 0 0)]) rfl rfl T.own16 (by decide) (fun wc hw => ints_nil wc)) (fun xq12 hq13 => ?_)
  refine GL.stepG (tj := 35) rfl rfl (Ex.wp (v := (.bool false)) (Ex.cast (Ex.not rfl) rfl) (by decide)) (fun _ _ => ?_)
  refine GL.val (v := (.bool false)) (Ex.pickF rfl rfl) (by decide) ?_
  refine GL.nil ?_
  refine GE.thenN ?_
  refine GC.cond rfl (fun hq14 => by cases hq14) (fun _ => ?_)
  refine GC.skip ?_
  refine GE.thenN ?_
  refine GC.region ?_
  refine GL.val (Ex.move rfl) (by decide) ?_
  refine GL.val (Ex.move rfl) (by decide) ?_
  refine GL.val (Ex.move rfl) (by decide) ?_
  refine GL.step (Stp.call (vs := [(.pointer (some ⟨bq4, 0, none⟩)), (.slice none 0 0), (.int .i64 0)]) rfl rfl T.own17 (by decide) (fun wc hw => booki_s00 w _ bq4 0 wc (hw.pick (idx := [0]) (by decide) rfl))) (fun xq15 hq16 => ?_)
  refine GL.nil ?_
  refine GE.blockN ?_
  refine GE.thenN ?_
  refine GC.region ?_
  refine GL.val (Ex.move rfl) (by decide) ?_
  refine GL.val (v := (.int .i64 1)) (Ex.add rfl rfl (Z := 1) (by decide)) (by decide) ?_
  refine GL.val (Ex.assign rfl) (by decide) ?_
  refine GL.nil ?_
  refine GE.thenN ?_
  refine GE.round ?_
  refine GC.seq ?_
  refine GC.seq ?_
  refine GC.region ?_
  refine GL.val (Ex.move rfl) (by decide) ?_
  refine GL.val (v := (.bool true)) (Ex.cast (Ex.lss rfl rfl) rfl) (by decide) ?_
  refine GL.nil ?_
  refine GE.thenN ?_
  refine GC.cond rfl (fun _ => ?_) (fun hq17 => by cases hq17)
  refine GC.skip ?_
  refine GE.thenN ?_
  refine GC.seq ?_
  refine GC.block ?_
  refine GC.seq ?_
  refine GC.region ?_
  refine GL.val (Ex.move rfl) (by decide) ?_
  refine GL.val (Ex.move rfl) (by decide) ?_
  refine GL.step (Stp.callR (vs := [(.int .i64 kd), (.int .i64 r)]) rfl rfl T.own14 (by decide) (fun wc hw => weights_bad kd r wc hb)) (fun xq18 hq19 => ?_)
  refine GL.val (Ex.move rfl) (by decide) ?_
  refine GL.val (Ex.extract rfl rfl) (by decide) ?_
  refine GL.val (Ex.extract rfl rfl) (by decide) ?_
  refine GL.val (Ex.assign rfl) (by decide) ?_
  refine GL.val (Ex.assign rfl) (by decide) ?_
  refine GL.nil ?_
  refine GE.thenN ?_
  refine GC.seq ?_
  refine GC.seq ?_
  refine GC.region ?_
  refine GL.val (Ex.move rfl) (by decide) ?_
  refine GL.step (Stp.callR (vs := [(.int .i64 110)]) rfl rfl T.own15 (by decide) (fun wc hw => num 110 wc)) (fun xq20 hq21 => ?_)
  refine GL.val (Ex.move rfl) (by decide) ?_
  refine GL.val (v := (.bool false)) (Ex.cast (Ex.neq rfl rfl) rfl) (by decide) ?_
  refine GL.val (Ex.move rfl) (by decide) ?_
  refine GL.stepG (tj := 35) rfl rfl (Ex.wp (v := (.slice none 0 0)) (Ex.move rfl) (by decide)) (fun _ _ => ?_)
  refine GL.stepG (tj := 35) rfl rfl (Ex.wp (v := (.slice none 0 0)) (Ex.move rfl) (by decide)) (fun _ _ => ?_)
  refine GL.stepG (tj := 35) rfl rfl (Stp.callR (vs := [(.slice none 0 0), (.slice none 0 0)]) rfl rfl T.own16 (by decide) (fun wc hw => ints_nil wc)) (fun xq22 hq23 => ?_)
  refine GL.stepG (tj := 35) rfl rfl (Ex.wp (v := (.bool false)) (Ex.cast (Ex.not rfl) rfl) (by decide)) (fun _ _ => ?_)
  refine GL.val (v := (.bool false)) (Ex.pickF rfl rfl) (by decide) ?_
  refine GL.nil ?_
  refine GE.thenN ?_
  refine GC.cond rfl (fun hq24 => by cases hq24) (fun _ => ?_)
  refine GC.skip ?_
  refine GE.thenN ?_
  refine GC.region ?_
  refine GL.val (Ex.move rfl) (by decide) ?_
  refine GL.val (Ex.move rfl) (by decide) ?_
  refine GL.val (Ex.move rfl) (by decide) ?_
  refine GL.step (Stp.call (vs := [(.pointer (some ⟨bq4, 0, none⟩)), (.slice none 0 0), (.int .i64 1)]) rfl rfl T.own17 (by decide) (fun wc hw => booki_s10 w _ bq4 1 1 xq15.2.1 xq15.2.2.1 xq15.1.1 xq15.1.2.1 ([(Value.slice none 0 0)]) xq15.2.2.2 ([(Value.int .i64 0)]) xq15.1.2.2 wc (by first | decide | omega) (by first | rfl | omega) (by first | rfl | omega) hq16.1 hq16.2 (hw.pick (idx := [2, 1, 0]) (by decide) rfl))) (fun xq25 hq26 => ?_)
  refine GL.nil ?_
  refine GE.blockN ?_
  refine GE.thenN ?_
  refine GC.region ?_
  refine GL.val (Ex.move rfl) (by decide) ?_
  refine GL.val (v := (.int .i64 2)) (Ex.add rfl rfl (Z := 2) (by decide)) (by decide) ?_
  refine GL.val (Ex.assign rfl) (by decide) ?_
  refine GL.nil ?_
  refine GE.thenN ?_
  refine GE.round ?_
  refine GC.seq ?_
  refine GC.seq ?_
  refine GC.region ?_
  refine GL.val (Ex.move rfl) (by decide) ?_
  refine GL.val (v := (.bool false)) (Ex.cast (Ex.lss rfl rfl) rfl) (by decide) ?_
  refine GL.nil ?_
  refine GE.thenN ?_
  refine GC.cond rfl (fun hq27 => by cases hq27) (fun _ => ?_)
  refine GC.exit ?_
  refine GE.thenE ?_
  refine GE.thenE ?_
  refine GE.blockE ?_
  refine GE.thenN ?_
  refine GC.seq ?_
  refine GC.region ?_
  refine GL.val (Ex.move rfl) (by decide) ?_
  refine GL.step (Stp.callR (vs := [(.pointer (some ⟨bq4, 0, none⟩))]) rfl rfl T.own18 (by decide) (fun wc hw => booki_hold bq4 2 xq25.2.1 xq25.2.2.1 xq25.1.1 xq25.1.2.1 ([⟨none, 0, 0⟩, ⟨none, 0, 1⟩] : List It) xq25.2.2.2 xq25.1.2.2 wc rfl (by decide) (it_consI (it_nilI _) (it_consI (it_nilI _) it_allI)) (Has.cons (hw.hasOf (i := 2) rfl) (Has.cons (hw.hasOf (i := 1) rfl) (Has.cons (hw.hasOf (i := 0) rfl) (Has.nil _)))))) (fun xq28 hq29 => ?_)
  refine GL.val (Ex.assign rfl) (by decide) ?_
  refine GL.nil ?_
  refine GE.thenN ?_
  refine GC.ret ?_
  refine GC.ret1 rfl (Rv.tmp rfl) (fun wN HN => ?_)
  exact HN.ret () trivial rfl (List.nil_sublist _) rfl

theorem lawWeighs (kd r : Int) (w : World) : Calls Try.prog 4 #[.int .i64 kd, .int .i64 r] w (Ret w (fun _ : Unit => True) (fun _ => .bool true) (fun _ => [])) := by
  by_cases hb : 0 ≤ r ∧ r ≤ 7 ∧ (kd = 1 ∨ kd = 2)
  · obtain ⟨h1, h2, h3⟩ := hb
    obtain ⟨n, rfl⟩ := Int.eq_ofNat_of_zero_le h1
    rcases h3 with rfl | rfl
    · exact we_1 n w (by omega)
    · exact we_2 n w (by omega)
  · exact we_bad kd r w hb

end Go.Proofs.Ytjbpdhofhhinhaa.C
