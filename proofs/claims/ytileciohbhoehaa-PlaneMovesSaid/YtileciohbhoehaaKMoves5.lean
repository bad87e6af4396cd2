/- PlaneMoves: what its code does, walked. -/
import Derived.Test.YtileciohbhoehaaKMoves4
namespace Go.Proofs.Ytileciohbhoehaa.C
open Go Go.RowKit Sx
set_option linter.unusedVariables false
set_option maxRecDepth 100000 in
set_option maxHeartbeats 1000000 in
theorem mv_iz (W H n cap b o : Nat) (xs : List Int) (W2 H2 : Int) (ad2 : Option Addr) (m cap2 : Nat) (ys : List Int) (X0 Y0 X1 Y1 : Nat) (x y q1 : Int) (w : World) (hok : okP W H) (hn : n = W * H) (hl : Lst w (some ⟨b, o, none⟩) n xs) (hr : Rd w b o (xs.map u32)) (hb : n ≤ 35184372087808) (hl2 : Lst w ad2 m ys) (hb2 : m ≤ 35184372087808) (hc2 : chk W2 H2 m ≠ 0) (hX0 : X0 < X1) (hX1 : X1 ≤ W) (hY0 : Y0 < Y1) (hY1 : Y1 ≤ H) (hxb : -9223372036854775808 ≤ x ∧ x ≤ 9223372036854775807) (hyb : -9223372036854775808 ≤ y ∧ y ≤ 9223372036854775807) :
    Calls Try.prog 8 #[(.agg #[(.int .i64 (((W : Nat) : Int))), (.int .i64 (((H : Nat) : Int))), (.slice (some ⟨b, o, none⟩) n cap)]), (.agg #[(.int .i64 W2), (.int .i64 H2), (.slice ad2 m cap2)]), (.agg #[(.int .i64 (((X0 : Nat) : Int))), (.int .i64 (((Y0 : Nat) : Int))), (.int .i64 (((X1 : Nat) : Int))), (.int .i64 (((Y1 : Nat) : Int)))]), (.int .i64 x), (.int .i64 y), (.int .i64 q1)] w (Ret w (fun _ : Unit => True) (fun _ => .bool true) (fun _ => [])) := by
  have hx := hl.1
  have hc0 : chk W H n = 0 := by rw [hn]; exact chk_ok hok
  refine enter (M := None) (L := []) (n := 169) (l := [(0, (.agg #[(.int .i64 (((W : Nat) : Int))), (.int .i64 (((H : Nat) : Int))), (.slice (some ⟨b, o, none⟩) n cap)])), (1, (.agg #[(.int .i64 W2), (.int .i64 H2), (.slice ad2 m cap2)])), (2, (.agg #[(.int .i64 (((X0 : Nat) : Int))), (.int .i64 (((Y0 : Nat) : Int))), (.int .i64 (((X1 : Nat) : Int))), (.int .i64 (((Y1 : Nat) : Int)))])), (3, (.int .i64 x)), (4, (.int .i64 y)), (5, (.int .i64 q1))]) Try.func8 rfl rfl (Args.cons rfl (Args.cons rfl (Args.cons rfl (Args.cons rfl (Args.cons rfl (Args.cons rfl (Args.nil _))))))) (Hp.start _ _) ?_
  refine GC.seq ?_
  refine GC.region ?_
  refine GL.step (Stp.box (cs := [(.int .i64 (((W : Nat) : Int))), (.int .i64 (((H : Nat) : Int))), (.slice (some ⟨b, o, none⟩) n cap)]) rfl rfl (by decide)) (fun bq1 _ => ?_)
  refine GL.step (Stp.box (cs := [(.int .i64 W2), (.int .i64 H2), (.slice ad2 m cap2)]) rfl rfl (by decide)) (fun bq2 _ => ?_)
  refine GL.step (Stp.box (cs := [(.int .i64 (((X0 : Nat) : Int))), (.int .i64 (((Y0 : Nat) : Int))), (.int .i64 (((X1 : Nat) : Int))), (.int .i64 (((Y1 : Nat) : Int)))]) rfl rfl (by decide)) (fun bq3 _ => ?_)
  refine GL.val (Ex.assign rfl) (by decide) ?_
  refine GL.nil ?_
  refine GE.thenN ?_
  refine GC.seq ?_
  refine GC.seq ?_
  refine GC.region ?_
  refine GL.step (Stp.callR (vs := []) rfl rfl T.own13 (by decide) (fun wc hw => known wc)) (fun xq4 hq5 => ?_)
  refine GL.val (v := (.bool false)) (Ex.cast (Ex.not rfl) rfl) (by decide) ?_
  refine GL.nil ?_
  refine GE.thenN ?_
  refine GC.cond rfl (fun hq6 => by cases hq6) (fun _ => ?_)
  refine GC.skip ?_
  refine GE.thenN ?_
  refine GC.seq ?_
  refine GC.region ?_
  refine GL.val (v := (.agg #[(.slice none 0 0), (.slice none 0 0), (.slice none 0 0), (.slice none 0 0), (.slice none 0 0), (.slice none 0 0), (.slice none 0 0), (.slice none 0 0)])) (Ex.build (vs := []) rfl (by first | rfl | kernel_rfl)) (by decide) ?_
  refine GL.step (Stp.box (cs := [(.slice none 0 0), (.slice none 0 0), (.slice none 0 0), (.slice none 0 0), (.slice none 0 0), (.slice none 0 0), (.slice none 0 0), (.slice none 0 0)]) rfl rfl (by decide)) (fun bq7 _ => ?_)
  refine GL.val (Ex.assign rfl) (by decide) ?_
  refine GL.nil ?_
  refine GE.thenN ?_
  refine GC.seq ?_
  refine GC.region ?_
  refine GL.val (v := (.agg #[(.slice none 0 0), (.slice none 0 0), (.slice none 0 0), (.slice none 0 0), (.slice none 0 0), (.slice none 0 0), (.slice none 0 0), (.slice none 0 0)])) (Ex.build (vs := []) rfl (by first | rfl | kernel_rfl)) (by decide) ?_
  refine GL.step (Stp.box (cs := [(.slice none 0 0), (.slice none 0 0), (.slice none 0 0), (.slice none 0 0), (.slice none 0 0), (.slice none 0 0), (.slice none 0 0), (.slice none 0 0)]) rfl rfl (by decide)) (fun bq8 _ => ?_)
  refine GL.val (Ex.assign rfl) (by decide) ?_
  refine GL.nil ?_
  refine GE.thenN ?_
  refine GC.seq ?_
  refine GC.sub (l' := [(0, (.agg #[(.int .i64 (((W : Nat) : Int))), (.int .i64 (((H : Nat) : Int))), (.slice (some ⟨b, o, none⟩) n cap)])), (1, (.agg #[(.int .i64 W2), (.int .i64 H2), (.slice ad2 m cap2)])), (2, (.agg #[(.int .i64 (((X0 : Nat) : Int))), (.int .i64 (((Y0 : Nat) : Int))), (.int .i64 (((X1 : Nat) : Int))), (.int .i64 (((Y1 : Nat) : Int)))])), (3, (.int .i64 x)), (4, (.int .i64 y)), (5, (.int .i64 q1)), (6, (.pointer (some ⟨bq1, 0, none⟩))), (7, (.pointer (some ⟨bq2, 0, none⟩))), (8, (.pointer (some ⟨bq3, 0, none⟩))), (12, (.bool false)), (13, (.pointer (some ⟨bq7, 0, none⟩))), (14, (.pointer (some ⟨bq8, 0, none⟩)))]) ((sub_cons rfl ((sub_cons rfl ((sub_cons rfl ((sub_cons rfl ((sub_cons rfl ((sub_cons rfl ((sub_cons rfl ((sub_cons rfl ((sub_cons rfl ((sub_cons rfl ((sub_cons rfl ((sub_cons rfl ((sub_nil _)))))))))))))))))))))))))) ulR ?_
  refine mv_lend (((W : Nat) : Int)) (((H : Nat) : Int)) (some ⟨b, o, none⟩) n cap xs W2 H2 ad2 m cap2 ys (.agg #[(.int .i64 (((X0 : Nat) : Int))), (.int .i64 (((Y0 : Nat) : Int))), (.int .i64 (((X1 : Nat) : Int))), (.int .i64 (((Y1 : Nat) : Int)))]) (.int .i64 x) (.int .i64 y) (.int .i64 q1) (.bool false) bq8 bq7 bq3 bq2 bq1 [(.int .i64 (((X0 : Nat) : Int))), (.int .i64 (((Y0 : Nat) : Int))), (.int .i64 (((X1 : Nat) : Int))), (.int .i64 (((Y1 : Nat) : Int)))] w hl hb hl2 hb2 (fun _ _ _ _ _ h => h) (fun j => ?_)
  refine GE.thenN ?_
  refine GC.seq ?_
  refine GC.seq ?_
  refine GC.region ?_
  refine GL.val (Ex.assign rfl) (by decide) ?_
  refine GL.nil ?_
  refine GE.thenN ?_
  refine GC.block ?_
  refine GC.unroll 3 ?_
  refine GE.round ?_
  refine GC.seq ?_
  refine GC.seq ?_
  refine GC.region ?_
  refine GL.val (Ex.move rfl) (by decide) ?_
  refine GL.val (v := (.bool true)) (Ex.cast (Ex.lss rfl rfl) rfl) (by decide) ?_
  refine GL.nil ?_
  refine GE.thenN ?_
  refine GC.cond rfl (fun _ => ?_) (fun hq9 => by cases hq9)
  refine GC.skip ?_
  refine GE.thenN ?_
  refine GC.seq ?_
  refine GC.block ?_
  refine GC.seq ?_
  refine GC.region ?_
  refine GL.val (Ex.move rfl) (by decide) ?_
  refine GL.val (v := (.int .i64 0)) (Ex.mul rfl rfl (Z := 0) (by decide)) (by decide) ?_
  refine GL.val (Ex.assign rfl) (by decide) ?_
  refine GL.nil ?_
  refine GE.thenN ?_
  refine GC.seq ?_
  refine GC.region ?_
  refine GL.val (v := (.agg #[(.int .i64 (((W : Nat) : Int))), (.int .i64 (((H : Nat) : Int))), (.slice (some ⟨j.1.2.2.2, 0, none⟩) n (n + 5))])) (Ex.loadA rfl T.ag32 T.sz32 (i := 7) rfl (vs := [(.int .i64 (((W : Nat) : Int))), (.int .i64 (((H : Nat) : Int))), (.slice (some ⟨j.1.2.2.2, 0, none⟩) n (n + 5))]) rfl rfl) (by decide) ?_
  refine GL.val (v := (.agg #[(.int .i64 (((X0 : Nat) : Int))), (.int .i64 (((Y0 : Nat) : Int))), (.int .i64 (((X1 : Nat) : Int))), (.int .i64 (((Y1 : Nat) : Int)))])) (Ex.loadA rfl T.ag54 T.sz54 (i := 10) rfl (vs := [(.int .i64 (((X0 : Nat) : Int))), (.int .i64 (((Y0 : Nat) : Int))), (.int .i64 (((X1 : Nat) : Int))), (.int .i64 (((Y1 : Nat) : Int)))]) rfl rfl) (by decide) ?_
  refine GL.step (Stp.callR (vs := [(.agg #[(.int .i64 (((W : Nat) : Int))), (.int .i64 (((H : Nat) : Int))), (.slice (some ⟨j.1.2.2.2, 0, none⟩) n (n + 5))]), (.agg #[(.int .i64 (((X0 : Nat) : Int))), (.int .i64 (((Y0 : Nat) : Int))), (.int .i64 (((X1 : Nat) : Int))), (.int .i64 (((Y1 : Nat) : Int)))])]) rfl rfl T.own24 (by decide) (fun wc hw => crop_in W H n (n + 5) j.1.2.2.2 0 X0 Y0 X1 Y1 xs wc hok hn hx (Rd.lent (hw.rdOf (i := 6) rfl 0)) hX0 hX1 hY0 hY1)) (fun xq10 hq11 => ?_)
  refine GL.val (Ex.move rfl) (by decide) ?_
  refine GL.val (Ex.extract rfl rfl) (by decide) ?_
  refine GL.val (Ex.extract rfl rfl) (by decide) ?_
  refine GL.step (Stp.alloc T.zr32 (by decide)) (fun bq12 _ => ?_)
  refine GL.step (Stp.st0 (cs' := [(.int .i64 (((X1 - X0 : Nat) : Int))), (.int .i64 (((Y1 - Y0 : Nat) : Int))), (.slice (some ⟨xq10, 0, none⟩) ((X1 - X0) * (Y1 - Y0)) ((X1 - X0) * (Y1 - Y0)))]) rfl rfl rfl T.sz32 rfl rfl rfl) (fun _ _ => ?_)
  refine GL.val (Ex.assign rfl) (by decide) ?_
  refine GL.nil ?_
  refine GE.thenN ?_
  refine GC.seq ?_
  refine GC.region ?_
  refine GL.val (v := (.agg #[(.int .i64 (((W : Nat) : Int))), (.int .i64 (((H : Nat) : Int))), (.slice (some ⟨b, o, none⟩) n cap)])) (Ex.loadA rfl T.ag32 T.sz32 (i := 14) rfl (vs := [(.int .i64 (((W : Nat) : Int))), (.int .i64 (((H : Nat) : Int))), (.slice (some ⟨b, o, none⟩) n cap)]) rfl rfl) (by decide) ?_
  refine GL.val (v := (.agg #[(.int .i64 (((X0 : Nat) : Int))), (.int .i64 (((Y0 : Nat) : Int))), (.int .i64 (((X1 : Nat) : Int))), (.int .i64 (((Y1 : Nat) : Int)))])) (Ex.loadA rfl T.ag54 T.sz54 (i := 12) rfl (vs := [(.int .i64 (((X0 : Nat) : Int))), (.int .i64 (((Y0 : Nat) : Int))), (.int .i64 (((X1 : Nat) : Int))), (.int .i64 (((Y1 : Nat) : Int)))]) rfl rfl) (by decide) ?_
  refine GL.step (Stp.callR (vs := [(.agg #[(.int .i64 (((W : Nat) : Int))), (.int .i64 (((H : Nat) : Int))), (.slice (some ⟨b, o, none⟩) n cap)]), (.agg #[(.int .i64 (((X0 : Nat) : Int))), (.int .i64 (((Y0 : Nat) : Int))), (.int .i64 (((X1 : Nat) : Int))), (.int .i64 (((Y1 : Nat) : Int)))])]) rfl rfl T.own27 (by decide) (fun wc hw => ref_crop W H n cap b o X0 Y0 X1 Y1 xs wc hok hn hx (hw.rd hr (fun x => x)) hX0 hX1 hY0 hY1)) (fun xq13 hq14 => ?_)
  refine GL.val (Ex.move rfl) (by decide) ?_
  refine GL.val (Ex.extract rfl rfl) (by decide) ?_
  refine GL.val (Ex.extract rfl rfl) (by decide) ?_
  refine GL.step (Stp.alloc T.zr32 (by decide)) (fun bq15 _ => ?_)
  refine GL.step (Stp.st0 (cs' := [(.int .i64 (((X1 - X0 : Nat) : Int))), (.int .i64 (((Y1 - Y0 : Nat) : Int))), (.slice (some ⟨xq13, 0, none⟩) ((X1 - X0) * (Y1 - Y0)) ((X1 - X0) * (Y1 - Y0)))]) rfl rfl rfl T.sz32 rfl rfl rfl) (fun _ _ => ?_)
  refine GL.val (Ex.assign rfl) (by decide) ?_
  refine GL.nil ?_
  refine GE.thenN ?_
  refine GC.seq ?_
  refine GC.seq ?_
  refine GC.region ?_
  refine GL.val (v := (.agg #[(.int .i64 (((X1 - X0 : Nat) : Int))), (.int .i64 (((Y1 - Y0 : Nat) : Int))), (.slice (some ⟨xq10, 0, none⟩) ((X1 - X0) * (Y1 - Y0)) ((X1 - X0) * (Y1 - Y0)))])) (Ex.loadA rfl T.ag32 T.sz32 (i := 2) rfl (vs := [(.int .i64 (((X1 - X0 : Nat) : Int))), (.int .i64 (((Y1 - Y0 : Nat) : Int))), (.slice (some ⟨xq10, 0, none⟩) ((X1 - X0) * (Y1 - Y0)) ((X1 - X0) * (Y1 - Y0)))]) rfl rfl) (by decide) ?_
  refine GL.val (Ex.move rfl) (by decide) ?_
  refine GL.val (v := (.agg #[(.int .i64 (((X1 - X0 : Nat) : Int))), (.int .i64 (((Y1 - Y0 : Nat) : Int))), (.slice (some ⟨xq13, 0, none⟩) ((X1 - X0) * (Y1 - Y0)) ((X1 - X0) * (Y1 - Y0)))])) (Ex.loadA rfl T.ag32 T.sz32 (i := 0) rfl (vs := [(.int .i64 (((X1 - X0 : Nat) : Int))), (.int .i64 (((Y1 - Y0 : Nat) : Int))), (.slice (some ⟨xq13, 0, none⟩) ((X1 - X0) * (Y1 - Y0)) ((X1 - X0) * (Y1 - Y0)))]) rfl rfl) (by decide) ?_
  refine GL.val (Ex.move rfl) (by decide) ?_
  refine GL.step (Stp.callR (vs := [(.agg #[(.int .i64 (((X1 - X0 : Nat) : Int))), (.int .i64 (((Y1 - Y0 : Nat) : Int))), (.slice (some ⟨xq10, 0, none⟩) ((X1 - X0) * (Y1 - Y0)) ((X1 - X0) * (Y1 - Y0)))]), (.int .i64 0), (.agg #[(.int .i64 (((X1 - X0 : Nat) : Int))), (.int .i64 (((Y1 - Y0 : Nat) : Int))), (.slice (some ⟨xq13, 0, none⟩) ((X1 - X0) * (Y1 - Y0)) ((X1 - X0) * (Y1 - Y0)))]), (.int .i64 0)]) rfl rfl T.own20 (by decide) (fun wc hw => same_ (((X1 - X0 : Nat) : Int)) (((Y1 - Y0 : Nat) : Int)) (some ⟨xq10, 0, none⟩) ((X1 - X0) * (Y1 - Y0)) ((X1 - X0) * (Y1 - Y0)) (((X1 - X0 : Nat) : Int)) (((Y1 - Y0 : Nat) : Int)) (some ⟨xq13, 0, none⟩) ((X1 - X0) * (Y1 - Y0)) ((X1 - X0) * (Y1 - Y0)) 0 (crp xs W X0 Y0 (X1 - X0) (Y1 - Y0)) (crp xs W X0 Y0 (X1 - X0) (Y1 - Y0)) wc (by have h' := ((show okP (X1 - X0) (Y1 - Y0) from (hok.part (by omega) (by omega) (by omega) (by omega)))).2.2.2.2; omega) (LsR.blk crp_len (hw.rdOf (i := 3) rfl 0)) (LsR.blk crp_len (hw.rdOf (i := 1) rfl 0)) (by first | rfl | omega) (by first | rfl | omega) (by first | rfl | (simp only [Nat.add_zero])))) (fun xq16 hq17 => ?_)
  refine GL.val (v := (.bool false)) (Ex.cast (Ex.not rfl) rfl) (by decide) ?_
  refine GL.nil ?_
  refine GE.thenN ?_
  refine GC.cond rfl (fun hq18 => by cases hq18) (fun _ => ?_)
  refine GC.skip ?_
  refine GE.thenN ?_
  refine GC.seq ?_
  refine GC.region ?_
  refine GL.val (Ex.move rfl) (by decide) ?_
  refine GL.val (v := (.agg #[(.int .i64 (((X1 - X0 : Nat) : Int))), (.int .i64 (((Y1 - Y0 : Nat) : Int))), (.slice (some ⟨xq10, 0, none⟩) ((X1 - X0) * (Y1 - Y0)) ((X1 - X0) * (Y1 - Y0)))])) (Ex.loadA rfl T.ag32 T.sz32 (i := 2) rfl (vs := [(.int .i64 (((X1 - X0 : Nat) : Int))), (.int .i64 (((Y1 - Y0 : Nat) : Int))), (.slice (some ⟨xq10, 0, none⟩) ((X1 - X0) * (Y1 - Y0)) ((X1 - X0) * (Y1 - Y0)))]) rfl rfl) (by decide) ?_
  refine GL.val (Ex.move rfl) (by decide) ?_
  refine GL.step (Stp.call (vs := [(.pointer (some ⟨bq7, 0, none⟩)), (.agg #[(.int .i64 (((X1 - X0 : Nat) : Int))), (.int .i64 (((Y1 - Y0 : Nat) : Int))), (.slice (some ⟨xq10, 0, none⟩) ((X1 - X0) * (Y1 - Y0)) ((X1 - X0) * (Y1 - Y0)))]), (.int .i64 0)]) rfl rfl T.own21 (by decide) (fun wc hw => book_p01 w _ (((X1 - X0 : Nat) : Int)) (((Y1 - Y0 : Nat) : Int)) bq7 0 xq10 ((X1 - X0) * (Y1 - Y0)) ((X1 - X0) * (Y1 - Y0)) ((crp xs W X0 Y0 (X1 - X0) (Y1 - Y0)).map u32) wc (by rw [List.length_map]; exact crp_len) (by have h' := ((show okP (X1 - X0) (Y1 - Y0) from (hok.part (by omega) (by omega) (by omega) (by omega)))).2.2.2.2; omega) (hw.pick (idx := [13, 3, 0, 1, 2, 4, 5, 6, 7, 8, 9, 10, 11, 12, 14, 15, 16]) (by decide) rfl))) (fun xq19 hq20 => ?_)
  refine GL.nil ?_
  refine GE.thenN ?_
  refine GC.seq ?_
  refine GC.pick (idx := [0, 1, 2, 3, 4, 6, 7, 8, 9, 10, 11, 12, 13, 14, 15, 16, 17, 18]) (by decide) rfl ?_
  refine GC.region ?_
  refine GL.val (v := (.agg #[(.int .i64 (((W : Nat) : Int))), (.int .i64 (((H : Nat) : Int))), (.slice (some ⟨j.1.2.2.2, 0, none⟩) n (n + 5))])) (Ex.loadA rfl T.ag32 T.sz32 (i := 13) rfl (vs := [(.int .i64 (((W : Nat) : Int))), (.int .i64 (((H : Nat) : Int))), (.slice (some ⟨j.1.2.2.2, 0, none⟩) n (n + 5))]) rfl rfl) (by decide) ?_
  refine GL.val (v := (.agg #[(.int .i64 W2), (.int .i64 H2), (.slice (some ⟨j.2.1.2.2.2, 0, none⟩) m (m + 5))])) (Ex.loadA rfl T.ag32 T.sz32 (i := 14) rfl (vs := [(.int .i64 W2), (.int .i64 H2), (.slice (some ⟨j.2.1.2.2.2, 0, none⟩) m (m + 5))]) rfl rfl) (by decide) ?_
  refine GL.val (Ex.move rfl) (by decide) ?_
  refine GL.val (Ex.move rfl) (by decide) ?_
  refine GL.step (Stp.callR (vs := [(.agg #[(.int .i64 (((W : Nat) : Int))), (.int .i64 (((H : Nat) : Int))), (.slice (some ⟨j.1.2.2.2, 0, none⟩) n (n + 5))]), (.agg #[(.int .i64 W2), (.int .i64 H2), (.slice (some ⟨j.2.1.2.2.2, 0, none⟩) m (m + 5))]), (.int .i64 x), (.int .i64 y)]) rfl rfl T.own25 (by decide) (fun wc hw => paste_inv2 (((W : Nat) : Int)) (((H : Nat) : Int)) (some ⟨j.1.2.2.2, 0, none⟩) n (n + 5) W2 H2 (some ⟨j.2.1.2.2.2, 0, none⟩) m (m + 5) x y wc hc0 hc2)) (fun xq21 hq22 => ?_)
  refine GL.val (Ex.move rfl) (by decide) ?_
  refine GL.val (Ex.extract rfl rfl) (by decide) ?_
  refine GL.val (Ex.extract rfl rfl) (by decide) ?_
  refine GL.step (Stp.st5 (cs' := [(.int .i64 0), (.int .i64 0), (.slice none 0 0)]) rfl rfl rfl T.sz32 rfl rfl rfl) (fun _ _ => ?_)
  refine GL.val (Ex.assign rfl) (by decide) ?_
  refine GL.nil ?_
  refine GE.thenN ?_
  refine GC.seq ?_
  refine GC.region ?_
  refine GL.val (v := (.agg #[(.int .i64 (((W : Nat) : Int))), (.int .i64 (((H : Nat) : Int))), (.slice (some ⟨b, o, none⟩) n cap)])) (Ex.loadA rfl T.ag32 T.sz32 (i := 17) rfl (vs := [(.int .i64 (((W : Nat) : Int))), (.int .i64 (((H : Nat) : Int))), (.slice (some ⟨b, o, none⟩) n cap)]) rfl rfl) (by decide) ?_
  refine GL.val (v := (.agg #[(.int .i64 W2), (.int .i64 H2), (.slice ad2 m cap2)])) (Ex.loadA rfl T.ag32 T.sz32 (i := 16) rfl (vs := [(.int .i64 W2), (.int .i64 H2), (.slice ad2 m cap2)]) rfl rfl) (by decide) ?_
  refine GL.val (Ex.move rfl) (by decide) ?_
  refine GL.val (Ex.move rfl) (by decide) ?_
  refine GL.step (Stp.callR (vs := [(.agg #[(.int .i64 (((W : Nat) : Int))), (.int .i64 (((H : Nat) : Int))), (.slice (some ⟨b, o, none⟩) n cap)]), (.agg #[(.int .i64 W2), (.int .i64 H2), (.slice ad2 m cap2)]), (.int .i64 x), (.int .i64 y)]) rfl rfl T.own28 (by decide) (fun wc hw => ref_paste_inv2 (((W : Nat) : Int)) (((H : Nat) : Int)) (some ⟨b, o, none⟩) n cap W2 H2 ad2 m cap2 x y wc hc0 hc2)) (fun xq23 hq24 => ?_)
  refine GL.val (Ex.move rfl) (by decide) ?_
  refine GL.val (Ex.extract rfl rfl) (by decide) ?_
  refine GL.val (Ex.extract rfl rfl) (by decide) ?_
  refine GL.step (Stp.st4 (cs' := [(.int .i64 0), (.int .i64 0), (.slice none 0 0)]) rfl rfl rfl T.sz32 rfl rfl rfl) (fun _ _ => ?_)
  refine GL.val (Ex.assign rfl) (by decide) ?_
  refine GL.nil ?_
  refine GE.thenN ?_
  refine GC.seq ?_
  refine GC.seq ?_
  refine GC.region ?_
  refine GL.val (v := (.agg #[(.int .i64 0), (.int .i64 0), (.slice none 0 0)])) (Ex.loadA rfl T.ag32 T.sz32 (i := 5) rfl (vs := [(.int .i64 0), (.int .i64 0), (.slice none 0 0)]) rfl rfl) (by decide) ?_
  refine GL.val (Ex.move rfl) (by decide) ?_
  refine GL.val (v := (.agg #[(.int .i64 0), (.int .i64 0), (.slice none 0 0)])) (Ex.loadA rfl T.ag32 T.sz32 (i := 4) rfl (vs := [(.int .i64 0), (.int .i64 0), (.slice none 0 0)]) rfl rfl) (by decide) ?_
  refine GL.val (Ex.move rfl) (by decide) ?_
  refine GL.step (Stp.callR (vs := [(.agg #[(.int .i64 0), (.int .i64 0), (.slice none 0 0)]), (.int .i64 ((chk W2 H2 m))), (.agg #[(.int .i64 0), (.int .i64 0), (.slice none 0 0)]), (.int .i64 ((chk W2 H2 m)))]) rfl rfl T.own20 (by decide) (fun wc hw => same_ 0 0 none 0 0 0 0 none 0 0 ((chk W2 H2 m)) ([]) ([]) wc (by decide) (LsR.nil _ _) (LsR.nil _ _) (by first | rfl | omega) (by first | rfl | omega) (by first | rfl | (simp only [Nat.add_zero])))) (fun xq25 hq26 => ?_)
  refine GL.val (v := (.bool false)) (Ex.cast (Ex.not rfl) rfl) (by decide) ?_
  refine GL.nil ?_
  refine GE.thenN ?_
  refine GC.cond rfl (fun hq27 => by cases hq27) (fun _ => ?_)
  refine GC.skip ?_
  refine GE.thenN ?_
  refine GC.seq ?_
  refine GC.region ?_
  refine GL.val (Ex.move rfl) (by decide) ?_
  refine GL.val (v := (.agg #[(.int .i64 0), (.int .i64 0), (.slice none 0 0)])) (Ex.loadA rfl T.ag32 T.sz32 (i := 5) rfl (vs := [(.int .i64 0), (.int .i64 0), (.slice none 0 0)]) rfl rfl) (by decide) ?_
  refine GL.val (Ex.move rfl) (by decide) ?_
  refine GL.val (v := (.int .i64 1)) (Ex.add rfl rfl (Z := 1) (by decide)) (by decide) ?_
  refine GL.step (Stp.call (vs := [(.pointer (some ⟨bq7, 0, none⟩)), (.agg #[(.int .i64 0), (.int .i64 0), (.slice none 0 0)]), (.int .i64 1)]) rfl rfl T.own21 (by decide) (fun wc hw => book_p10 w _ 0 0 bq7 1 1 xq19.2.1 xq19.2.2.1 xq19.1.1 xq19.1.2.1 ([(Value.slice (some ⟨xq10, 0, none⟩) ((X1 - X0) * (Y1 - Y0)) ((X1 - X0) * (Y1 - Y0)))]) xq19.2.2.2 ([(Value.int .i64 0)]) xq19.1.2.2 wc (by first | decide | omega) (by first | rfl | omega) (by first | rfl | omega) hq20.1 hq20.2 (hw.pick (idx := [2, 1, 0, 3, 4, 5, 6, 7, 8, 9, 10, 11, 12, 13, 14, 15, 16, 17]) (by decide) rfl))) (fun xq28 hq29 => ?_)
  refine GL.nil ?_
  refine GE.thenN ?_
  refine GC.seq ?_
  refine GC.region ?_
  refine GL.val (v := (.agg #[(.int .i64 (((W : Nat) : Int))), (.int .i64 (((H : Nat) : Int))), (.slice (some ⟨j.1.2.2.2, 0, none⟩) n (n + 5))])) (Ex.loadA rfl T.ag32 T.sz32 (i := 13) rfl (vs := [(.int .i64 (((W : Nat) : Int))), (.int .i64 (((H : Nat) : Int))), (.slice (some ⟨j.1.2.2.2, 0, none⟩) n (n + 5))]) rfl rfl) (by decide) ?_
  refine GL.val (Ex.move rfl) (by decide) ?_
  refine GL.val (v := (.bool true)) (Ex.cast (Ex.eql rfl rfl) rfl) (by decide) ?_
  refine GL.step (Stp.callR (vs := [(.agg #[(.int .i64 (((W : Nat) : Int))), (.int .i64 (((H : Nat) : Int))), (.slice (some ⟨j.1.2.2.2, 0, none⟩) n (n + 5))]), (.bool true)]) rfl rfl T.own29 (by decide) (fun wc hw => flipT W H n (n + 5) j.1.2.2.2 0 xs wc hok hn hx (Rd.lent (hw.rdOf (i := 12) rfl 0)) )) (fun xq30 hq31 => ?_)
  refine GL.val (Ex.move rfl) (by decide) ?_
  refine GL.val (Ex.extract rfl rfl) (by decide) ?_
  refine GL.val (Ex.extract rfl rfl) (by decide) ?_
  refine GL.step (Stp.st6 (cs' := [(.int .i64 (((W : Nat) : Int))), (.int .i64 (((H : Nat) : Int))), (.slice (some ⟨xq30, 0, none⟩) (W * H) (W * H))]) rfl rfl rfl T.sz32 rfl rfl rfl) (fun _ _ => ?_)
  refine GL.val (Ex.assign rfl) (by decide) ?_
  refine GL.nil ?_
  refine GE.thenN ?_
  refine GC.seq ?_
  refine GC.region ?_
  refine GL.val (v := (.agg #[(.int .i64 (((W : Nat) : Int))), (.int .i64 (((H : Nat) : Int))), (.slice (some ⟨b, o, none⟩) n cap)])) (Ex.loadA rfl T.ag32 T.sz32 (i := 18) rfl (vs := [(.int .i64 (((W : Nat) : Int))), (.int .i64 (((H : Nat) : Int))), (.slice (some ⟨b, o, none⟩) n cap)]) rfl rfl) (by decide) ?_
  refine GL.val (Ex.move rfl) (by decide) ?_
  refine GL.val (v := (.bool true)) (Ex.cast (Ex.eql rfl rfl) rfl) (by decide) ?_
  refine GL.step (Stp.callR (vs := [(.agg #[(.int .i64 (((W : Nat) : Int))), (.int .i64 (((H : Nat) : Int))), (.slice (some ⟨b, o, none⟩) n cap)]), (.bool true)]) rfl rfl T.own30 (by decide) (fun wc hw => ref_flipT W H n cap b o xs wc hok hn hx (hw.rd hr (fun x => x)) )) (fun xq32 hq33 => ?_)
  refine GL.val (Ex.move rfl) (by decide) ?_
  refine GL.val (Ex.extract rfl rfl) (by decide) ?_
  refine GL.val (Ex.extract rfl rfl) (by decide) ?_
  refine GL.step (Stp.st6 (cs' := [(.int .i64 (((W : Nat) : Int))), (.int .i64 (((H : Nat) : Int))), (.slice (some ⟨xq32, 0, none⟩) (W * H) (W * H))]) rfl rfl rfl T.sz32 rfl rfl rfl) (fun _ _ => ?_)
  refine GL.val (Ex.assign rfl) (by decide) ?_
  refine GL.nil ?_
  refine GE.thenN ?_
  refine GC.seq ?_
  refine GC.seq ?_
  refine GC.region ?_
  refine GL.val (v := (.agg #[(.int .i64 (((W : Nat) : Int))), (.int .i64 (((H : Nat) : Int))), (.slice (some ⟨xq30, 0, none⟩) (W * H) (W * H))])) (Ex.loadA rfl T.ag32 T.sz32 (i := 7) rfl (vs := [(.int .i64 (((W : Nat) : Int))), (.int .i64 (((H : Nat) : Int))), (.slice (some ⟨xq30, 0, none⟩) (W * H) (W * H))]) rfl rfl) (by decide) ?_
  refine GL.val (Ex.move rfl) (by decide) ?_
  refine GL.val (v := (.agg #[(.int .i64 (((W : Nat) : Int))), (.int .i64 (((H : Nat) : Int))), (.slice (some ⟨xq32, 0, none⟩) (W * H) (W * H))])) (Ex.loadA rfl T.ag32 T.sz32 (i := 6) rfl (vs := [(.int .i64 (((W : Nat) : Int))), (.int .i64 (((H : Nat) : Int))), (.slice (some ⟨xq32, 0, none⟩) (W * H) (W * H))]) rfl rfl) (by decide) ?_
  refine GL.val (Ex.move rfl) (by decide) ?_
  refine GL.step (Stp.callR (vs := [(.agg #[(.int .i64 (((W : Nat) : Int))), (.int .i64 (((H : Nat) : Int))), (.slice (some ⟨xq30, 0, none⟩) (W * H) (W * H))]), (.int .i64 0), (.agg #[(.int .i64 (((W : Nat) : Int))), (.int .i64 (((H : Nat) : Int))), (.slice (some ⟨xq32, 0, none⟩) (W * H) (W * H))]), (.int .i64 0)]) rfl rfl T.own20 (by decide) (fun wc hw => same_ (((W : Nat) : Int)) (((H : Nat) : Int)) (some ⟨xq30, 0, none⟩) (W * H) (W * H) (((W : Nat) : Int)) (((H : Nat) : Int)) (some ⟨xq32, 0, none⟩) (W * H) (W * H) 0 (flT xs W H) (flT xs W H) wc (by have h' := ((show okP W H from hok)).2.2.2.2; omega) (LsR.blk flT_len (hw.rdOf (i := 1) rfl 0)) (LsR.blk flT_len (hw.rdOf (i := 0) rfl 0)) (by first | rfl | omega) (by first | rfl | omega) (by first | rfl | (simp only [Nat.add_zero])))) (fun xq34 hq35 => ?_)
  refine GL.val (v := (.bool false)) (Ex.cast (Ex.not rfl) rfl) (by decide) ?_
  refine GL.nil ?_
  refine GE.thenN ?_
  refine GC.cond rfl (fun hq36 => by cases hq36) (fun _ => ?_)
  refine GC.skip ?_
  refine GE.thenN ?_
  refine GC.seq ?_
  refine GC.region ?_
  refine GL.val (Ex.move rfl) (by decide) ?_
  refine GL.val (v := (.agg #[(.int .i64 (((W : Nat) : Int))), (.int .i64 (((H : Nat) : Int))), (.slice (some ⟨xq30, 0, none⟩) (W * H) (W * H))])) (Ex.loadA rfl T.ag32 T.sz32 (i := 7) rfl (vs := [(.int .i64 (((W : Nat) : Int))), (.int .i64 (((H : Nat) : Int))), (.slice (some ⟨xq30, 0, none⟩) (W * H) (W * H))]) rfl rfl) (by decide) ?_
  refine GL.val (Ex.move rfl) (by decide) ?_
  refine GL.val (v := (.int .i64 2)) (Ex.add rfl rfl (Z := 2) (by decide)) (by decide) ?_
  refine GL.step (Stp.call (vs := [(.pointer (some ⟨bq7, 0, none⟩)), (.agg #[(.int .i64 (((W : Nat) : Int))), (.int .i64 (((H : Nat) : Int))), (.slice (some ⟨xq30, 0, none⟩) (W * H) (W * H))]), (.int .i64 2)]) rfl rfl T.own21 (by decide) (fun wc hw => book_p11 w _ (((W : Nat) : Int)) (((H : Nat) : Int)) bq7 2 xq30 (W * H) (W * H) ((flT xs W H).map u32) 2 xq28.2.1 xq28.2.2.1 xq28.1.1 xq28.1.2.1 (([(Value.slice (some ⟨xq10, 0, none⟩) ((X1 - X0) * (Y1 - Y0)) ((X1 - X0) * (Y1 - Y0)))]) ++ [(Value.slice none 0 0)]) xq28.2.2.2 (([(Value.int .i64 0)]) ++ [(Value.int .i64 1)]) xq28.1.2.2 wc (by rw [List.length_map]; exact flT_len) (by have h' := ((show okP W H from hok)).2.2.2.2; omega) (by first | decide | omega) (by first | rfl | omega) (by first | rfl | omega) hq29.1 hq29.2 (hw.pick (idx := [4, 3, 2, 1, 0, 5, 6, 7, 8, 9, 10, 11, 12, 13, 14, 15, 16, 17, 18, 19]) (by decide) rfl))) (fun xq37 hq38 => ?_)
  refine GL.nil ?_
  refine GE.thenN ?_
  refine GC.seq ?_
  refine GC.pick (idx := [0, 1, 2, 3, 5, 6, 7, 8, 9, 10, 11, 12, 13, 14, 15, 16, 17, 18, 19]) (by decide) rfl ?_
  refine GC.region ?_
  refine GL.val (v := (.agg #[(.int .i64 (((W : Nat) : Int))), (.int .i64 (((H : Nat) : Int))), (.slice (some ⟨j.1.2.2.2, 0, none⟩) n (n + 5))])) (Ex.loadA rfl T.ag32 T.sz32 (i := 14) rfl (vs := [(.int .i64 (((W : Nat) : Int))), (.int .i64 (((H : Nat) : Int))), (.slice (some ⟨j.1.2.2.2, 0, none⟩) n (n + 5))]) rfl rfl) (by decide) ?_
  refine GL.step (Stp.callR (vs := [(.agg #[(.int .i64 (((W : Nat) : Int))), (.int .i64 (((H : Nat) : Int))), (.slice (some ⟨j.1.2.2.2, 0, none⟩) n (n + 5))])]) rfl rfl T.own31 (by decide) (fun wc hw => transp W H n (n + 5) j.1.2.2.2 0 xs wc hok hn hx (Rd.lent (hw.rdOf (i := 13) rfl 0)) )) (fun xq39 hq40 => ?_)
  refine GL.val (Ex.move rfl) (by decide) ?_
  refine GL.val (Ex.extract rfl rfl) (by decide) ?_
  refine GL.val (Ex.extract rfl rfl) (by decide) ?_
  refine GL.step (Stp.st7 (cs' := [(.int .i64 (((H : Nat) : Int))), (.int .i64 (((W : Nat) : Int))), (.slice (some ⟨xq39, 0, none⟩) (H * W) (H * W))]) rfl rfl rfl T.sz32 rfl rfl rfl) (fun _ _ => ?_)
  refine GL.val (Ex.assign rfl) (by decide) ?_
  refine GL.nil ?_
  refine GE.thenN ?_
  refine GC.seq ?_
  refine GC.region ?_
  refine GL.val (v := (.agg #[(.int .i64 (((W : Nat) : Int))), (.int .i64 (((H : Nat) : Int))), (.slice (some ⟨b, o, none⟩) n cap)])) (Ex.loadA rfl T.ag32 T.sz32 (i := 19) rfl (vs := [(.int .i64 (((W : Nat) : Int))), (.int .i64 (((H : Nat) : Int))), (.slice (some ⟨b, o, none⟩) n cap)]) rfl rfl) (by decide) ?_
  refine GL.step (Stp.callR (vs := [(.agg #[(.int .i64 (((W : Nat) : Int))), (.int .i64 (((H : Nat) : Int))), (.slice (some ⟨b, o, none⟩) n cap)])]) rfl rfl T.own32 (by decide) (fun wc hw => ref_transp W H n cap b o xs wc hok hn hx (hw.rd hr (fun x => x)) )) (fun xq41 hq42 => ?_)
  refine GL.val (Ex.move rfl) (by decide) ?_
  refine GL.val (Ex.extract rfl rfl) (by decide) ?_
  refine GL.val (Ex.extract rfl rfl) (by decide) ?_
  refine GL.step (Stp.st7 (cs' := [(.int .i64 (((H : Nat) : Int))), (.int .i64 (((W : Nat) : Int))), (.slice (some ⟨xq41, 0, none⟩) (H * W) (H * W))]) rfl rfl rfl T.sz32 rfl rfl rfl) (fun _ _ => ?_)
  refine GL.val (Ex.assign rfl) (by decide) ?_
  refine GL.nil ?_
  refine GE.thenN ?_
  refine GC.seq ?_
  refine GC.seq ?_
  refine GC.region ?_
  refine GL.val (v := (.agg #[(.int .i64 (((H : Nat) : Int))), (.int .i64 (((W : Nat) : Int))), (.slice (some ⟨xq39, 0, none⟩) (H * W) (H * W))])) (Ex.loadA rfl T.ag32 T.sz32 (i := 8) rfl (vs := [(.int .i64 (((H : Nat) : Int))), (.int .i64 (((W : Nat) : Int))), (.slice (some ⟨xq39, 0, none⟩) (H * W) (H * W))]) rfl rfl) (by decide) ?_
  refine GL.val (Ex.move rfl) (by decide) ?_
  refine GL.val (v := (.agg #[(.int .i64 (((H : Nat) : Int))), (.int .i64 (((W : Nat) : Int))), (.slice (some ⟨xq41, 0, none⟩) (H * W) (H * W))])) (Ex.loadA rfl T.ag32 T.sz32 (i := 7) rfl (vs := [(.int .i64 (((H : Nat) : Int))), (.int .i64 (((W : Nat) : Int))), (.slice (some ⟨xq41, 0, none⟩) (H * W) (H * W))]) rfl rfl) (by decide) ?_
  refine GL.val (Ex.move rfl) (by decide) ?_
  refine GL.step (Stp.callR (vs := [(.agg #[(.int .i64 (((H : Nat) : Int))), (.int .i64 (((W : Nat) : Int))), (.slice (some ⟨xq39, 0, none⟩) (H * W) (H * W))]), (.int .i64 0), (.agg #[(.int .i64 (((H : Nat) : Int))), (.int .i64 (((W : Nat) : Int))), (.slice (some ⟨xq41, 0, none⟩) (H * W) (H * W))]), (.int .i64 0)]) rfl rfl T.own20 (by decide) (fun wc hw => same_ (((H : Nat) : Int)) (((W : Nat) : Int)) (some ⟨xq39, 0, none⟩) (H * W) (H * W) (((H : Nat) : Int)) (((W : Nat) : Int)) (some ⟨xq41, 0, none⟩) (H * W) (H * W) 0 (trp xs W H) (trp xs W H) wc (by have h' := ((show okP H W from hok.swap)).2.2.2.2; omega) (LsR.blk trp_len (hw.rdOf (i := 1) rfl 0)) (LsR.blk trp_len (hw.rdOf (i := 0) rfl 0)) (by first | rfl | omega) (by first | rfl | omega) (by first | rfl | (simp only [Nat.add_zero])))) (fun xq43 hq44 => ?_)
  refine GL.val (v := (.bool false)) (Ex.cast (Ex.not rfl) rfl) (by decide) ?_
  refine GL.nil ?_
  refine GE.thenN ?_
  refine GC.cond rfl (fun hq45 => by cases hq45) (fun _ => ?_)
  refine GC.skip ?_
  refine GE.thenN ?_
  refine GC.seq ?_
  refine GC.region ?_
  refine GL.val (Ex.move rfl) (by decide) ?_
  refine GL.val (v := (.agg #[(.int .i64 (((H : Nat) : Int))), (.int .i64 (((W : Nat) : Int))), (.slice (some ⟨xq39, 0, none⟩) (H * W) (H * W))])) (Ex.loadA rfl T.ag32 T.sz32 (i := 8) rfl (vs := [(.int .i64 (((H : Nat) : Int))), (.int .i64 (((W : Nat) : Int))), (.slice (some ⟨xq39, 0, none⟩) (H * W) (H * W))]) rfl rfl) (by decide) ?_
  refine GL.val (Ex.move rfl) (by decide) ?_
  refine GL.val (v := (.int .i64 3)) (Ex.add rfl rfl (Z := 3) (by decide)) (by decide) ?_
  refine GL.step (Stp.call (vs := [(.pointer (some ⟨bq7, 0, none⟩)), (.agg #[(.int .i64 (((H : Nat) : Int))), (.int .i64 (((W : Nat) : Int))), (.slice (some ⟨xq39, 0, none⟩) (H * W) (H * W))]), (.int .i64 3)]) rfl rfl T.own21 (by decide) (fun wc hw => book_p11 w _ (((H : Nat) : Int)) (((W : Nat) : Int)) bq7 3 xq39 (H * W) (H * W) ((trp xs W H).map u32) 3 xq37.2.1 xq37.2.2.1 xq37.1.1 xq37.1.2.1 ((([(Value.slice (some ⟨xq10, 0, none⟩) ((X1 - X0) * (Y1 - Y0)) ((X1 - X0) * (Y1 - Y0)))]) ++ [(Value.slice none 0 0)]) ++ [(Value.slice (some ⟨xq30, 0, none⟩) (W * H) (W * H))]) xq37.2.2.2 ((([(Value.int .i64 0)]) ++ [(Value.int .i64 1)]) ++ [(Value.int .i64 2)]) xq37.1.2.2 wc (by rw [List.length_map]; exact trp_len) (by have h' := ((show okP H W from hok.swap)).2.2.2.2; omega) (by first | decide | omega) (by first | rfl | omega) (by first | rfl | omega) hq38.1 hq38.2 (hw.pick (idx := [4, 3, 2, 1, 0, 5, 6, 7, 8, 9, 10, 11, 12, 13, 14, 15, 16, 17, 18, 19, 20]) (by decide) rfl))) (fun xq46 hq47 => ?_)
  refine GL.nil ?_
  refine GE.thenN ?_
  refine GC.seq ?_
  refine GC.pick (idx := [0, 1, 2, 3, 5, 6, 7, 8, 9, 10, 11, 12, 13, 14, 15, 16, 17, 18, 19, 20]) (by decide) rfl ?_
  refine GC.region ?_
  refine GL.val (v := (.agg #[(.int .i64 (((W : Nat) : Int))), (.int .i64 (((H : Nat) : Int))), (.slice (some ⟨j.1.2.2.2, 0, none⟩) n (n + 5))])) (Ex.loadA rfl T.ag32 T.sz32 (i := 15) rfl (vs := [(.int .i64 (((W : Nat) : Int))), (.int .i64 (((H : Nat) : Int))), (.slice (some ⟨j.1.2.2.2, 0, none⟩) n (n + 5))]) rfl rfl) (by decide) ?_
  refine GL.val (Ex.move rfl) (by decide) ?_
  refine GL.val (Ex.move rfl) (by decide) ?_
  refine GL.val (v := (.int .i64 (IntKind.i64.wrap (q1 + 0)))) (Ex.add rfl rfl (Z := IntKind.i64.wrap (q1 + 0)) rfl) (by decide) ?_
  refine GL.step (Stp.callR (vs := [(.agg #[(.int .i64 (((W : Nat) : Int))), (.int .i64 (((H : Nat) : Int))), (.slice (some ⟨j.1.2.2.2, 0, none⟩) n (n + 5))]), (.int .i64 (IntKind.i64.wrap (q1 + 0)))]) rfl rfl T.own33 (by decide) (fun wc hw => turn_any W H n (n + 5) j.1.2.2.2 0 xs (IntKind.i64.wrap (q1 + 0)) ((rst (IntKind.i64.wrap (q1 + 0)) 4).toNat) wc hok hn hx (Rd.lent (hw.rdOf (i := 14) rfl 0)) (rst4 (IntKind.i64.wrap (q1 + 0))).2 (rst4 (IntKind.i64.wrap (q1 + 0))).1)) (fun xq48 hq49 => ?_)
  refine GL.val (Ex.move rfl) (by decide) ?_
  refine GL.val (Ex.extract rfl rfl) (by decide) ?_
  refine GL.val (Ex.extract rfl rfl) (by decide) ?_
  refine GL.step (Stp.st8 (cs' := [(.int .i64 (((tW ((rst (IntKind.i64.wrap (q1 + 0)) 4).toNat) W H : Nat) : Int))), (.int .i64 (((tH ((rst (IntKind.i64.wrap (q1 + 0)) 4).toNat) W H : Nat) : Int))), (.slice (some ⟨xq48, 0, none⟩) ((tW ((rst (IntKind.i64.wrap (q1 + 0)) 4).toNat) W H) * (tH ((rst (IntKind.i64.wrap (q1 + 0)) 4).toNat) W H)) ((tW ((rst (IntKind.i64.wrap (q1 + 0)) 4).toNat) W H) * (tH ((rst (IntKind.i64.wrap (q1 + 0)) 4).toNat) W H)))]) rfl rfl rfl T.sz32 rfl rfl rfl) (fun _ _ => ?_)
  refine GL.val (Ex.assign rfl) (by decide) ?_
  refine GL.nil ?_
  refine GE.thenN ?_
  refine GC.seq ?_
  refine GC.region ?_
  refine GL.val (v := (.agg #[(.int .i64 (((W : Nat) : Int))), (.int .i64 (((H : Nat) : Int))), (.slice (some ⟨b, o, none⟩) n cap)])) (Ex.loadA rfl T.ag32 T.sz32 (i := 20) rfl (vs := [(.int .i64 (((W : Nat) : Int))), (.int .i64 (((H : Nat) : Int))), (.slice (some ⟨b, o, none⟩) n cap)]) rfl rfl) (by decide) ?_
  refine GL.val (Ex.move rfl) (by decide) ?_
  refine GL.val (Ex.move rfl) (by decide) ?_
  refine GL.val (v := (.int .i64 (IntKind.i64.wrap (q1 + 0)))) (Ex.add rfl rfl (Z := IntKind.i64.wrap (q1 + 0)) rfl) (by decide) ?_
  refine GL.step (Stp.callR (vs := [(.agg #[(.int .i64 (((W : Nat) : Int))), (.int .i64 (((H : Nat) : Int))), (.slice (some ⟨b, o, none⟩) n cap)]), (.int .i64 (IntKind.i64.wrap (q1 + 0)))]) rfl rfl T.own34 (by decide) (fun wc hw => ref_turn W H n cap b o xs (IntKind.i64.wrap (q1 + 0)) ((rst (IntKind.i64.wrap (q1 + 0)) 4).toNat) wc hok hn hx (hw.rd hr (fun x => x)) (rst4 (IntKind.i64.wrap (q1 + 0))).2 (rst4 (IntKind.i64.wrap (q1 + 0))).1)) (fun xq50 hq51 => ?_)
  refine GL.val (Ex.move rfl) (by decide) ?_
  refine GL.val (Ex.extract rfl rfl) (by decide) ?_
  refine GL.val (Ex.extract rfl rfl) (by decide) ?_
  refine GL.step (Stp.st8 (cs' := [(.int .i64 (((tW ((rst (IntKind.i64.wrap (q1 + 0)) 4).toNat) W H : Nat) : Int))), (.int .i64 (((tH ((rst (IntKind.i64.wrap (q1 + 0)) 4).toNat) W H : Nat) : Int))), (.slice (some ⟨xq50, 0, none⟩) ((tW ((rst (IntKind.i64.wrap (q1 + 0)) 4).toNat) W H) * (tH ((rst (IntKind.i64.wrap (q1 + 0)) 4).toNat) W H)) ((tW ((rst (IntKind.i64.wrap (q1 + 0)) 4).toNat) W H) * (tH ((rst (IntKind.i64.wrap (q1 + 0)) 4).toNat) W H)))]) rfl rfl rfl T.sz32 rfl rfl rfl) (fun _ _ => ?_)
  refine GL.val (Ex.assign rfl) (by decide) ?_
  refine GL.nil ?_
  refine GE.thenN ?_
  refine GC.seq ?_
  refine GC.seq ?_
  refine GC.region ?_
  refine GL.val (v := (.agg #[(.int .i64 (((tW ((rst (IntKind.i64.wrap (q1 + 0)) 4).toNat) W H : Nat) : Int))), (.int .i64 (((tH ((rst (IntKind.i64.wrap (q1 + 0)) 4).toNat) W H : Nat) : Int))), (.slice (some ⟨xq48, 0, none⟩) ((tW ((rst (IntKind.i64.wrap (q1 + 0)) 4).toNat) W H) * (tH ((rst (IntKind.i64.wrap (q1 + 0)) 4).toNat) W H)) ((tW ((rst (IntKind.i64.wrap (q1 + 0)) 4).toNat) W H) * (tH ((rst (IntKind.i64.wrap (q1 + 0)) 4).toNat) W H)))])) (Ex.loadA rfl T.ag32 T.sz32 (i := 9) rfl (vs := [(.int .i64 (((tW ((rst (IntKind.i64.wrap (q1 + 0)) 4).toNat) W H : Nat) : Int))), (.int .i64 (((tH ((rst (IntKind.i64.wrap (q1 + 0)) 4).toNat) W H : Nat) : Int))), (.slice (some ⟨xq48, 0, none⟩) ((tW ((rst (IntKind.i64.wrap (q1 + 0)) 4).toNat) W H) * (tH ((rst (IntKind.i64.wrap (q1 + 0)) 4).toNat) W H)) ((tW ((rst (IntKind.i64.wrap (q1 + 0)) 4).toNat) W H) * (tH ((rst (IntKind.i64.wrap (q1 + 0)) 4).toNat) W H)))]) rfl rfl) (by decide) ?_
  refine GL.val (Ex.move rfl) (by decide) ?_
  refine GL.val (v := (.agg #[(.int .i64 (((tW ((rst (IntKind.i64.wrap (q1 + 0)) 4).toNat) W H : Nat) : Int))), (.int .i64 (((tH ((rst (IntKind.i64.wrap (q1 + 0)) 4).toNat) W H : Nat) : Int))), (.slice (some ⟨xq50, 0, none⟩) ((tW ((rst (IntKind.i64.wrap (q1 + 0)) 4).toNat) W H) * (tH ((rst (IntKind.i64.wrap (q1 + 0)) 4).toNat) W H)) ((tW ((rst (IntKind.i64.wrap (q1 + 0)) 4).toNat) W H) * (tH ((rst (IntKind.i64.wrap (q1 + 0)) 4).toNat) W H)))])) (Ex.loadA rfl T.ag32 T.sz32 (i := 8) rfl (vs := [(.int .i64 (((tW ((rst (IntKind.i64.wrap (q1 + 0)) 4).toNat) W H : Nat) : Int))), (.int .i64 (((tH ((rst (IntKind.i64.wrap (q1 + 0)) 4).toNat) W H : Nat) : Int))), (.slice (some ⟨xq50, 0, none⟩) ((tW ((rst (IntKind.i64.wrap (q1 + 0)) 4).toNat) W H) * (tH ((rst (IntKind.i64.wrap (q1 + 0)) 4).toNat) W H)) ((tW ((rst (IntKind.i64.wrap (q1 + 0)) 4).toNat) W H) * (tH ((rst (IntKind.i64.wrap (q1 + 0)) 4).toNat) W H)))]) rfl rfl) (by decide) ?_
  refine GL.val (Ex.move rfl) (by decide) ?_
  refine GL.step (Stp.callR (vs := [(.agg #[(.int .i64 (((tW ((rst (IntKind.i64.wrap (q1 + 0)) 4).toNat) W H : Nat) : Int))), (.int .i64 (((tH ((rst (IntKind.i64.wrap (q1 + 0)) 4).toNat) W H : Nat) : Int))), (.slice (some ⟨xq48, 0, none⟩) ((tW ((rst (IntKind.i64.wrap (q1 + 0)) 4).toNat) W H) * (tH ((rst (IntKind.i64.wrap (q1 + 0)) 4).toNat) W H)) ((tW ((rst (IntKind.i64.wrap (q1 + 0)) 4).toNat) W H) * (tH ((rst (IntKind.i64.wrap (q1 + 0)) 4).toNat) W H)))]), (.int .i64 0), (.agg #[(.int .i64 (((tW ((rst (IntKind.i64.wrap (q1 + 0)) 4).toNat) W H : Nat) : Int))), (.int .i64 (((tH ((rst (IntKind.i64.wrap (q1 + 0)) 4).toNat) W H : Nat) : Int))), (.slice (some ⟨xq50, 0, none⟩) ((tW ((rst (IntKind.i64.wrap (q1 + 0)) 4).toNat) W H) * (tH ((rst (IntKind.i64.wrap (q1 + 0)) 4).toNat) W H)) ((tW ((rst (IntKind.i64.wrap (q1 + 0)) 4).toNat) W H) * (tH ((rst (IntKind.i64.wrap (q1 + 0)) 4).toNat) W H)))]), (.int .i64 0)]) rfl rfl T.own20 (by decide) (fun wc hw => same_ (((tW ((rst (IntKind.i64.wrap (q1 + 0)) 4).toNat) W H : Nat) : Int)) (((tH ((rst (IntKind.i64.wrap (q1 + 0)) 4).toNat) W H : Nat) : Int)) (some ⟨xq48, 0, none⟩) ((tW ((rst (IntKind.i64.wrap (q1 + 0)) 4).toNat) W H) * (tH ((rst (IntKind.i64.wrap (q1 + 0)) 4).toNat) W H)) ((tW ((rst (IntKind.i64.wrap (q1 + 0)) 4).toNat) W H) * (tH ((rst (IntKind.i64.wrap (q1 + 0)) 4).toNat) W H)) (((tW ((rst (IntKind.i64.wrap (q1 + 0)) 4).toNat) W H : Nat) : Int)) (((tH ((rst (IntKind.i64.wrap (q1 + 0)) 4).toNat) W H : Nat) : Int)) (some ⟨xq50, 0, none⟩) ((tW ((rst (IntKind.i64.wrap (q1 + 0)) 4).toNat) W H) * (tH ((rst (IntKind.i64.wrap (q1 + 0)) 4).toNat) W H)) ((tW ((rst (IntKind.i64.wrap (q1 + 0)) 4).toNat) W H) * (tH ((rst (IntKind.i64.wrap (q1 + 0)) 4).toNat) W H)) 0 (trn ((rst (IntKind.i64.wrap (q1 + 0)) 4).toNat) xs W H) (trn ((rst (IntKind.i64.wrap (q1 + 0)) 4).toNat) xs W H) wc (by have h' := ((show okP (tW ((rst (IntKind.i64.wrap (q1 + 0)) 4).toNat) W H) (tH ((rst (IntKind.i64.wrap (q1 + 0)) 4).toNat) W H) from (okP.turn hok ((rst (IntKind.i64.wrap (q1 + 0)) 4).toNat)))).2.2.2.2; omega) (LsR.blk (trn_len (rst4 _).2) (hw.rdOf (i := 1) rfl 0)) (LsR.blk (trn_len (rst4 _).2) (hw.rdOf (i := 0) rfl 0)) (by first | rfl | omega) (by first | rfl | omega) (by first | rfl | (simp only [Nat.add_zero])))) (fun xq52 hq53 => ?_)
  refine GL.val (v := (.bool false)) (Ex.cast (Ex.not rfl) rfl) (by decide) ?_
  refine GL.nil ?_
  refine GE.thenN ?_
  refine GC.cond rfl (fun hq54 => by cases hq54) (fun _ => ?_)
  refine GC.skip ?_
  refine GE.thenN ?_
  refine GC.region ?_
  refine GL.val (Ex.move rfl) (by decide) ?_
  refine GL.val (v := (.agg #[(.int .i64 (((tW ((rst (IntKind.i64.wrap (q1 + 0)) 4).toNat) W H : Nat) : Int))), (.int .i64 (((tH ((rst (IntKind.i64.wrap (q1 + 0)) 4).toNat) W H : Nat) : Int))), (.slice (some ⟨xq48, 0, none⟩) ((tW ((rst (IntKind.i64.wrap (q1 + 0)) 4).toNat) W H) * (tH ((rst (IntKind.i64.wrap (q1 + 0)) 4).toNat) W H)) ((tW ((rst (IntKind.i64.wrap (q1 + 0)) 4).toNat) W H) * (tH ((rst (IntKind.i64.wrap (q1 + 0)) 4).toNat) W H)))])) (Ex.loadA rfl T.ag32 T.sz32 (i := 9) rfl (vs := [(.int .i64 (((tW ((rst (IntKind.i64.wrap (q1 + 0)) 4).toNat) W H : Nat) : Int))), (.int .i64 (((tH ((rst (IntKind.i64.wrap (q1 + 0)) 4).toNat) W H : Nat) : Int))), (.slice (some ⟨xq48, 0, none⟩) ((tW ((rst (IntKind.i64.wrap (q1 + 0)) 4).toNat) W H) * (tH ((rst (IntKind.i64.wrap (q1 + 0)) 4).toNat) W H)) ((tW ((rst (IntKind.i64.wrap (q1 + 0)) 4).toNat) W H) * (tH ((rst (IntKind.i64.wrap (q1 + 0)) 4).toNat) W H)))]) rfl rfl) (by decide) ?_
  refine GL.val (Ex.move rfl) (by decide) ?_
  refine GL.val (v := (.int .i64 4)) (Ex.add rfl rfl (Z := 4) (by decide)) (by decide) ?_
  refine GL.step (Stp.call (vs := [(.pointer (some ⟨bq7, 0, none⟩)), (.agg #[(.int .i64 (((tW ((rst (IntKind.i64.wrap (q1 + 0)) 4).toNat) W H : Nat) : Int))), (.int .i64 (((tH ((rst (IntKind.i64.wrap (q1 + 0)) 4).toNat) W H : Nat) : Int))), (.slice (some ⟨xq48, 0, none⟩) ((tW ((rst (IntKind.i64.wrap (q1 + 0)) 4).toNat) W H) * (tH ((rst (IntKind.i64.wrap (q1 + 0)) 4).toNat) W H)) ((tW ((rst (IntKind.i64.wrap (q1 + 0)) 4).toNat) W H) * (tH ((rst (IntKind.i64.wrap (q1 + 0)) 4).toNat) W H)))]), (.int .i64 4)]) rfl rfl T.own21 (by decide) (fun wc hw => book_p11 w _ (((tW ((rst (IntKind.i64.wrap (q1 + 0)) 4).toNat) W H : Nat) : Int)) (((tH ((rst (IntKind.i64.wrap (q1 + 0)) 4).toNat) W H : Nat) : Int)) bq7 4 xq48 ((tW ((rst (IntKind.i64.wrap (q1 + 0)) 4).toNat) W H) * (tH ((rst (IntKind.i64.wrap (q1 + 0)) 4).toNat) W H)) ((tW ((rst (IntKind.i64.wrap (q1 + 0)) 4).toNat) W H) * (tH ((rst (IntKind.i64.wrap (q1 + 0)) 4).toNat) W H)) ((trn ((rst (IntKind.i64.wrap (q1 + 0)) 4).toNat) xs W H).map u32) 4 xq46.2.1 xq46.2.2.1 xq46.1.1 xq46.1.2.1 (((([(Value.slice (some ⟨xq10, 0, none⟩) ((X1 - X0) * (Y1 - Y0)) ((X1 - X0) * (Y1 - Y0)))]) ++ [(Value.slice none 0 0)]) ++ [(Value.slice (some ⟨xq30, 0, none⟩) (W * H) (W * H))]) ++ [(Value.slice (some ⟨xq39, 0, none⟩) (H * W) (H * W))]) xq46.2.2.2 (((([(Value.int .i64 0)]) ++ [(Value.int .i64 1)]) ++ [(Value.int .i64 2)]) ++ [(Value.int .i64 3)]) xq46.1.2.2 wc (by rw [List.length_map]; exact (trn_len (rst4 _).2)) (by have h' := ((show okP (tW ((rst (IntKind.i64.wrap (q1 + 0)) 4).toNat) W H) (tH ((rst (IntKind.i64.wrap (q1 + 0)) 4).toNat) W H) from (okP.turn hok ((rst (IntKind.i64.wrap (q1 + 0)) 4).toNat)))).2.2.2.2; omega) (by first | decide | omega) (by first | rfl | omega) (by first | rfl | omega) hq47.1 hq47.2 (hw.pick (idx := [4, 3, 2, 1, 0, 5, 6, 7, 8, 9, 10, 11, 12, 13, 14, 15, 16, 17, 18, 19, 20, 21]) (by decide) rfl))) (fun xq55 hq56 => ?_)
  refine GL.nil ?_
  refine GE.blockN ?_
  refine GE.thenN ?_
  refine GC.region ?_
  refine GL.val (Ex.move rfl) (by decide) ?_
  refine GL.val (v := (.int .i64 1)) (Ex.add rfl rfl (Z := 1) (by decide)) (by decide) ?_
  refine GL.val (Ex.assign rfl) (by decide) ?_
  refine GL.nil ?_
  refine GE.thenN ?_
  refine GE.round ?_
  refine GC.seq ?_
  refine GC.seq ?_
  refine GC.region ?_
  refine GL.val (Ex.move rfl) (by decide) ?_
  refine GL.val (v := (.bool true)) (Ex.cast (Ex.lss rfl rfl) rfl) (by decide) ?_
  refine GL.nil ?_
  refine GE.thenN ?_
  refine GC.cond rfl (fun _ => ?_) (fun hq57 => by cases hq57)
  refine GC.skip ?_
  refine GE.thenN ?_
  refine GC.seq ?_
  refine GC.block ?_
  refine GC.seq ?_
  refine GC.region ?_
  refine GL.val (Ex.move rfl) (by decide) ?_
  refine GL.val (v := (.int .i64 100)) (Ex.mul rfl rfl (Z := 100) (by decide)) (by decide) ?_
  refine GL.val (Ex.assign rfl) (by decide) ?_
  refine GL.nil ?_
  refine GE.thenN ?_
  refine GC.seq ?_
  refine GC.pick (idx := [0, 1, 2, 3, 5, 6, 7, 8, 9, 10, 11, 12, 13, 14, 15, 16, 17, 18, 19, 20, 21]) (by decide) rfl ?_
  refine GC.region ?_
  refine GL.val (v := (.agg #[(.int .i64 (((W : Nat) : Int))), (.int .i64 (((H : Nat) : Int))), (.slice (some ⟨j.1.2.2.2, 0, none⟩) n (n + 5))])) (Ex.loadA rfl T.ag32 T.sz32 (i := 16) rfl (vs := [(.int .i64 (((W : Nat) : Int))), (.int .i64 (((H : Nat) : Int))), (.slice (some ⟨j.1.2.2.2, 0, none⟩) n (n + 5))]) rfl rfl) (by decide) ?_
  refine GL.val (v := (.agg #[(.int .i64 (((X0 : Nat) : Int))), (.int .i64 (((Y0 : Nat) : Int))), (.int .i64 (((X1 : Nat) : Int))), (.int .i64 (((Y1 : Nat) : Int)))])) (Ex.loadA rfl T.ag54 T.sz54 (i := 18) rfl (vs := [(.int .i64 (((X0 : Nat) : Int))), (.int .i64 (((Y0 : Nat) : Int))), (.int .i64 (((X1 : Nat) : Int))), (.int .i64 (((Y1 : Nat) : Int)))]) rfl rfl) (by decide) ?_
  refine GL.step (Stp.callR (vs := [(.agg #[(.int .i64 (((W : Nat) : Int))), (.int .i64 (((H : Nat) : Int))), (.slice (some ⟨j.1.2.2.2, 0, none⟩) n (n + 5))]), (.agg #[(.int .i64 (((X0 : Nat) : Int))), (.int .i64 (((Y0 : Nat) : Int))), (.int .i64 (((X1 : Nat) : Int))), (.int .i64 (((Y1 : Nat) : Int)))])]) rfl rfl T.own24 (by decide) (fun wc hw => crop_in W H n (n + 5) j.1.2.2.2 0 X0 Y0 X1 Y1 xs wc hok hn hx (Rd.lent (hw.rdOf (i := 15) rfl 0)) hX0 hX1 hY0 hY1)) (fun xq58 hq59 => ?_)
  refine GL.val (Ex.move rfl) (by decide) ?_
  refine GL.val (Ex.extract rfl rfl) (by decide) ?_
  refine GL.val (Ex.extract rfl rfl) (by decide) ?_
  refine GL.step (Stp.alloc T.zr32 (by decide)) (fun bq60 _ => ?_)
  refine GL.step (Stp.st0 (cs' := [(.int .i64 (((X1 - X0 : Nat) : Int))), (.int .i64 (((Y1 - Y0 : Nat) : Int))), (.slice (some ⟨xq58, 0, none⟩) ((X1 - X0) * (Y1 - Y0)) ((X1 - X0) * (Y1 - Y0)))]) rfl rfl rfl T.sz32 rfl rfl rfl) (fun _ _ => ?_)
  refine GL.val (Ex.assign rfl) (by decide) ?_
  refine GL.nil ?_
  refine GE.thenN ?_
  refine GC.seq ?_
  refine GC.region ?_
  refine GL.val (v := (.agg #[(.int .i64 (((W : Nat) : Int))), (.int .i64 (((H : Nat) : Int))), (.slice (some ⟨b, o, none⟩) n cap)])) (Ex.loadA rfl T.ag32 T.sz32 (i := 22) rfl (vs := [(.int .i64 (((W : Nat) : Int))), (.int .i64 (((H : Nat) : Int))), (.slice (some ⟨b, o, none⟩) n cap)]) rfl rfl) (by decide) ?_
  refine GL.val (v := (.agg #[(.int .i64 (((X0 : Nat) : Int))), (.int .i64 (((Y0 : Nat) : Int))), (.int .i64 (((X1 : Nat) : Int))), (.int .i64 (((Y1 : Nat) : Int)))])) (Ex.loadA rfl T.ag54 T.sz54 (i := 20) rfl (vs := [(.int .i64 (((X0 : Nat) : Int))), (.int .i64 (((Y0 : Nat) : Int))), (.int .i64 (((X1 : Nat) : Int))), (.int .i64 (((Y1 : Nat) : Int)))]) rfl rfl) (by decide) ?_
  refine GL.step (Stp.callR (vs := [(.agg #[(.int .i64 (((W : Nat) : Int))), (.int .i64 (((H : Nat) : Int))), (.slice (some ⟨b, o, none⟩) n cap)]), (.agg #[(.int .i64 (((X0 : Nat) : Int))), (.int .i64 (((Y0 : Nat) : Int))), (.int .i64 (((X1 : Nat) : Int))), (.int .i64 (((Y1 : Nat) : Int)))])]) rfl rfl T.own27 (by decide) (fun wc hw => ref_crop W H n cap b o X0 Y0 X1 Y1 xs wc hok hn hx (hw.rd hr (fun x => x)) hX0 hX1 hY0 hY1)) (fun xq61 hq62 => ?_)
  refine GL.val (Ex.move rfl) (by decide) ?_
  refine GL.val (Ex.extract rfl rfl) (by decide) ?_
  refine GL.val (Ex.extract rfl rfl) (by decide) ?_
  refine GL.step (Stp.alloc T.zr32 (by decide)) (fun bq63 _ => ?_)
  refine GL.step (Stp.st0 (cs' := [(.int .i64 (((X1 - X0 : Nat) : Int))), (.int .i64 (((Y1 - Y0 : Nat) : Int))), (.slice (some ⟨xq61, 0, none⟩) ((X1 - X0) * (Y1 - Y0)) ((X1 - X0) * (Y1 - Y0)))]) rfl rfl rfl T.sz32 rfl rfl rfl) (fun _ _ => ?_)
  refine GL.val (Ex.assign rfl) (by decide) ?_
  refine GL.nil ?_
  refine GE.thenN ?_
  refine GC.seq ?_
  refine GC.seq ?_
  refine GC.region ?_
  refine GL.val (v := (.agg #[(.int .i64 (((X1 - X0 : Nat) : Int))), (.int .i64 (((Y1 - Y0 : Nat) : Int))), (.slice (some ⟨xq58, 0, none⟩) ((X1 - X0) * (Y1 - Y0)) ((X1 - X0) * (Y1 - Y0)))])) (Ex.loadA rfl T.ag32 T.sz32 (i := 2) rfl (vs := [(.int .i64 (((X1 - X0 : Nat) : Int))), (.int .i64 (((Y1 - Y0 : Nat) : Int))), (.slice (some ⟨xq58, 0, none⟩) ((X1 - X0) * (Y1 - Y0)) ((X1 - X0) * (Y1 - Y0)))]) rfl rfl) (by decide) ?_
  refine GL.val (Ex.move rfl) (by decide) ?_
  refine GL.val (v := (.agg #[(.int .i64 (((X1 - X0 : Nat) : Int))), (.int .i64 (((Y1 - Y0 : Nat) : Int))), (.slice (some ⟨xq61, 0, none⟩) ((X1 - X0) * (Y1 - Y0)) ((X1 - X0) * (Y1 - Y0)))])) (Ex.loadA rfl T.ag32 T.sz32 (i := 0) rfl (vs := [(.int .i64 (((X1 - X0 : Nat) : Int))), (.int .i64 (((Y1 - Y0 : Nat) : Int))), (.slice (some ⟨xq61, 0, none⟩) ((X1 - X0) * (Y1 - Y0)) ((X1 - X0) * (Y1 - Y0)))]) rfl rfl) (by decide) ?_
  refine GL.val (Ex.move rfl) (by decide) ?_
  refine GL.step (Stp.callR (vs := [(.agg #[(.int .i64 (((X1 - X0 : Nat) : Int))), (.int .i64 (((Y1 - Y0 : Nat) : Int))), (.slice (some ⟨xq58, 0, none⟩) ((X1 - X0) * (Y1 - Y0)) ((X1 - X0) * (Y1 - Y0)))]), (.int .i64 0), (.agg #[(.int .i64 (((X1 - X0 : Nat) : Int))), (.int .i64 (((Y1 - Y0 : Nat) : Int))), (.slice (some ⟨xq61, 0, none⟩) ((X1 - X0) * (Y1 - Y0)) ((X1 - X0) * (Y1 - Y0)))]), (.int .i64 0)]) rfl rfl T.own20 (by decide) (fun wc hw => same_ (((X1 - X0 : Nat) : Int)) (((Y1 - Y0 : Nat) : Int)) (some ⟨xq58, 0, none⟩) ((X1 - X0) * (Y1 - Y0)) ((X1 - X0) * (Y1 - Y0)) (((X1 - X0 : Nat) : Int)) (((Y1 - Y0 : Nat) : Int)) (some ⟨xq61, 0, none⟩) ((X1 - X0) * (Y1 - Y0)) ((X1 - X0) * (Y1 - Y0)) 0 (crp xs W X0 Y0 (X1 - X0) (Y1 - Y0)) (crp xs W X0 Y0 (X1 - X0) (Y1 - Y0)) wc (by have h' := ((show okP (X1 - X0) (Y1 - Y0) from (hok.part (by omega) (by omega) (by omega) (by omega)))).2.2.2.2; omega) (LsR.blk crp_len (hw.rdOf (i := 3) rfl 0)) (LsR.blk crp_len (hw.rdOf (i := 1) rfl 0)) (by first | rfl | omega) (by first | rfl | omega) (by first | rfl | (simp only [Nat.add_zero])))) (fun xq64 hq65 => ?_)
  refine GL.val (v := (.bool false)) (Ex.cast (Ex.not rfl) rfl) (by decide) ?_
  refine GL.nil ?_
  refine GE.thenN ?_
  refine GC.cond rfl (fun hq66 => by cases hq66) (fun _ => ?_)
  refine GC.skip ?_
  refine GE.thenN ?_
  refine GC.seq ?_
  refine GC.region ?_
  refine GL.val (Ex.move rfl) (by decide) ?_
  refine GL.val (v := (.agg #[(.int .i64 (((X1 - X0 : Nat) : Int))), (.int .i64 (((Y1 - Y0 : Nat) : Int))), (.slice (some ⟨xq58, 0, none⟩) ((X1 - X0) * (Y1 - Y0)) ((X1 - X0) * (Y1 - Y0)))])) (Ex.loadA rfl T.ag32 T.sz32 (i := 2) rfl (vs := [(.int .i64 (((X1 - X0 : Nat) : Int))), (.int .i64 (((Y1 - Y0 : Nat) : Int))), (.slice (some ⟨xq58, 0, none⟩) ((X1 - X0) * (Y1 - Y0)) ((X1 - X0) * (Y1 - Y0)))]) rfl rfl) (by decide) ?_
  refine GL.val (Ex.move rfl) (by decide) ?_
  refine GL.step (Stp.call (vs := [(.pointer (some ⟨bq7, 0, none⟩)), (.agg #[(.int .i64 (((X1 - X0 : Nat) : Int))), (.int .i64 (((Y1 - Y0 : Nat) : Int))), (.slice (some ⟨xq58, 0, none⟩) ((X1 - X0) * (Y1 - Y0)) ((X1 - X0) * (Y1 - Y0)))]), (.int .i64 100)]) rfl rfl T.own21 (by decide) (fun wc hw => book_p11 w _ (((X1 - X0 : Nat) : Int)) (((Y1 - Y0 : Nat) : Int)) bq7 100 xq58 ((X1 - X0) * (Y1 - Y0)) ((X1 - X0) * (Y1 - Y0)) ((crp xs W X0 Y0 (X1 - X0) (Y1 - Y0)).map u32) 5 xq55.2.1 xq55.2.2.1 xq55.1.1 xq55.1.2.1 ((((([(Value.slice (some ⟨xq10, 0, none⟩) ((X1 - X0) * (Y1 - Y0)) ((X1 - X0) * (Y1 - Y0)))]) ++ [(Value.slice none 0 0)]) ++ [(Value.slice (some ⟨xq30, 0, none⟩) (W * H) (W * H))]) ++ [(Value.slice (some ⟨xq39, 0, none⟩) (H * W) (H * W))]) ++ [(Value.slice (some ⟨xq48, 0, none⟩) ((tW ((rst (IntKind.i64.wrap (q1 + 0)) 4).toNat) W H) * (tH ((rst (IntKind.i64.wrap (q1 + 0)) 4).toNat) W H)) ((tW ((rst (IntKind.i64.wrap (q1 + 0)) 4).toNat) W H) * (tH ((rst (IntKind.i64.wrap (q1 + 0)) 4).toNat) W H)))]) xq55.2.2.2 ((((([(Value.int .i64 0)]) ++ [(Value.int .i64 1)]) ++ [(Value.int .i64 2)]) ++ [(Value.int .i64 3)]) ++ [(Value.int .i64 4)]) xq55.1.2.2 wc (by rw [List.length_map]; exact crp_len) (by have h' := ((show okP (X1 - X0) (Y1 - Y0) from (hok.part (by omega) (by omega) (by omega) (by omega)))).2.2.2.2; omega) (by first | decide | omega) (by first | rfl | omega) (by first | rfl | omega) hq56.1 hq56.2 (hw.pick (idx := [6, 5, 4, 3, 0, 1, 2, 7, 8, 9, 10, 11, 12, 13, 14, 15, 16, 17, 18, 19, 20, 21, 22, 23, 24]) (by decide) rfl))) (fun xq67 hq68 => ?_)
  refine GL.nil ?_
  refine GE.thenN ?_
  refine GC.seq ?_
  refine GC.pick (idx := [0, 1, 2, 3, 4, 6, 7, 8, 9, 10, 13, 14, 15, 16, 17, 18, 19, 20, 21, 22, 23, 24]) (by decide) rfl ?_
  refine GC.region ?_
  refine GL.val (v := (.agg #[(.int .i64 (((W : Nat) : Int))), (.int .i64 (((H : Nat) : Int))), (.slice (some ⟨j.1.2.2.2, 0, none⟩) n (n + 5))])) (Ex.loadA rfl T.ag32 T.sz32 (i := 17) rfl (vs := [(.int .i64 (((W : Nat) : Int))), (.int .i64 (((H : Nat) : Int))), (.slice (some ⟨j.1.2.2.2, 0, none⟩) n (n + 5))]) rfl rfl) (by decide) ?_
  refine GL.val (v := (.agg #[(.int .i64 W2), (.int .i64 H2), (.slice (some ⟨j.2.1.2.2.2, 0, none⟩) m (m + 5))])) (Ex.loadA rfl T.ag32 T.sz32 (i := 18) rfl (vs := [(.int .i64 W2), (.int .i64 H2), (.slice (some ⟨j.2.1.2.2.2, 0, none⟩) m (m + 5))]) rfl rfl) (by decide) ?_
  refine GL.val (Ex.move rfl) (by decide) ?_
  refine GL.val (Ex.move rfl) (by decide) ?_
  refine GL.step (Stp.callR (vs := [(.agg #[(.int .i64 (((W : Nat) : Int))), (.int .i64 (((H : Nat) : Int))), (.slice (some ⟨j.1.2.2.2, 0, none⟩) n (n + 5))]), (.agg #[(.int .i64 W2), (.int .i64 H2), (.slice (some ⟨j.2.1.2.2.2, 0, none⟩) m (m + 5))]), (.int .i64 x), (.int .i64 y)]) rfl rfl T.own25 (by decide) (fun wc hw => paste_inv2 (((W : Nat) : Int)) (((H : Nat) : Int)) (some ⟨j.1.2.2.2, 0, none⟩) n (n + 5) W2 H2 (some ⟨j.2.1.2.2.2, 0, none⟩) m (m + 5) x y wc hc0 hc2)) (fun xq69 hq70 => ?_)
  refine GL.val (Ex.move rfl) (by decide) ?_
  refine GL.val (Ex.extract rfl rfl) (by decide) ?_
  refine GL.val (Ex.extract rfl rfl) (by decide) ?_
  refine GL.step (Stp.st5 (cs' := [(.int .i64 0), (.int .i64 0), (.slice none 0 0)]) rfl rfl rfl T.sz32 rfl rfl rfl) (fun _ _ => ?_)
  refine GL.val (Ex.assign rfl) (by decide) ?_
  refine GL.nil ?_
  refine GE.thenN ?_
  refine GC.seq ?_
  refine GC.region ?_
  refine GL.val (v := (.agg #[(.int .i64 (((W : Nat) : Int))), (.int .i64 (((H : Nat) : Int))), (.slice (some ⟨b, o, none⟩) n cap)])) (Ex.loadA rfl T.ag32 T.sz32 (i := 21) rfl (vs := [(.int .i64 (((W : Nat) : Int))), (.int .i64 (((H : Nat) : Int))), (.slice (some ⟨b, o, none⟩) n cap)]) rfl rfl) (by decide) ?_
  refine GL.val (v := (.agg #[(.int .i64 W2), (.int .i64 H2), (.slice ad2 m cap2)])) (Ex.loadA rfl T.ag32 T.sz32 (i := 20) rfl (vs := [(.int .i64 W2), (.int .i64 H2), (.slice ad2 m cap2)]) rfl rfl) (by decide) ?_
  refine GL.val (Ex.move rfl) (by decide) ?_
  refine GL.val (Ex.move rfl) (by decide) ?_
  refine GL.step (Stp.callR (vs := [(.agg #[(.int .i64 (((W : Nat) : Int))), (.int .i64 (((H : Nat) : Int))), (.slice (some ⟨b, o, none⟩) n cap)]), (.agg #[(.int .i64 W2), (.int .i64 H2), (.slice ad2 m cap2)]), (.int .i64 x), (.int .i64 y)]) rfl rfl T.own28 (by decide) (fun wc hw => ref_paste_inv2 (((W : Nat) : Int)) (((H : Nat) : Int)) (some ⟨b, o, none⟩) n cap W2 H2 ad2 m cap2 x y wc hc0 hc2)) (fun xq71 hq72 => ?_)
  refine GL.val (Ex.move rfl) (by decide) ?_
  refine GL.val (Ex.extract rfl rfl) (by decide) ?_
  refine GL.val (Ex.extract rfl rfl) (by decide) ?_
  refine GL.step (Stp.st4 (cs' := [(.int .i64 0), (.int .i64 0), (.slice none 0 0)]) rfl rfl rfl T.sz32 rfl rfl rfl) (fun _ _ => ?_)
  refine GL.val (Ex.assign rfl) (by decide) ?_
  refine GL.nil ?_
  refine GE.thenN ?_
  refine GC.seq ?_
  refine GC.seq ?_
  refine GC.region ?_
  refine GL.val (v := (.agg #[(.int .i64 0), (.int .i64 0), (.slice none 0 0)])) (Ex.loadA rfl T.ag32 T.sz32 (i := 5) rfl (vs := [(.int .i64 0), (.int .i64 0), (.slice none 0 0)]) rfl rfl) (by decide) ?_
  refine GL.val (Ex.move rfl) (by decide) ?_
  refine GL.val (v := (.agg #[(.int .i64 0), (.int .i64 0), (.slice none 0 0)])) (Ex.loadA rfl T.ag32 T.sz32 (i := 4) rfl (vs := [(.int .i64 0), (.int .i64 0), (.slice none 0 0)]) rfl rfl) (by decide) ?_
  refine GL.val (Ex.move rfl) (by decide) ?_
  refine GL.step (Stp.callR (vs := [(.agg #[(.int .i64 0), (.int .i64 0), (.slice none 0 0)]), (.int .i64 ((chk W2 H2 m))), (.agg #[(.int .i64 0), (.int .i64 0), (.slice none 0 0)]), (.int .i64 ((chk W2 H2 m)))]) rfl rfl T.own20 (by decide) (fun wc hw => same_ 0 0 none 0 0 0 0 none 0 0 ((chk W2 H2 m)) ([]) ([]) wc (by decide) (LsR.nil _ _) (LsR.nil _ _) (by first | rfl | omega) (by first | rfl | omega) (by first | rfl | (simp only [Nat.add_zero])))) (fun xq73 hq74 => ?_)
  refine GL.val (v := (.bool false)) (Ex.cast (Ex.not rfl) rfl) (by decide) ?_
  refine GL.nil ?_
  refine GE.thenN ?_
  refine GC.cond rfl (fun hq75 => by cases hq75) (fun _ => ?_)
  refine GC.skip ?_
  refine GE.thenN ?_
  refine GC.seq ?_
  refine GC.region ?_
  refine GL.val (Ex.move rfl) (by decide) ?_
  refine GL.val (v := (.agg #[(.int .i64 0), (.int .i64 0), (.slice none 0 0)])) (Ex.loadA rfl T.ag32 T.sz32 (i := 5) rfl (vs := [(.int .i64 0), (.int .i64 0), (.slice none 0 0)]) rfl rfl) (by decide) ?_
  refine GL.val (Ex.move rfl) (by decide) ?_
  refine GL.val (v := (.int .i64 101)) (Ex.add rfl rfl (Z := 101) (by decide)) (by decide) ?_
  refine GL.step (Stp.call (vs := [(.pointer (some ⟨bq7, 0, none⟩)), (.agg #[(.int .i64 0), (.int .i64 0), (.slice none 0 0)]), (.int .i64 101)]) rfl rfl T.own21 (by decide) (fun wc hw => book_p10 w _ 0 0 bq7 101 6 xq67.2.1 xq67.2.2.1 xq67.1.1 xq67.1.2.1 (((((([(Value.slice (some ⟨xq10, 0, none⟩) ((X1 - X0) * (Y1 - Y0)) ((X1 - X0) * (Y1 - Y0)))]) ++ [(Value.slice none 0 0)]) ++ [(Value.slice (some ⟨xq30, 0, none⟩) (W * H) (W * H))]) ++ [(Value.slice (some ⟨xq39, 0, none⟩) (H * W) (H * W))]) ++ [(Value.slice (some ⟨xq48, 0, none⟩) ((tW ((rst (IntKind.i64.wrap (q1 + 0)) 4).toNat) W H) * (tH ((rst (IntKind.i64.wrap (q1 + 0)) 4).toNat) W H)) ((tW ((rst (IntKind.i64.wrap (q1 + 0)) 4).toNat) W H) * (tH ((rst (IntKind.i64.wrap (q1 + 0)) 4).toNat) W H)))]) ++ [(Value.slice (some ⟨xq58, 0, none⟩) ((X1 - X0) * (Y1 - Y0)) ((X1 - X0) * (Y1 - Y0)))]) xq67.2.2.2 (((((([(Value.int .i64 0)]) ++ [(Value.int .i64 1)]) ++ [(Value.int .i64 2)]) ++ [(Value.int .i64 3)]) ++ [(Value.int .i64 4)]) ++ [(Value.int .i64 100)]) xq67.1.2.2 wc (by first | decide | omega) (by first | rfl | omega) (by first | rfl | omega) hq68.1 hq68.2 (hw.pick (idx := [2, 1, 0, 3, 4, 5, 6, 7, 8, 9, 10, 11, 12, 13, 14, 15, 16, 17, 18, 19, 20, 21]) (by decide) rfl))) (fun xq76 hq77 => ?_)
  refine GL.nil ?_
  refine GE.thenN ?_
  refine GC.seq ?_
  refine GC.region ?_
  refine GL.val (v := (.agg #[(.int .i64 (((W : Nat) : Int))), (.int .i64 (((H : Nat) : Int))), (.slice (some ⟨j.1.2.2.2, 0, none⟩) n (n + 5))])) (Ex.loadA rfl T.ag32 T.sz32 (i := 17) rfl (vs := [(.int .i64 (((W : Nat) : Int))), (.int .i64 (((H : Nat) : Int))), (.slice (some ⟨j.1.2.2.2, 0, none⟩) n (n + 5))]) rfl rfl) (by decide) ?_
  refine GL.val (Ex.move rfl) (by decide) ?_
  refine GL.val (v := (.bool false)) (Ex.cast (Ex.eql rfl rfl) rfl) (by decide) ?_
  refine GL.step (Stp.callR (vs := [(.agg #[(.int .i64 (((W : Nat) : Int))), (.int .i64 (((H : Nat) : Int))), (.slice (some ⟨j.1.2.2.2, 0, none⟩) n (n + 5))]), (.bool false)]) rfl rfl T.own29 (by decide) (fun wc hw => flipF W H n (n + 5) j.1.2.2.2 0 xs wc hok hn hx (Rd.lent (hw.rdOf (i := 16) rfl 0)) )) (fun xq78 hq79 => ?_)
  refine GL.val (Ex.move rfl) (by decide) ?_
  refine GL.val (Ex.extract rfl rfl) (by decide) ?_
  refine GL.val (Ex.extract rfl rfl) (by decide) ?_
  refine GL.step (Stp.st6 (cs' := [(.int .i64 (((W : Nat) : Int))), (.int .i64 (((H : Nat) : Int))), (.slice (some ⟨xq78, 0, none⟩) (W * H) (W * H))]) rfl rfl rfl T.sz32 rfl rfl rfl) (fun _ _ => ?_)
  refine GL.val (Ex.assign rfl) (by decide) ?_
  refine GL.nil ?_
  refine GE.thenN ?_
  refine GC.seq ?_
  refine GC.region ?_
  refine GL.val (v := (.agg #[(.int .i64 (((W : Nat) : Int))), (.int .i64 (((H : Nat) : Int))), (.slice (some ⟨b, o, none⟩) n cap)])) (Ex.loadA rfl T.ag32 T.sz32 (i := 22) rfl (vs := [(.int .i64 (((W : Nat) : Int))), (.int .i64 (((H : Nat) : Int))), (.slice (some ⟨b, o, none⟩) n cap)]) rfl rfl) (by decide) ?_
  refine GL.val (Ex.move rfl) (by decide) ?_
  refine GL.val (v := (.bool false)) (Ex.cast (Ex.eql rfl rfl) rfl) (by decide) ?_
  refine GL.step (Stp.callR (vs := [(.agg #[(.int .i64 (((W : Nat) : Int))), (.int .i64 (((H : Nat) : Int))), (.slice (some ⟨b, o, none⟩) n cap)]), (.bool false)]) rfl rfl T.own30 (by decide) (fun wc hw => ref_flipF W H n cap b o xs wc hok hn hx (hw.rd hr (fun x => x)) )) (fun xq80 hq81 => ?_)
  refine GL.val (Ex.move rfl) (by decide) ?_
  refine GL.val (Ex.extract rfl rfl) (by decide) ?_
  refine GL.val (Ex.extract rfl rfl) (by decide) ?_
  refine GL.step (Stp.st6 (cs' := [(.int .i64 (((W : Nat) : Int))), (.int .i64 (((H : Nat) : Int))), (.slice (some ⟨xq80, 0, none⟩) (W * H) (W * H))]) rfl rfl rfl T.sz32 rfl rfl rfl) (fun _ _ => ?_)
  refine GL.val (Ex.assign rfl) (by decide) ?_
  refine GL.nil ?_
  refine GE.thenN ?_
  refine GC.seq ?_
  refine GC.seq ?_
  refine GC.region ?_
  refine GL.val (v := (.agg #[(.int .i64 (((W : Nat) : Int))), (.int .i64 (((H : Nat) : Int))), (.slice (some ⟨xq78, 0, none⟩) (W * H) (W * H))])) (Ex.loadA rfl T.ag32 T.sz32 (i := 7) rfl (vs := [(.int .i64 (((W : Nat) : Int))), (.int .i64 (((H : Nat) : Int))), (.slice (some ⟨xq78, 0, none⟩) (W * H) (W * H))]) rfl rfl) (by decide) ?_
  refine GL.val (Ex.move rfl) (by decide) ?_
  refine GL.val (v := (.agg #[(.int .i64 (((W : Nat) : Int))), (.int .i64 (((H : Nat) : Int))), (.slice (some ⟨xq80, 0, none⟩) (W * H) (W * H))])) (Ex.loadA rfl T.ag32 T.sz32 (i := 6) rfl (vs := [(.int .i64 (((W : Nat) : Int))), (.int .i64 (((H : Nat) : Int))), (.slice (some ⟨xq80, 0, none⟩) (W * H) (W * H))]) rfl rfl) (by decide) ?_
  refine GL.val (Ex.move rfl) (by decide) ?_
  refine GL.step (Stp.callR (vs := [(.agg #[(.int .i64 (((W : Nat) : Int))), (.int .i64 (((H : Nat) : Int))), (.slice (some ⟨xq78, 0, none⟩) (W * H) (W * H))]), (.int .i64 0), (.agg #[(.int .i64 (((W : Nat) : Int))), (.int .i64 (((H : Nat) : Int))), (.slice (some ⟨xq80, 0, none⟩) (W * H) (W * H))]), (.int .i64 0)]) rfl rfl T.own20 (by decide) (fun wc hw => same_ (((W : Nat) : Int)) (((H : Nat) : Int)) (some ⟨xq78, 0, none⟩) (W * H) (W * H) (((W : Nat) : Int)) (((H : Nat) : Int)) (some ⟨xq80, 0, none⟩) (W * H) (W * H) 0 (flF xs W H) (flF xs W H) wc (by have h' := ((show okP W H from hok)).2.2.2.2; omega) (LsR.blk flF_len (hw.rdOf (i := 1) rfl 0)) (LsR.blk flF_len (hw.rdOf (i := 0) rfl 0)) (by first | rfl | omega) (by first | rfl | omega) (by first | rfl | (simp only [Nat.add_zero])))) (fun xq82 hq83 => ?_)
  refine GL.val (v := (.bool false)) (Ex.cast (Ex.not rfl) rfl) (by decide) ?_
  refine GL.nil ?_
  refine GE.thenN ?_
  refine GC.cond rfl (fun hq84 => by cases hq84) (fun _ => ?_)
  refine GC.skip ?_
  refine GE.thenN ?_
  refine GC.seq ?_
  refine GC.region ?_
  refine GL.val (Ex.move rfl) (by decide) ?_
  refine GL.val (v := (.agg #[(.int .i64 (((W : Nat) : Int))), (.int .i64 (((H : Nat) : Int))), (.slice (some ⟨xq78, 0, none⟩) (W * H) (W * H))])) (Ex.loadA rfl T.ag32 T.sz32 (i := 7) rfl (vs := [(.int .i64 (((W : Nat) : Int))), (.int .i64 (((H : Nat) : Int))), (.slice (some ⟨xq78, 0, none⟩) (W * H) (W * H))]) rfl rfl) (by decide) ?_
  refine GL.val (Ex.move rfl) (by decide) ?_
  refine GL.val (v := (.int .i64 102)) (Ex.add rfl rfl (Z := 102) (by decide)) (by decide) ?_
  refine GL.step (Stp.call (vs := [(.pointer (some ⟨bq7, 0, none⟩)), (.agg #[(.int .i64 (((W : Nat) : Int))), (.int .i64 (((H : Nat) : Int))), (.slice (some ⟨xq78, 0, none⟩) (W * H) (W * H))]), (.int .i64 102)]) rfl rfl T.own21 (by decide) (fun wc hw => book_p11 w _ (((W : Nat) : Int)) (((H : Nat) : Int)) bq7 102 xq78 (W * H) (W * H) ((flF xs W H).map u32) 7 xq76.2.1 xq76.2.2.1 xq76.1.1 xq76.1.2.1 ((((((([(Value.slice (some ⟨xq10, 0, none⟩) ((X1 - X0) * (Y1 - Y0)) ((X1 - X0) * (Y1 - Y0)))]) ++ [(Value.slice none 0 0)]) ++ [(Value.slice (some ⟨xq30, 0, none⟩) (W * H) (W * H))]) ++ [(Value.slice (some ⟨xq39, 0, none⟩) (H * W) (H * W))]) ++ [(Value.slice (some ⟨xq48, 0, none⟩) ((tW ((rst (IntKind.i64.wrap (q1 + 0)) 4).toNat) W H) * (tH ((rst (IntKind.i64.wrap (q1 + 0)) 4).toNat) W H)) ((tW ((rst (IntKind.i64.wrap (q1 + 0)) 4).toNat) W H) * (tH ((rst (IntKind.i64.wrap (q1 + 0)) 4).toNat) W H)))]) ++ [(Value.slice (some ⟨xq58, 0, none⟩) ((X1 - X0) * (Y1 - Y0)) ((X1 - X0) * (Y1 - Y0)))]) ++ [(Value.slice none 0 0)]) xq76.2.2.2 ((((((([(Value.int .i64 0)]) ++ [(Value.int .i64 1)]) ++ [(Value.int .i64 2)]) ++ [(Value.int .i64 3)]) ++ [(Value.int .i64 4)]) ++ [(Value.int .i64 100)]) ++ [(Value.int .i64 101)]) xq76.1.2.2 wc (by rw [List.length_map]; exact flF_len) (by have h' := ((show okP W H from hok)).2.2.2.2; omega) (by first | decide | omega) (by first | rfl | omega) (by first | rfl | omega) hq77.1 hq77.2 (hw.pick (idx := [4, 3, 2, 1, 0, 5, 6, 7, 8, 9, 10, 11, 12, 13, 14, 15, 16, 17, 18, 19, 20, 21, 22, 23]) (by decide) rfl))) (fun xq85 hq86 => ?_)
  refine GL.nil ?_
  refine GE.thenN ?_
  refine GC.seq ?_
  refine GC.pick (idx := [0, 1, 2, 3, 5, 6, 7, 8, 9, 10, 11, 12, 13, 14, 15, 16, 17, 18, 19, 20, 21, 22, 23]) (by decide) rfl ?_
  refine GC.region ?_
  refine GL.val (v := (.agg #[(.int .i64 (((W : Nat) : Int))), (.int .i64 (((H : Nat) : Int))), (.slice (some ⟨j.1.2.2.2, 0, none⟩) n (n + 5))])) (Ex.loadA rfl T.ag32 T.sz32 (i := 18) rfl (vs := [(.int .i64 (((W : Nat) : Int))), (.int .i64 (((H : Nat) : Int))), (.slice (some ⟨j.1.2.2.2, 0, none⟩) n (n + 5))]) rfl rfl) (by decide) ?_
  refine GL.step (Stp.callR (vs := [(.agg #[(.int .i64 (((W : Nat) : Int))), (.int .i64 (((H : Nat) : Int))), (.slice (some ⟨j.1.2.2.2, 0, none⟩) n (n + 5))])]) rfl rfl T.own31 (by decide) (fun wc hw => transp W H n (n + 5) j.1.2.2.2 0 xs wc hok hn hx (Rd.lent (hw.rdOf (i := 17) rfl 0)) )) (fun xq87 hq88 => ?_)
  refine GL.val (Ex.move rfl) (by decide) ?_
  refine GL.val (Ex.extract rfl rfl) (by decide) ?_
  refine GL.val (Ex.extract rfl rfl) (by decide) ?_
  refine GL.step (Stp.st7 (cs' := [(.int .i64 (((H : Nat) : Int))), (.int .i64 (((W : Nat) : Int))), (.slice (some ⟨xq87, 0, none⟩) (H * W) (H * W))]) rfl rfl rfl T.sz32 rfl rfl rfl) (fun _ _ => ?_)
  refine GL.val (Ex.assign rfl) (by decide) ?_
  refine GL.nil ?_
  refine GE.thenN ?_
  refine GC.seq ?_
  refine GC.region ?_
  refine GL.val (v := (.agg #[(.int .i64 (((W : Nat) : Int))), (.int .i64 (((H : Nat) : Int))), (.slice (some ⟨b, o, none⟩) n cap)])) (Ex.loadA rfl T.ag32 T.sz32 (i := 23) rfl (vs := [(.int .i64 (((W : Nat) : Int))), (.int .i64 (((H : Nat) : Int))), (.slice (some ⟨b, o, none⟩) n cap)]) rfl rfl) (by decide) ?_
  refine GL.step (Stp.callR (vs := [(.agg #[(.int .i64 (((W : Nat) : Int))), (.int .i64 (((H : Nat) : Int))), (.slice (some ⟨b, o, none⟩) n cap)])]) rfl rfl T.own32 (by decide) (fun wc hw => ref_transp W H n cap b o xs wc hok hn hx (hw.rd hr (fun x => x)) )) (fun xq89 hq90 => ?_)
  refine GL.val (Ex.move rfl) (by decide) ?_
  refine GL.val (Ex.extract rfl rfl) (by decide) ?_
  refine GL.val (Ex.extract rfl rfl) (by decide) ?_
  refine GL.step (Stp.st7 (cs' := [(.int .i64 (((H : Nat) : Int))), (.int .i64 (((W : Nat) : Int))), (.slice (some ⟨xq89, 0, none⟩) (H * W) (H * W))]) rfl rfl rfl T.sz32 rfl rfl rfl) (fun _ _ => ?_)
  refine GL.val (Ex.assign rfl) (by decide) ?_
  refine GL.nil ?_
  refine GE.thenN ?_
  refine GC.seq ?_
  refine GC.seq ?_
  refine GC.region ?_
  refine GL.val (v := (.agg #[(.int .i64 (((H : Nat) : Int))), (.int .i64 (((W : Nat) : Int))), (.slice (some ⟨xq87, 0, none⟩) (H * W) (H * W))])) (Ex.loadA rfl T.ag32 T.sz32 (i := 8) rfl (vs := [(.int .i64 (((H : Nat) : Int))), (.int .i64 (((W : Nat) : Int))), (.slice (some ⟨xq87, 0, none⟩) (H * W) (H * W))]) rfl rfl) (by decide) ?_
  refine GL.val (Ex.move rfl) (by decide) ?_
  refine GL.val (v := (.agg #[(.int .i64 (((H : Nat) : Int))), (.int .i64 (((W : Nat) : Int))), (.slice (some ⟨xq89, 0, none⟩) (H * W) (H * W))])) (Ex.loadA rfl T.ag32 T.sz32 (i := 7) rfl (vs := [(.int .i64 (((H : Nat) : Int))), (.int .i64 (((W : Nat) : Int))), (.slice (some ⟨xq89, 0, none⟩) (H * W) (H * W))]) rfl rfl) (by decide) ?_
  refine GL.val (Ex.move rfl) (by decide) ?_
  refine GL.step (Stp.callR (vs := [(.agg #[(.int .i64 (((H : Nat) : Int))), (.int .i64 (((W : Nat) : Int))), (.slice (some ⟨xq87, 0, none⟩) (H * W) (H * W))]), (.int .i64 0), (.agg #[(.int .i64 (((H : Nat) : Int))), (.int .i64 (((W : Nat) : Int))), (.slice (some ⟨xq89, 0, none⟩) (H * W) (H * W))]), (.int .i64 0)]) rfl rfl T.own20 (by decide) (fun wc hw => same_ (((H : Nat) : Int)) (((W : Nat) : Int)) (some ⟨xq87, 0, none⟩) (H * W) (H * W) (((H : Nat) : Int)) (((W : Nat) : Int)) (some ⟨xq89, 0, none⟩) (H * W) (H * W) 0 (trp xs W H) (trp xs W H) wc (by have h' := ((show okP H W from hok.swap)).2.2.2.2; omega) (LsR.blk trp_len (hw.rdOf (i := 1) rfl 0)) (LsR.blk trp_len (hw.rdOf (i := 0) rfl 0)) (by first | rfl | omega) (by first | rfl | omega) (by first | rfl | (simp only [Nat.add_zero])))) (fun xq91 hq92 => ?_)
  refine GL.val (v := (.bool false)) (Ex.cast (Ex.not rfl) rfl) (by decide) ?_
  refine GL.nil ?_
  refine GE.thenN ?_
  refine GC.cond rfl (fun hq93 => by cases hq93) (fun _ => ?_)
  refine GC.skip ?_
  refine GE.thenN ?_
  refine GC.seq ?_
  refine GC.region ?_
  refine GL.val (Ex.move rfl) (by decide) ?_
  refine GL.val (v := (.agg #[(.int .i64 (((H : Nat) : Int))), (.int .i64 (((W : Nat) : Int))), (.slice (some ⟨xq87, 0, none⟩) (H * W) (H * W))])) (Ex.loadA rfl T.ag32 T.sz32 (i := 8) rfl (vs := [(.int .i64 (((H : Nat) : Int))), (.int .i64 (((W : Nat) : Int))), (.slice (some ⟨xq87, 0, none⟩) (H * W) (H * W))]) rfl rfl) (by decide) ?_
  refine GL.val (Ex.move rfl) (by decide) ?_
  refine GL.val (v := (.int .i64 103)) (Ex.add rfl rfl (Z := 103) (by decide)) (by decide) ?_
  refine GL.step (Stp.call (vs := [(.pointer (some ⟨bq7, 0, none⟩)), (.agg #[(.int .i64 (((H : Nat) : Int))), (.int .i64 (((W : Nat) : Int))), (.slice (some ⟨xq87, 0, none⟩) (H * W) (H * W))]), (.int .i64 103)]) rfl rfl T.own21 (by decide) (fun wc hw => book_p11 w _ (((H : Nat) : Int)) (((W : Nat) : Int)) bq7 103 xq87 (H * W) (H * W) ((trp xs W H).map u32) 8 xq85.2.1 xq85.2.2.1 xq85.1.1 xq85.1.2.1 (((((((([(Value.slice (some ⟨xq10, 0, none⟩) ((X1 - X0) * (Y1 - Y0)) ((X1 - X0) * (Y1 - Y0)))]) ++ [(Value.slice none 0 0)]) ++ [(Value.slice (some ⟨xq30, 0, none⟩) (W * H) (W * H))]) ++ [(Value.slice (some ⟨xq39, 0, none⟩) (H * W) (H * W))]) ++ [(Value.slice (some ⟨xq48, 0, none⟩) ((tW ((rst (IntKind.i64.wrap (q1 + 0)) 4).toNat) W H) * (tH ((rst (IntKind.i64.wrap (q1 + 0)) 4).toNat) W H)) ((tW ((rst (IntKind.i64.wrap (q1 + 0)) 4).toNat) W H) * (tH ((rst (IntKind.i64.wrap (q1 + 0)) 4).toNat) W H)))]) ++ [(Value.slice (some ⟨xq58, 0, none⟩) ((X1 - X0) * (Y1 - Y0)) ((X1 - X0) * (Y1 - Y0)))]) ++ [(Value.slice none 0 0)]) ++ [(Value.slice (some ⟨xq78, 0, none⟩) (W * H) (W * H))]) xq85.2.2.2 (((((((([(Value.int .i64 0)]) ++ [(Value.int .i64 1)]) ++ [(Value.int .i64 2)]) ++ [(Value.int .i64 3)]) ++ [(Value.int .i64 4)]) ++ [(Value.int .i64 100)]) ++ [(Value.int .i64 101)]) ++ [(Value.int .i64 102)]) xq85.1.2.2 wc (by rw [List.length_map]; exact trp_len) (by have h' := ((show okP H W from hok.swap)).2.2.2.2; omega) (by first | decide | omega) (by first | rfl | omega) (by first | rfl | omega) hq86.1 hq86.2 (hw.pick (idx := [4, 3, 2, 1, 0, 5, 6, 7, 8, 9, 10, 11, 12, 13, 14, 15, 16, 17, 18, 19, 20, 21, 22, 23, 24]) (by decide) rfl))) (fun xq94 hq95 => ?_)
  refine GL.nil ?_
  refine GE.thenN ?_
  refine GC.seq ?_
  refine GC.pick (idx := [0, 1, 2, 3, 5, 6, 7, 8, 9, 10, 11, 12, 13, 14, 15, 16, 17, 18, 19, 20, 21, 22, 23, 24]) (by decide) rfl ?_
  refine GC.region ?_
  refine GL.val (v := (.agg #[(.int .i64 (((W : Nat) : Int))), (.int .i64 (((H : Nat) : Int))), (.slice (some ⟨j.1.2.2.2, 0, none⟩) n (n + 5))])) (Ex.loadA rfl T.ag32 T.sz32 (i := 19) rfl (vs := [(.int .i64 (((W : Nat) : Int))), (.int .i64 (((H : Nat) : Int))), (.slice (some ⟨j.1.2.2.2, 0, none⟩) n (n + 5))]) rfl rfl) (by decide) ?_
  refine GL.val (Ex.move rfl) (by decide) ?_
  refine GL.val (Ex.move rfl) (by decide) ?_
  refine GL.val (v := (.int .i64 (IntKind.i64.wrap (q1 + 1)))) (Ex.add rfl rfl (Z := IntKind.i64.wrap (q1 + 1)) rfl) (by decide) ?_
  refine GL.step (Stp.callR (vs := [(.agg #[(.int .i64 (((W : Nat) : Int))), (.int .i64 (((H : Nat) : Int))), (.slice (some ⟨j.1.2.2.2, 0, none⟩) n (n + 5))]), (.int .i64 (IntKind.i64.wrap (q1 + 1)))]) rfl rfl T.own33 (by decide) (fun wc hw => turn_any W H n (n + 5) j.1.2.2.2 0 xs (IntKind.i64.wrap (q1 + 1)) ((rst (IntKind.i64.wrap (q1 + 1)) 4).toNat) wc hok hn hx (Rd.lent (hw.rdOf (i := 18) rfl 0)) (rst4 (IntKind.i64.wrap (q1 + 1))).2 (rst4 (IntKind.i64.wrap (q1 + 1))).1)) (fun xq96 hq97 => ?_)
  refine GL.val (Ex.move rfl) (by decide) ?_
  refine GL.val (Ex.extract rfl rfl) (by decide) ?_
  refine GL.val (Ex.extract rfl rfl) (by decide) ?_
  refine GL.step (Stp.st8 (cs' := [(.int .i64 (((tW ((rst (IntKind.i64.wrap (q1 + 1)) 4).toNat) W H : Nat) : Int))), (.int .i64 (((tH ((rst (IntKind.i64.wrap (q1 + 1)) 4).toNat) W H : Nat) : Int))), (.slice (some ⟨xq96, 0, none⟩) ((tW ((rst (IntKind.i64.wrap (q1 + 1)) 4).toNat) W H) * (tH ((rst (IntKind.i64.wrap (q1 + 1)) 4).toNat) W H)) ((tW ((rst (IntKind.i64.wrap (q1 + 1)) 4).toNat) W H) * (tH ((rst (IntKind.i64.wrap (q1 + 1)) 4).toNat) W H)))]) rfl rfl rfl T.sz32 rfl rfl rfl) (fun _ _ => ?_)
  refine GL.val (Ex.assign rfl) (by decide) ?_
  refine GL.nil ?_
  refine GE.thenN ?_
  refine GC.seq ?_
  refine GC.region ?_
  refine GL.val (v := (.agg #[(.int .i64 (((W : Nat) : Int))), (.int .i64 (((H : Nat) : Int))), (.slice (some ⟨b, o, none⟩) n cap)])) (Ex.loadA rfl T.ag32 T.sz32 (i := 24) rfl (vs := [(.int .i64 (((W : Nat) : Int))), (.int .i64 (((H : Nat) : Int))), (.slice (some ⟨b, o, none⟩) n cap)]) rfl rfl) (by decide) ?_
  refine GL.val (Ex.move rfl) (by decide) ?_
  refine GL.val (Ex.move rfl) (by decide) ?_
  refine GL.val (v := (.int .i64 (IntKind.i64.wrap (q1 + 1)))) (Ex.add rfl rfl (Z := IntKind.i64.wrap (q1 + 1)) rfl) (by decide) ?_
  refine GL.step (Stp.callR (vs := [(.agg #[(.int .i64 (((W : Nat) : Int))), (.int .i64 (((H : Nat) : Int))), (.slice (some ⟨b, o, none⟩) n cap)]), (.int .i64 (IntKind.i64.wrap (q1 + 1)))]) rfl rfl T.own34 (by decide) (fun wc hw => ref_turn W H n cap b o xs (IntKind.i64.wrap (q1 + 1)) ((rst (IntKind.i64.wrap (q1 + 1)) 4).toNat) wc hok hn hx (hw.rd hr (fun x => x)) (rst4 (IntKind.i64.wrap (q1 + 1))).2 (rst4 (IntKind.i64.wrap (q1 + 1))).1)) (fun xq98 hq99 => ?_)
  refine GL.val (Ex.move rfl) (by decide) ?_
  refine GL.val (Ex.extract rfl rfl) (by decide) ?_
  refine GL.val (Ex.extract rfl rfl) (by decide) ?_
  refine GL.step (Stp.st8 (cs' := [(.int .i64 (((tW ((rst (IntKind.i64.wrap (q1 + 1)) 4).toNat) W H : Nat) : Int))), (.int .i64 (((tH ((rst (IntKind.i64.wrap (q1 + 1)) 4).toNat) W H : Nat) : Int))), (.slice (some ⟨xq98, 0, none⟩) ((tW ((rst (IntKind.i64.wrap (q1 + 1)) 4).toNat) W H) * (tH ((rst (IntKind.i64.wrap (q1 + 1)) 4).toNat) W H)) ((tW ((rst (IntKind.i64.wrap (q1 + 1)) 4).toNat) W H) * (tH ((rst (IntKind.i64.wrap (q1 + 1)) 4).toNat) W H)))]) rfl rfl rfl T.sz32 rfl rfl rfl) (fun _ _ => ?_)
  refine GL.val (Ex.assign rfl) (by decide) ?_
  refine GL.nil ?_
  refine GE.thenN ?_
  refine GC.seq ?_
  refine GC.seq ?_
  refine GC.region ?_
  refine GL.val (v := (.agg #[(.int .i64 (((tW ((rst (IntKind.i64.wrap (q1 + 1)) 4).toNat) W H : Nat) : Int))), (.int .i64 (((tH ((rst (IntKind.i64.wrap (q1 + 1)) 4).toNat) W H : Nat) : Int))), (.slice (some ⟨xq96, 0, none⟩) ((tW ((rst (IntKind.i64.wrap (q1 + 1)) 4).toNat) W H) * (tH ((rst (IntKind.i64.wrap (q1 + 1)) 4).toNat) W H)) ((tW ((rst (IntKind.i64.wrap (q1 + 1)) 4).toNat) W H) * (tH ((rst (IntKind.i64.wrap (q1 + 1)) 4).toNat) W H)))])) (Ex.loadA rfl T.ag32 T.sz32 (i := 9) rfl (vs := [(.int .i64 (((tW ((rst (IntKind.i64.wrap (q1 + 1)) 4).toNat) W H : Nat) : Int))), (.int .i64 (((tH ((rst (IntKind.i64.wrap (q1 + 1)) 4).toNat) W H : Nat) : Int))), (.slice (some ⟨xq96, 0, none⟩) ((tW ((rst (IntKind.i64.wrap (q1 + 1)) 4).toNat) W H) * (tH ((rst (IntKind.i64.wrap (q1 + 1)) 4).toNat) W H)) ((tW ((rst (IntKind.i64.wrap (q1 + 1)) 4).toNat) W H) * (tH ((rst (IntKind.i64.wrap (q1 + 1)) 4).toNat) W H)))]) rfl rfl) (by decide) ?_
  refine GL.val (Ex.move rfl) (by decide) ?_
  refine GL.val (v := (.agg #[(.int .i64 (((tW ((rst (IntKind.i64.wrap (q1 + 1)) 4).toNat) W H : Nat) : Int))), (.int .i64 (((tH ((rst (IntKind.i64.wrap (q1 + 1)) 4).toNat) W H : Nat) : Int))), (.slice (some ⟨xq98, 0, none⟩) ((tW ((rst (IntKind.i64.wrap (q1 + 1)) 4).toNat) W H) * (tH ((rst (IntKind.i64.wrap (q1 + 1)) 4).toNat) W H)) ((tW ((rst (IntKind.i64.wrap (q1 + 1)) 4).toNat) W H) * (tH ((rst (IntKind.i64.wrap (q1 + 1)) 4).toNat) W H)))])) (Ex.loadA rfl T.ag32 T.sz32 (i := 8) rfl (vs := [(.int .i64 (((tW ((rst (IntKind.i64.wrap (q1 + 1)) 4).toNat) W H : Nat) : Int))), (.int .i64 (((tH ((rst (IntKind.i64.wrap (q1 + 1)) 4).toNat) W H : Nat) : Int))), (.slice (some ⟨xq98, 0, none⟩) ((tW ((rst (IntKind.i64.wrap (q1 + 1)) 4).toNat) W H) * (tH ((rst (IntKind.i64.wrap (q1 + 1)) 4).toNat) W H)) ((tW ((rst (IntKind.i64.wrap (q1 + 1)) 4).toNat) W H) * (tH ((rst (IntKind.i64.wrap (q1 + 1)) 4).toNat) W H)))]) rfl rfl) (by decide) ?_
  refine GL.val (Ex.move rfl) (by decide) ?_
  refine GL.step (Stp.callR (vs := [(.agg #[(.int .i64 (((tW ((rst (IntKind.i64.wrap (q1 + 1)) 4).toNat) W H : Nat) : Int))), (.int .i64 (((tH ((rst (IntKind.i64.wrap (q1 + 1)) 4).toNat) W H : Nat) : Int))), (.slice (some ⟨xq96, 0, none⟩) ((tW ((rst (IntKind.i64.wrap (q1 + 1)) 4).toNat) W H) * (tH ((rst (IntKind.i64.wrap (q1 + 1)) 4).toNat) W H)) ((tW ((rst (IntKind.i64.wrap (q1 + 1)) 4).toNat) W H) * (tH ((rst (IntKind.i64.wrap (q1 + 1)) 4).toNat) W H)))]), (.int .i64 0), (.agg #[(.int .i64 (((tW ((rst (IntKind.i64.wrap (q1 + 1)) 4).toNat) W H : Nat) : Int))), (.int .i64 (((tH ((rst (IntKind.i64.wrap (q1 + 1)) 4).toNat) W H : Nat) : Int))), (.slice (some ⟨xq98, 0, none⟩) ((tW ((rst (IntKind.i64.wrap (q1 + 1)) 4).toNat) W H) * (tH ((rst (IntKind.i64.wrap (q1 + 1)) 4).toNat) W H)) ((tW ((rst (IntKind.i64.wrap (q1 + 1)) 4).toNat) W H) * (tH ((rst (IntKind.i64.wrap (q1 + 1)) 4).toNat) W H)))]), (.int .i64 0)]) rfl rfl T.own20 (by decide) (fun wc hw => same_ (((tW ((rst (IntKind.i64.wrap (q1 + 1)) 4).toNat) W H : Nat) : Int)) (((tH ((rst (IntKind.i64.wrap (q1 + 1)) 4).toNat) W H : Nat) : Int)) (some ⟨xq96, 0, none⟩) ((tW ((rst (IntKind.i64.wrap (q1 + 1)) 4).toNat) W H) * (tH ((rst (IntKind.i64.wrap (q1 + 1)) 4).toNat) W H)) ((tW ((rst (IntKind.i64.wrap (q1 + 1)) 4).toNat) W H) * (tH ((rst (IntKind.i64.wrap (q1 + 1)) 4).toNat) W H)) (((tW ((rst (IntKind.i64.wrap (q1 + 1)) 4).toNat) W H : Nat) : Int)) (((tH ((rst (IntKind.i64.wrap (q1 + 1)) 4).toNat) W H : Nat) : Int)) (some ⟨xq98, 0, none⟩) ((tW ((rst (IntKind.i64.wrap (q1 + 1)) 4).toNat) W H) * (tH ((rst (IntKind.i64.wrap (q1 + 1)) 4).toNat) W H)) ((tW ((rst (IntKind.i64.wrap (q1 + 1)) 4).toNat) W H) * (tH ((rst (IntKind.i64.wrap (q1 + 1)) 4).toNat) W H)) 0 (trn ((rst (IntKind.i64.wrap (q1 + 1)) 4).toNat) xs W H) (trn ((rst (IntKind.i64.wrap (q1 + 1)) 4).toNat) xs W H) wc (by have h' := ((show okP (tW ((rst (IntKind.i64.wrap (q1 + 1)) 4).toNat) W H) (tH ((rst (IntKind.i64.wrap (q1 + 1)) 4).toNat) W H) from (okP.turn hok ((rst (IntKind.i64.wrap (q1 + 1)) 4).toNat)))).2.2.2.2; omega) (LsR.blk (trn_len (rst4 _).2) (hw.rdOf (i := 1) rfl 0)) (LsR.blk (trn_len (rst4 _).2) (hw.rdOf (i := 0) rfl 0)) (by first | rfl | omega) (by first | rfl | omega) (by first | rfl | (simp only [Nat.add_zero])))) (fun xq100 hq101 => ?_)
  refine GL.val (v := (.bool false)) (Ex.cast (Ex.not rfl) rfl) (by decide) ?_
  refine GL.nil ?_
  refine GE.thenN ?_
  refine GC.cond rfl (fun hq102 => by cases hq102) (fun _ => ?_)
  refine GC.skip ?_
  refine GE.thenN ?_
  refine GC.region ?_
  refine GL.val (Ex.move rfl) (by decide) ?_
  refine GL.val (v := (.agg #[(.int .i64 (((tW ((rst (IntKind.i64.wrap (q1 + 1)) 4).toNat) W H : Nat) : Int))), (.int .i64 (((tH ((rst (IntKind.i64.wrap (q1 + 1)) 4).toNat) W H : Nat) : Int))), (.slice (some ⟨xq96, 0, none⟩) ((tW ((rst (IntKind.i64.wrap (q1 + 1)) 4).toNat) W H) * (tH ((rst (IntKind.i64.wrap (q1 + 1)) 4).toNat) W H)) ((tW ((rst (IntKind.i64.wrap (q1 + 1)) 4).toNat) W H) * (tH ((rst (IntKind.i64.wrap (q1 + 1)) 4).toNat) W H)))])) (Ex.loadA rfl T.ag32 T.sz32 (i := 9) rfl (vs := [(.int .i64 (((tW ((rst (IntKind.i64.wrap (q1 + 1)) 4).toNat) W H : Nat) : Int))), (.int .i64 (((tH ((rst (IntKind.i64.wrap (q1 + 1)) 4).toNat) W H : Nat) : Int))), (.slice (some ⟨xq96, 0, none⟩) ((tW ((rst (IntKind.i64.wrap (q1 + 1)) 4).toNat) W H) * (tH ((rst (IntKind.i64.wrap (q1 + 1)) 4).toNat) W H)) ((tW ((rst (IntKind.i64.wrap (q1 + 1)) 4).toNat) W H) * (tH ((rst (IntKind.i64.wrap (q1 + 1)) 4).toNat) W H)))]) rfl rfl) (by decide) ?_
  refine GL.val (Ex.move rfl) (by decide) ?_
  refine GL.val (v := (.int .i64 104)) (Ex.add rfl rfl (Z := 104) (by decide)) (by decide) ?_
  refine GL.step (Stp.call (vs := [(.pointer (some ⟨bq7, 0, none⟩)), (.agg #[(.int .i64 (((tW ((rst (IntKind.i64.wrap (q1 + 1)) 4).toNat) W H : Nat) : Int))), (.int .i64 (((tH ((rst (IntKind.i64.wrap (q1 + 1)) 4).toNat) W H : Nat) : Int))), (.slice (some ⟨xq96, 0, none⟩) ((tW ((rst (IntKind.i64.wrap (q1 + 1)) 4).toNat) W H) * (tH ((rst (IntKind.i64.wrap (q1 + 1)) 4).toNat) W H)) ((tW ((rst (IntKind.i64.wrap (q1 + 1)) 4).toNat) W H) * (tH ((rst (IntKind.i64.wrap (q1 + 1)) 4).toNat) W H)))]), (.int .i64 104)]) rfl rfl T.own21 (by decide) (fun wc hw => book_p11 w _ (((tW ((rst (IntKind.i64.wrap (q1 + 1)) 4).toNat) W H : Nat) : Int)) (((tH ((rst (IntKind.i64.wrap (q1 + 1)) 4).toNat) W H : Nat) : Int)) bq7 104 xq96 ((tW ((rst (IntKind.i64.wrap (q1 + 1)) 4).toNat) W H) * (tH ((rst (IntKind.i64.wrap (q1 + 1)) 4).toNat) W H)) ((tW ((rst (IntKind.i64.wrap (q1 + 1)) 4).toNat) W H) * (tH ((rst (IntKind.i64.wrap (q1 + 1)) 4).toNat) W H)) ((trn ((rst (IntKind.i64.wrap (q1 + 1)) 4).toNat) xs W H).map u32) 9 xq94.2.1 xq94.2.2.1 xq94.1.1 xq94.1.2.1 ((((((((([(Value.slice (some ⟨xq10, 0, none⟩) ((X1 - X0) * (Y1 - Y0)) ((X1 - X0) * (Y1 - Y0)))]) ++ [(Value.slice none 0 0)]) ++ [(Value.slice (some ⟨xq30, 0, none⟩) (W * H) (W * H))]) ++ [(Value.slice (some ⟨xq39, 0, none⟩) (H * W) (H * W))]) ++ [(Value.slice (some ⟨xq48, 0, none⟩) ((tW ((rst (IntKind.i64.wrap (q1 + 0)) 4).toNat) W H) * (tH ((rst (IntKind.i64.wrap (q1 + 0)) 4).toNat) W H)) ((tW ((rst (IntKind.i64.wrap (q1 + 0)) 4).toNat) W H) * (tH ((rst (IntKind.i64.wrap (q1 + 0)) 4).toNat) W H)))]) ++ [(Value.slice (some ⟨xq58, 0, none⟩) ((X1 - X0) * (Y1 - Y0)) ((X1 - X0) * (Y1 - Y0)))]) ++ [(Value.slice none 0 0)]) ++ [(Value.slice (some ⟨xq78, 0, none⟩) (W * H) (W * H))]) ++ [(Value.slice (some ⟨xq87, 0, none⟩) (H * W) (H * W))]) xq94.2.2.2 ((((((((([(Value.int .i64 0)]) ++ [(Value.int .i64 1)]) ++ [(Value.int .i64 2)]) ++ [(Value.int .i64 3)]) ++ [(Value.int .i64 4)]) ++ [(Value.int .i64 100)]) ++ [(Value.int .i64 101)]) ++ [(Value.int .i64 102)]) ++ [(Value.int .i64 103)]) xq94.1.2.2 wc (by rw [List.length_map]; exact (trn_len (rst4 _).2)) (by have h' := ((show okP (tW ((rst (IntKind.i64.wrap (q1 + 1)) 4).toNat) W H) (tH ((rst (IntKind.i64.wrap (q1 + 1)) 4).toNat) W H) from (okP.turn hok ((rst (IntKind.i64.wrap (q1 + 1)) 4).toNat)))).2.2.2.2; omega) (by first | decide | omega) (by first | rfl | omega) (by first | rfl | omega) hq95.1 hq95.2 (hw.pick (idx := [4, 3, 2, 1, 0, 5, 6, 7, 8, 9, 10, 11, 12, 13, 14, 15, 16, 17, 18, 19, 20, 21, 22, 23, 24, 25]) (by decide) rfl))) (fun xq103 hq104 => ?_)
  refine GL.nil ?_
  refine GE.blockN ?_
  refine GE.thenN ?_
  refine GC.region ?_
  refine GL.val (Ex.move rfl) (by decide) ?_
  refine GL.val (v := (.int .i64 2)) (Ex.add rfl rfl (Z := 2) (by decide)) (by decide) ?_
  refine GL.val (Ex.assign rfl) (by decide) ?_
  refine GL.nil ?_
  refine GE.thenN ?_
  refine GE.round ?_
  refine GC.seq ?_
  refine GC.seq ?_
  refine GC.region ?_
  refine GL.val (Ex.move rfl) (by decide) ?_
  refine GL.val (v := (.bool false)) (Ex.cast (Ex.lss rfl rfl) rfl) (by decide) ?_
  refine GL.nil ?_
  refine GE.thenN ?_
  refine GC.cond rfl (fun hq105 => by cases hq105) (fun _ => ?_)
  refine GC.exit ?_
  refine GE.thenE ?_
  refine GE.thenE ?_
  refine GE.blockE ?_
  refine GE.thenN ?_
  refine GC.seq ?_
  refine GC.region ?_
  refine GL.val (Ex.move rfl) (by decide) ?_
  refine GL.step (Stp.callR (vs := [(.pointer (some ⟨bq7, 0, none⟩))]) rfl rfl T.own22 (by decide) (fun wc hw => book_hold bq7 10 xq103.2.1 xq103.2.2.1 xq103.1.1 xq103.1.2.1 ([⟨(some ⟨xq10, 0, none⟩), (X1 - X0) * (Y1 - Y0), 0⟩, ⟨none, 0, 1⟩, ⟨(some ⟨xq30, 0, none⟩), W * H, 2⟩, ⟨(some ⟨xq39, 0, none⟩), H * W, 3⟩, ⟨(some ⟨xq48, 0, none⟩), (tW ((rst (IntKind.i64.wrap (q1 + 0)) 4).toNat) W H) * (tH ((rst (IntKind.i64.wrap (q1 + 0)) 4).toNat) W H), 4⟩, ⟨(some ⟨xq58, 0, none⟩), (X1 - X0) * (Y1 - Y0), 100⟩, ⟨none, 0, 101⟩, ⟨(some ⟨xq78, 0, none⟩), W * H, 102⟩, ⟨(some ⟨xq87, 0, none⟩), H * W, 103⟩, ⟨(some ⟨xq96, 0, none⟩), (tW ((rst (IntKind.i64.wrap (q1 + 1)) 4).toNat) W H) * (tH ((rst (IntKind.i64.wrap (q1 + 1)) 4).toNat) W H), 104⟩] : List It) xq103.2.2.2 xq103.1.2.2 wc rfl (by decide) (it_cons (it_blk (by have h' := ((show okP (X1 - X0) (Y1 - Y0) from (hok.part (by omega) (by omega) (by omega) (by omega)))).2.2.2.2; omega) (hw.rdOf (i := 13) rfl 0)) (it_cons (it_nil _) (it_cons (it_blk (by have h' := ((show okP W H from hok)).2.2.2.2; omega) (hw.rdOf (i := 12) rfl 0)) (it_cons (it_blk (by have h' := ((show okP H W from hok.swap)).2.2.2.2; omega) (hw.rdOf (i := 11) rfl 0)) (it_cons (it_blk (by have h' := ((show okP (tW ((rst (IntKind.i64.wrap (q1 + 0)) 4).toNat) W H) (tH ((rst (IntKind.i64.wrap (q1 + 0)) 4).toNat) W H) from (okP.turn hok ((rst (IntKind.i64.wrap (q1 + 0)) 4).toNat)))).2.2.2.2; omega) (hw.rdOf (i := 10) rfl 0)) (it_cons (it_blk (by have h' := ((show okP (X1 - X0) (Y1 - Y0) from (hok.part (by omega) (by omega) (by omega) (by omega)))).2.2.2.2; omega) (hw.rdOf (i := 7) rfl 0)) (it_cons (it_nil _) (it_cons (it_blk (by have h' := ((show okP W H from hok)).2.2.2.2; omega) (hw.rdOf (i := 6) rfl 0)) (it_cons (it_blk (by have h' := ((show okP H W from hok.swap)).2.2.2.2; omega) (hw.rdOf (i := 5) rfl 0)) (it_cons (it_blk (by have h' := ((show okP (tW ((rst (IntKind.i64.wrap (q1 + 1)) 4).toNat) W H) (tH ((rst (IntKind.i64.wrap (q1 + 1)) 4).toNat) W H) from (okP.turn hok ((rst (IntKind.i64.wrap (q1 + 1)) 4).toNat)))).2.2.2.2; omega) (hw.rdOf (i := 3) rfl 0)) it_all)))))))))) (Has.cons (hw.hasOf (i := 2) rfl) (Has.cons (hw.hasOf (i := 1) rfl) (Has.cons (hw.hasOf (i := 0) rfl) (Has.nil _)))))) (fun xq106 hq107 => ?_)
  refine GL.val (Ex.move rfl) (by decide) ?_
  refine GL.stepG (tj := 165) rfl rfl (Ex.wp (v := (.pointer (some ⟨bq8, 0, none⟩))) (Ex.move rfl) (by decide)) (fun _ _ => ?_)
  refine GL.stepG (tj := 165) rfl rfl (Stp.callR (vs := [(.pointer (some ⟨bq8, 0, none⟩))]) rfl rfl T.own23 (by decide) (fun wc hw => room_hold2 bq8 j.2.1.2.2.1.1 j.2.1.1.1 j.2.1.2.2.1.2.1 j.2.1.1.2.1 j.2.1.2.2.1.2.2 j.2.1.1.2.2 j.1.2.2.2 j.1.2.1.1 n j.1.2.1.2.1 j.2.1.2.2.2 j.2.1.2.1.1 m j.2.1.2.1.2.1 xs ys j.1.2.1.2.2 j.2.1.2.1.2.2 wc ⟨hl.1, hb⟩ ⟨hl2.1, hb2⟩ (Has.cons (hw.hasOf (i := 18) rfl) (Has.cons (hw.hasOf (i := 16) rfl) (Has.cons (hw.hasOf (i := 14) rfl) (Has.cons (hw.hasOf (i := 20) rfl) (Has.cons (hw.hasOf (i := 19) rfl) (Has.cons (hw.hasOf (i := 17) rfl) (Has.cons (hw.hasOf (i := 15) rfl) (Has.nil _)))))))))) (fun xq108 hq109 => ?_)
  refine GL.val (v := (.bool true)) (Ex.pickT rfl rfl) (by decide) ?_
  refine GL.val (Ex.assign rfl) (by decide) ?_
  refine GL.nil ?_
  refine GE.thenN ?_
  refine GC.ret ?_
  refine GC.ret1 rfl (Rv.tmp rfl) (fun wN HN => ?_)
  exact HN.ret () trivial rfl (List.nil_sublist _) rfl

set_option maxRecDepth 100000 in
set_option maxHeartbeats 1000000 in
theorem mv_oq (W H n cap b o : Nat) (xs : List Int) (V U m cap2 b2 o2 : Nat) (ys : List Int) (X0 Y0 X1 Y1 : Int) (x y q1 : Int) (w : World) (hok : okP W H) (hn : n = W * H) (hl : Lst w (some ⟨b, o, none⟩) n xs) (hr : Rd w b o (xs.map u32)) (hb : n ≤ 35184372087808) (hok2 : okP V U) (hn2 : m = V * U) (hl2 : Lst w (some ⟨b2, o2, none⟩) m ys) (hr2 : Rd w b2 o2 (ys.map u32)) (hb2 : m ≤ 35184372087808) (hR : ¬ (0 ≤ X0 ∧ X0 < X1 ∧ X1 ≤ W ∧ 0 ≤ Y0 ∧ Y0 < Y1 ∧ Y1 ≤ H)) (hxb : -9223372036854775808 ≤ x ∧ x ≤ 9223372036854775807) (hyb : -9223372036854775808 ≤ y ∧ y ≤ 9223372036854775807) :
    Calls Try.prog 8 #[(.agg #[(.int .i64 (((W : Nat) : Int))), (.int .i64 (((H : Nat) : Int))), (.slice (some ⟨b, o, none⟩) n cap)]), (.agg #[(.int .i64 (((V : Nat) : Int))), (.int .i64 (((U : Nat) : Int))), (.slice (some ⟨b2, o2, none⟩) m cap2)]), (.agg #[(.int .i64 X0), (.int .i64 Y0), (.int .i64 X1), (.int .i64 Y1)]), (.int .i64 x), (.int .i64 y), (.int .i64 q1)] w (Ret w (fun _ : Unit => True) (fun _ => .bool true) (fun _ => [])) := by
  have hx := hl.1
  have hc0 : chk W H n = 0 := by rw [hn]; exact chk_ok hok
  refine enter (M := None) (L := []) (n := 169) (l := [(0, (.agg #[(.int .i64 (((W : Nat) : Int))), (.int .i64 (((H : Nat) : Int))), (.slice (some ⟨b, o, none⟩) n cap)])), (1, (.agg #[(.int .i64 (((V : Nat) : Int))), (.int .i64 (((U : Nat) : Int))), (.slice (some ⟨b2, o2, none⟩) m cap2)])), (2, (.agg #[(.int .i64 X0), (.int .i64 Y0), (.int .i64 X1), (.int .i64 Y1)])), (3, (.int .i64 x)), (4, (.int .i64 y)), (5, (.int .i64 q1))]) Try.func8 rfl rfl (Args.cons rfl (Args.cons rfl (Args.cons rfl (Args.cons rfl (Args.cons rfl (Args.cons rfl (Args.nil _))))))) (Hp.start _ _) ?_
  refine GC.seq ?_
  refine GC.region ?_
  refine GL.step (Stp.box (cs := [(.int .i64 (((W : Nat) : Int))), (.int .i64 (((H : Nat) : Int))), (.slice (some ⟨b, o, none⟩) n cap)]) rfl rfl (by decide)) (fun bq1 _ => ?_)
  refine GL.step (Stp.box (cs := [(.int .i64 (((V : Nat) : Int))), (.int .i64 (((U : Nat) : Int))), (.slice (some ⟨b2, o2, none⟩) m cap2)]) rfl rfl (by decide)) (fun bq2 _ => ?_)
  refine GL.step (Stp.box (cs := [(.int .i64 X0), (.int .i64 Y0), (.int .i64 X1), (.int .i64 Y1)]) rfl rfl (by decide)) (fun bq3 _ => ?_)
  refine GL.val (Ex.assign rfl) (by decide) ?_
  refine GL.nil ?_
  refine GE.thenN ?_
  refine GC.seq ?_
  refine GC.seq ?_
  refine GC.region ?_
  refine GL.step (Stp.callR (vs := []) rfl rfl T.own13 (by decide) (fun wc hw => known wc)) (fun xq4 hq5 => ?_)
  refine GL.val (v := (.bool false)) (Ex.cast (Ex.not rfl) rfl) (by decide) ?_
  refine GL.nil ?_
  refine GE.thenN ?_
  refine GC.cond rfl (fun hq6 => by cases hq6) (fun _ => ?_)
  refine GC.skip ?_
  refine GE.thenN ?_
  refine GC.seq ?_
  refine GC.region ?_
  refine GL.val (v := (.agg #[(.slice none 0 0), (.slice none 0 0), (.slice none 0 0), (.slice none 0 0), (.slice none 0 0), (.slice none 0 0), (.slice none 0 0), (.slice none 0 0)])) (Ex.build (vs := []) rfl (by first | rfl | kernel_rfl)) (by decide) ?_
  refine GL.step (Stp.box (cs := [(.slice none 0 0), (.slice none 0 0), (.slice none 0 0), (.slice none 0 0), (.slice none 0 0), (.slice none 0 0), (.slice none 0 0), (.slice none 0 0)]) rfl rfl (by decide)) (fun bq7 _ => ?_)
  refine GL.val (Ex.assign rfl) (by decide) ?_
  refine GL.nil ?_
  refine GE.thenN ?_
  refine GC.seq ?_
  refine GC.region ?_
  refine GL.val (v := (.agg #[(.slice none 0 0), (.slice none 0 0), (.slice none 0 0), (.slice none 0 0), (.slice none 0 0), (.slice none 0 0), (.slice none 0 0), (.slice none 0 0)])) (Ex.build (vs := []) rfl (by first | rfl | kernel_rfl)) (by decide) ?_
  refine GL.step (Stp.box (cs := [(.slice none 0 0), (.slice none 0 0), (.slice none 0 0), (.slice none 0 0), (.slice none 0 0), (.slice none 0 0), (.slice none 0 0), (.slice none 0 0)]) rfl rfl (by decide)) (fun bq8 _ => ?_)
  refine GL.val (Ex.assign rfl) (by decide) ?_
  refine GL.nil ?_
  refine GE.thenN ?_
  refine GC.seq ?_
  refine GC.sub (l' := [(0, (.agg #[(.int .i64 (((W : Nat) : Int))), (.int .i64 (((H : Nat) : Int))), (.slice (some ⟨b, o, none⟩) n cap)])), (1, (.agg #[(.int .i64 (((V : Nat) : Int))), (.int .i64 (((U : Nat) : Int))), (.slice (some ⟨b2, o2, none⟩) m cap2)])), (2, (.agg #[(.int .i64 X0), (.int .i64 Y0), (.int .i64 X1), (.int .i64 Y1)])), (3, (.int .i64 x)), (4, (.int .i64 y)), (5, (.int .i64 q1)), (6, (.pointer (some ⟨bq1, 0, none⟩))), (7, (.pointer (some ⟨bq2, 0, none⟩))), (8, (.pointer (some ⟨bq3, 0, none⟩))), (12, (.bool false)), (13, (.pointer (some ⟨bq7, 0, none⟩))), (14, (.pointer (some ⟨bq8, 0, none⟩)))]) ((sub_cons rfl ((sub_cons rfl ((sub_cons rfl ((sub_cons rfl ((sub_cons rfl ((sub_cons rfl ((sub_cons rfl ((sub_cons rfl ((sub_cons rfl ((sub_cons rfl ((sub_cons rfl ((sub_cons rfl ((sub_nil _)))))))))))))))))))))))))) ulR ?_
  refine mv_lend (((W : Nat) : Int)) (((H : Nat) : Int)) (some ⟨b, o, none⟩) n cap xs (((V : Nat) : Int)) (((U : Nat) : Int)) (some ⟨b2, o2, none⟩) m cap2 ys (.agg #[(.int .i64 X0), (.int .i64 Y0), (.int .i64 X1), (.int .i64 Y1)]) (.int .i64 x) (.int .i64 y) (.int .i64 q1) (.bool false) bq8 bq7 bq3 bq2 bq1 [(.int .i64 X0), (.int .i64 Y0), (.int .i64 X1), (.int .i64 Y1)] w hl hb hl2 hb2 (fun _ _ _ _ _ h => h) (fun j => ?_)
  refine GE.thenN ?_
  refine GC.seq ?_
  refine GC.seq ?_
  refine GC.region ?_
  refine GL.val (Ex.assign rfl) (by decide) ?_
  refine GL.nil ?_
  refine GE.thenN ?_
  refine GC.block ?_
  refine GC.unroll 3 ?_
  refine GE.round ?_
  refine GC.seq ?_
  refine GC.seq ?_
  refine GC.region ?_
  refine GL.val (Ex.move rfl) (by decide) ?_
  refine GL.val (v := (.bool true)) (Ex.cast (Ex.lss rfl rfl) rfl) (by decide) ?_
  refine GL.nil ?_
  refine GE.thenN ?_
  refine GC.cond rfl (fun _ => ?_) (fun hq9 => by cases hq9)
  refine GC.skip ?_
  refine GE.thenN ?_
  refine GC.seq ?_
  refine GC.block ?_
  refine GC.seq ?_
  refine GC.region ?_
  refine GL.val (Ex.move rfl) (by decide) ?_
  refine GL.val (v := (.int .i64 0)) (Ex.mul rfl rfl (Z := 0) (by decide)) (by decide) ?_
  refine GL.val (Ex.assign rfl) (by decide) ?_
  refine GL.nil ?_
  refine GE.thenN ?_
  refine GC.seq ?_
  refine GC.region ?_
  refine GL.val (v := (.agg #[(.int .i64 (((W : Nat) : Int))), (.int .i64 (((H : Nat) : Int))), (.slice (some ⟨j.1.2.2.2, 0, none⟩) n (n + 5))])) (Ex.loadA rfl T.ag32 T.sz32 (i := 7) rfl (vs := [(.int .i64 (((W : Nat) : Int))), (.int .i64 (((H : Nat) : Int))), (.slice (some ⟨j.1.2.2.2, 0, none⟩) n (n + 5))]) rfl rfl) (by decide) ?_
  refine GL.val (v := (.agg #[(.int .i64 X0), (.int .i64 Y0), (.int .i64 X1), (.int .i64 Y1)])) (Ex.loadA rfl T.ag54 T.sz54 (i := 10) rfl (vs := [(.int .i64 X0), (.int .i64 Y0), (.int .i64 X1), (.int .i64 Y1)]) rfl rfl) (by decide) ?_
  refine GL.step (Stp.callR (vs := [(.agg #[(.int .i64 (((W : Nat) : Int))), (.int .i64 (((H : Nat) : Int))), (.slice (some ⟨j.1.2.2.2, 0, none⟩) n (n + 5))]), (.agg #[(.int .i64 X0), (.int .i64 Y0), (.int .i64 X1), (.int .i64 Y1)])]) rfl rfl T.own24 (by decide) (fun wc hw => crop_out W H n (n + 5) (some ⟨j.1.2.2.2, 0, none⟩) X0 Y0 X1 Y1 wc hok hn hR)) (fun xq10 hq11 => ?_)
  refine GL.val (Ex.move rfl) (by decide) ?_
  refine GL.val (Ex.extract rfl rfl) (by decide) ?_
  refine GL.val (Ex.extract rfl rfl) (by decide) ?_
  refine GL.step (Stp.alloc T.zr32 (by decide)) (fun bq12 _ => ?_)
  refine GL.step (Stp.st0 (cs' := [(.int .i64 0), (.int .i64 0), (.slice none 0 0)]) rfl rfl rfl T.sz32 rfl rfl rfl) (fun _ _ => ?_)
  refine GL.val (Ex.assign rfl) (by decide) ?_
  refine GL.nil ?_
  refine GE.thenN ?_
  refine GC.seq ?_
  refine GC.region ?_
  refine GL.val (v := (.agg #[(.int .i64 (((W : Nat) : Int))), (.int .i64 (((H : Nat) : Int))), (.slice (some ⟨b, o, none⟩) n cap)])) (Ex.loadA rfl T.ag32 T.sz32 (i := 13) rfl (vs := [(.int .i64 (((W : Nat) : Int))), (.int .i64 (((H : Nat) : Int))), (.slice (some ⟨b, o, none⟩) n cap)]) rfl rfl) (by decide) ?_
  refine GL.val (v := (.agg #[(.int .i64 X0), (.int .i64 Y0), (.int .i64 X1), (.int .i64 Y1)])) (Ex.loadA rfl T.ag54 T.sz54 (i := 11) rfl (vs := [(.int .i64 X0), (.int .i64 Y0), (.int .i64 X1), (.int .i64 Y1)]) rfl rfl) (by decide) ?_
  refine GL.step (Stp.callR (vs := [(.agg #[(.int .i64 (((W : Nat) : Int))), (.int .i64 (((H : Nat) : Int))), (.slice (some ⟨b, o, none⟩) n cap)]), (.agg #[(.int .i64 X0), (.int .i64 Y0), (.int .i64 X1), (.int .i64 Y1)])]) rfl rfl T.own27 (by decide) (fun wc hw => ref_crop_out W H n cap (some ⟨b, o, none⟩) X0 Y0 X1 Y1 wc hok hn hR)) (fun xq13 hq14 => ?_)
  refine GL.val (Ex.move rfl) (by decide) ?_
  refine GL.val (Ex.extract rfl rfl) (by decide) ?_
  refine GL.val (Ex.extract rfl rfl) (by decide) ?_
  refine GL.step (Stp.alloc T.zr32 (by decide)) (fun bq15 _ => ?_)
  refine GL.step (Stp.st0 (cs' := [(.int .i64 0), (.int .i64 0), (.slice none 0 0)]) rfl rfl rfl T.sz32 rfl rfl rfl) (fun _ _ => ?_)
  refine GL.val (Ex.assign rfl) (by decide) ?_
  refine GL.nil ?_
  refine GE.thenN ?_
  refine GC.seq ?_
  refine GC.seq ?_
  refine GC.region ?_
  refine GL.val (v := (.agg #[(.int .i64 0), (.int .i64 0), (.slice none 0 0)])) (Ex.loadA rfl T.ag32 T.sz32 (i := 1) rfl (vs := [(.int .i64 0), (.int .i64 0), (.slice none 0 0)]) rfl rfl) (by decide) ?_
  refine GL.val (Ex.move rfl) (by decide) ?_
  refine GL.val (v := (.agg #[(.int .i64 0), (.int .i64 0), (.slice none 0 0)])) (Ex.loadA rfl T.ag32 T.sz32 (i := 0) rfl (vs := [(.int .i64 0), (.int .i64 0), (.slice none 0 0)]) rfl rfl) (by decide) ?_
  refine GL.val (Ex.move rfl) (by decide) ?_
  refine GL.step (Stp.callR (vs := [(.agg #[(.int .i64 0), (.int .i64 0), (.slice none 0 0)]), (.int .i64 52), (.agg #[(.int .i64 0), (.int .i64 0), (.slice none 0 0)]), (.int .i64 52)]) rfl rfl T.own20 (by decide) (fun wc hw => same_ 0 0 none 0 0 0 0 none 0 0 52 ([]) ([]) wc (by decide) (LsR.nil _ _) (LsR.nil _ _) (by first | rfl | omega) (by first | rfl | omega) (by first | rfl | (simp only [Nat.add_zero])))) (fun xq16 hq17 => ?_)
  refine GL.val (v := (.bool false)) (Ex.cast (Ex.not rfl) rfl) (by decide) ?_
  refine GL.nil ?_
  refine GE.thenN ?_
  refine GC.cond rfl (fun hq18 => by cases hq18) (fun _ => ?_)
  refine GC.skip ?_
  refine GE.thenN ?_
  refine GC.seq ?_
  refine GC.region ?_
  refine GL.val (Ex.move rfl) (by decide) ?_
  refine GL.val (v := (.agg #[(.int .i64 0), (.int .i64 0), (.slice none 0 0)])) (Ex.loadA rfl T.ag32 T.sz32 (i := 1) rfl (vs := [(.int .i64 0), (.int .i64 0), (.slice none 0 0)]) rfl rfl) (by decide) ?_
  refine GL.val (Ex.move rfl) (by decide) ?_
  refine GL.step (Stp.call (vs := [(.pointer (some ⟨bq7, 0, none⟩)), (.agg #[(.int .i64 0), (.int .i64 0), (.slice none 0 0)]), (.int .i64 0)]) rfl rfl T.own21 (by decide) (fun wc hw => book_p00 w _ 0 0 bq7 0 wc (hw.pick (idx := [11, 0, 1, 2, 3, 4, 5, 6, 7, 8, 9, 10, 12, 13, 14]) (by decide) rfl))) (fun xq19 hq20 => ?_)
  refine GL.nil ?_
  refine GE.thenN ?_
  refine GC.seq ?_
  refine GC.region ?_
  refine GL.val (v := (.agg #[(.int .i64 (((W : Nat) : Int))), (.int .i64 (((H : Nat) : Int))), (.slice (some ⟨j.1.2.2.2, 0, none⟩) n (n + 5))])) (Ex.loadA rfl T.ag32 T.sz32 (i := 12) rfl (vs := [(.int .i64 (((W : Nat) : Int))), (.int .i64 (((H : Nat) : Int))), (.slice (some ⟨j.1.2.2.2, 0, none⟩) n (n + 5))]) rfl rfl) (by decide) ?_
  refine GL.val (v := (.agg #[(.int .i64 (((V : Nat) : Int))), (.int .i64 (((U : Nat) : Int))), (.slice (some ⟨j.2.1.2.2.2, 0, none⟩) m (m + 5))])) (Ex.loadA rfl T.ag32 T.sz32 (i := 13) rfl (vs := [(.int .i64 (((V : Nat) : Int))), (.int .i64 (((U : Nat) : Int))), (.slice (some ⟨j.2.1.2.2.2, 0, none⟩) m (m + 5))]) rfl rfl) (by decide) ?_
  refine GL.val (Ex.move rfl) (by decide) ?_
  refine GL.val (Ex.move rfl) (by decide) ?_
  refine GL.step (Stp.callR (vs := [(.agg #[(.int .i64 (((W : Nat) : Int))), (.int .i64 (((H : Nat) : Int))), (.slice (some ⟨j.1.2.2.2, 0, none⟩) n (n + 5))]), (.agg #[(.int .i64 (((V : Nat) : Int))), (.int .i64 (((U : Nat) : Int))), (.slice (some ⟨j.2.1.2.2.2, 0, none⟩) m (m + 5))]), (.int .i64 x), (.int .i64 y)]) rfl rfl T.own25 (by decide) (fun wc hw => paste W H n (n + 5) j.1.2.2.2 0 V U m (m + 5) j.2.1.2.2.2 0 xs ys x y wc hok hn hx (Rd.lent (hw.rdOf (i := 11) rfl 0)) hok2 hn2 hl2.1 (Rd.lent (hw.rdOf (i := 8) rfl 0)) hxb hyb)) (fun xq21 hq22 => ?_)
  refine GL.val (Ex.move rfl) (by decide) ?_
  refine GL.val (Ex.extract rfl rfl) (by decide) ?_
  refine GL.val (Ex.extract rfl rfl) (by decide) ?_
  refine GL.step (Stp.st5 (cs' := [(.int .i64 (((W : Nat) : Int))), (.int .i64 (((H : Nat) : Int))), (.slice (some ⟨xq21, 0, none⟩) (W * H) (W * H))]) rfl rfl rfl T.sz32 rfl rfl rfl) (fun _ _ => ?_)
  refine GL.val (Ex.assign rfl) (by decide) ?_
  refine GL.nil ?_
  refine GE.thenN ?_
  refine GC.seq ?_
  refine GC.region ?_
  refine GL.val (v := (.agg #[(.int .i64 (((W : Nat) : Int))), (.int .i64 (((H : Nat) : Int))), (.slice (some ⟨b, o, none⟩) n cap)])) (Ex.loadA rfl T.ag32 T.sz32 (i := 17) rfl (vs := [(.int .i64 (((W : Nat) : Int))), (.int .i64 (((H : Nat) : Int))), (.slice (some ⟨b, o, none⟩) n cap)]) rfl rfl) (by decide) ?_
  refine GL.val (v := (.agg #[(.int .i64 (((V : Nat) : Int))), (.int .i64 (((U : Nat) : Int))), (.slice (some ⟨b2, o2, none⟩) m cap2)])) (Ex.loadA rfl T.ag32 T.sz32 (i := 16) rfl (vs := [(.int .i64 (((V : Nat) : Int))), (.int .i64 (((U : Nat) : Int))), (.slice (some ⟨b2, o2, none⟩) m cap2)]) rfl rfl) (by decide) ?_
  refine GL.val (Ex.move rfl) (by decide) ?_
  refine GL.val (Ex.move rfl) (by decide) ?_
  refine GL.step (Stp.callR (vs := [(.agg #[(.int .i64 (((W : Nat) : Int))), (.int .i64 (((H : Nat) : Int))), (.slice (some ⟨b, o, none⟩) n cap)]), (.agg #[(.int .i64 (((V : Nat) : Int))), (.int .i64 (((U : Nat) : Int))), (.slice (some ⟨b2, o2, none⟩) m cap2)]), (.int .i64 x), (.int .i64 y)]) rfl rfl T.own28 (by decide) (fun wc hw => ref_paste W H n cap b o V U m cap2 b2 o2 xs ys x y wc hok hn hx (hw.rd hr (fun x => x)) hok2 hn2 hl2.1 (hw.rd hr2 (fun x => x)))) (fun xq23 hq24 => ?_)
  refine GL.val (Ex.move rfl) (by decide) ?_
  refine GL.val (Ex.extract rfl rfl) (by decide) ?_
  refine GL.val (Ex.extract rfl rfl) (by decide) ?_
  refine GL.step (Stp.st5 (cs' := [(.int .i64 (((W : Nat) : Int))), (.int .i64 (((H : Nat) : Int))), (.slice (some ⟨xq23, 0, none⟩) (W * H) (W * H))]) rfl rfl rfl T.sz32 rfl rfl rfl) (fun _ _ => ?_)
  refine GL.val (Ex.assign rfl) (by decide) ?_
  refine GL.nil ?_
  refine GE.thenN ?_
  refine GC.seq ?_
  refine GC.seq ?_
  refine GC.region ?_
  refine GL.val (v := (.agg #[(.int .i64 (((W : Nat) : Int))), (.int .i64 (((H : Nat) : Int))), (.slice (some ⟨xq21, 0, none⟩) (W * H) (W * H))])) (Ex.loadA rfl T.ag32 T.sz32 (i := 6) rfl (vs := [(.int .i64 (((W : Nat) : Int))), (.int .i64 (((H : Nat) : Int))), (.slice (some ⟨xq21, 0, none⟩) (W * H) (W * H))]) rfl rfl) (by decide) ?_
  refine GL.val (Ex.move rfl) (by decide) ?_
  refine GL.val (v := (.agg #[(.int .i64 (((W : Nat) : Int))), (.int .i64 (((H : Nat) : Int))), (.slice (some ⟨xq23, 0, none⟩) (W * H) (W * H))])) (Ex.loadA rfl T.ag32 T.sz32 (i := 5) rfl (vs := [(.int .i64 (((W : Nat) : Int))), (.int .i64 (((H : Nat) : Int))), (.slice (some ⟨xq23, 0, none⟩) (W * H) (W * H))]) rfl rfl) (by decide) ?_
  refine GL.val (Ex.move rfl) (by decide) ?_
  refine GL.step (Stp.callR (vs := [(.agg #[(.int .i64 (((W : Nat) : Int))), (.int .i64 (((H : Nat) : Int))), (.slice (some ⟨xq21, 0, none⟩) (W * H) (W * H))]), (.int .i64 0), (.agg #[(.int .i64 (((W : Nat) : Int))), (.int .i64 (((H : Nat) : Int))), (.slice (some ⟨xq23, 0, none⟩) (W * H) (W * H))]), (.int .i64 0)]) rfl rfl T.own20 (by decide) (fun wc hw => same_ (((W : Nat) : Int)) (((H : Nat) : Int)) (some ⟨xq21, 0, none⟩) (W * H) (W * H) (((W : Nat) : Int)) (((H : Nat) : Int)) (some ⟨xq23, 0, none⟩) (W * H) (W * H) 0 (pstd xs ys W H V U x y) (pstd xs ys W H V U x y) wc (by have h' := ((show okP W H from hok)).2.2.2.2; omega) (LsR.blk (tab_len _ _ _) (hw.rdOf (i := 1) rfl 0)) (LsR.blk (tab_len _ _ _) (hw.rdOf (i := 0) rfl 0)) (by first | rfl | omega) (by first | rfl | omega) (by first | rfl | (simp only [Nat.add_zero])))) (fun xq25 hq26 => ?_)
  refine GL.val (v := (.bool false)) (Ex.cast (Ex.not rfl) rfl) (by decide) ?_
  refine GL.nil ?_
  refine GE.thenN ?_
  refine GC.cond rfl (fun hq27 => by cases hq27) (fun _ => ?_)
  refine GC.skip ?_
  refine GE.thenN ?_
  refine GC.seq ?_
  refine GC.region ?_
  refine GL.val (Ex.move rfl) (by decide) ?_
  refine GL.val (v := (.agg #[(.int .i64 (((W : Nat) : Int))), (.int .i64 (((H : Nat) : Int))), (.slice (some ⟨xq21, 0, none⟩) (W * H) (W * H))])) (Ex.loadA rfl T.ag32 T.sz32 (i := 6) rfl (vs := [(.int .i64 (((W : Nat) : Int))), (.int .i64 (((H : Nat) : Int))), (.slice (some ⟨xq21, 0, none⟩) (W * H) (W * H))]) rfl rfl) (by decide) ?_
  refine GL.val (Ex.move rfl) (by decide) ?_
  refine GL.val (v := (.int .i64 1)) (Ex.add rfl rfl (Z := 1) (by decide)) (by decide) ?_
  refine GL.step (Stp.call (vs := [(.pointer (some ⟨bq7, 0, none⟩)), (.agg #[(.int .i64 (((W : Nat) : Int))), (.int .i64 (((H : Nat) : Int))), (.slice (some ⟨xq21, 0, none⟩) (W * H) (W * H))]), (.int .i64 1)]) rfl rfl T.own21 (by decide) (fun wc hw => book_p11 w _ (((W : Nat) : Int)) (((H : Nat) : Int)) bq7 1 xq21 (W * H) (W * H) ((pstd xs ys W H V U x y).map u32) 1 xq19.2.1 xq19.2.2.1 xq19.1.1 xq19.1.2.1 ([(Value.slice none 0 0)]) xq19.2.2.2 ([(Value.int .i64 0)]) xq19.1.2.2 wc (by rw [List.length_map]; exact (tab_len _ _ _)) (by have h' := ((show okP W H from hok)).2.2.2.2; omega) (by first | decide | omega) (by first | rfl | omega) (by first | rfl | omega) hq20.1 hq20.2 (hw.pick (idx := [4, 3, 2, 1, 0, 5, 6, 7, 8, 9, 10, 11, 12, 13, 14, 15, 16, 17, 18]) (by decide) rfl))) (fun xq28 hq29 => ?_)
  refine GL.nil ?_
  refine GE.thenN ?_
  refine GC.seq ?_
  refine GC.pick (idx := [0, 1, 2, 3, 5, 6, 7, 8, 9, 10, 11, 12, 13, 14, 15, 16, 17, 18]) (by decide) rfl ?_
  refine GC.region ?_
  refine GL.val (v := (.agg #[(.int .i64 (((W : Nat) : Int))), (.int .i64 (((H : Nat) : Int))), (.slice (some ⟨j.1.2.2.2, 0, none⟩) n (n + 5))])) (Ex.loadA rfl T.ag32 T.sz32 (i := 13) rfl (vs := [(.int .i64 (((W : Nat) : Int))), (.int .i64 (((H : Nat) : Int))), (.slice (some ⟨j.1.2.2.2, 0, none⟩) n (n + 5))]) rfl rfl) (by decide) ?_
  refine GL.val (Ex.move rfl) (by decide) ?_
  refine GL.val (v := (.bool true)) (Ex.cast (Ex.eql rfl rfl) rfl) (by decide) ?_
  refine GL.step (Stp.callR (vs := [(.agg #[(.int .i64 (((W : Nat) : Int))), (.int .i64 (((H : Nat) : Int))), (.slice (some ⟨j.1.2.2.2, 0, none⟩) n (n + 5))]), (.bool true)]) rfl rfl T.own29 (by decide) (fun wc hw => flipT W H n (n + 5) j.1.2.2.2 0 xs wc hok hn hx (Rd.lent (hw.rdOf (i := 12) rfl 0)) )) (fun xq30 hq31 => ?_)
  refine GL.val (Ex.move rfl) (by decide) ?_
  refine GL.val (Ex.extract rfl rfl) (by decide) ?_
  refine GL.val (Ex.extract rfl rfl) (by decide) ?_
  refine GL.step (Stp.st6 (cs' := [(.int .i64 (((W : Nat) : Int))), (.int .i64 (((H : Nat) : Int))), (.slice (some ⟨xq30, 0, none⟩) (W * H) (W * H))]) rfl rfl rfl T.sz32 rfl rfl rfl) (fun _ _ => ?_)
  refine GL.val (Ex.assign rfl) (by decide) ?_
  refine GL.nil ?_
  refine GE.thenN ?_
  refine GC.seq ?_
  refine GC.region ?_
  refine GL.val (v := (.agg #[(.int .i64 (((W : Nat) : Int))), (.int .i64 (((H : Nat) : Int))), (.slice (some ⟨b, o, none⟩) n cap)])) (Ex.loadA rfl T.ag32 T.sz32 (i := 18) rfl (vs := [(.int .i64 (((W : Nat) : Int))), (.int .i64 (((H : Nat) : Int))), (.slice (some ⟨b, o, none⟩) n cap)]) rfl rfl) (by decide) ?_
  refine GL.val (Ex.move rfl) (by decide) ?_
  refine GL.val (v := (.bool true)) (Ex.cast (Ex.eql rfl rfl) rfl) (by decide) ?_
  refine GL.step (Stp.callR (vs := [(.agg #[(.int .i64 (((W : Nat) : Int))), (.int .i64 (((H : Nat) : Int))), (.slice (some ⟨b, o, none⟩) n cap)]), (.bool true)]) rfl rfl T.own30 (by decide) (fun wc hw => ref_flipT W H n cap b o xs wc hok hn hx (hw.rd hr (fun x => x)) )) (fun xq32 hq33 => ?_)
  refine GL.val (Ex.move rfl) (by decide) ?_
  refine GL.val (Ex.extract rfl rfl) (by decide) ?_
  refine GL.val (Ex.extract rfl rfl) (by decide) ?_
  refine GL.step (Stp.st6 (cs' := [(.int .i64 (((W : Nat) : Int))), (.int .i64 (((H : Nat) : Int))), (.slice (some ⟨xq32, 0, none⟩) (W * H) (W * H))]) rfl rfl rfl T.sz32 rfl rfl rfl) (fun _ _ => ?_)
  refine GL.val (Ex.assign rfl) (by decide) ?_
  refine GL.nil ?_
  refine GE.thenN ?_
  refine GC.seq ?_
  refine GC.seq ?_
  refine GC.region ?_
  refine GL.val (v := (.agg #[(.int .i64 (((W : Nat) : Int))), (.int .i64 (((H : Nat) : Int))), (.slice (some ⟨xq30, 0, none⟩) (W * H) (W * H))])) (Ex.loadA rfl T.ag32 T.sz32 (i := 7) rfl (vs := [(.int .i64 (((W : Nat) : Int))), (.int .i64 (((H : Nat) : Int))), (.slice (some ⟨xq30, 0, none⟩) (W * H) (W * H))]) rfl rfl) (by decide) ?_
  refine GL.val (Ex.move rfl) (by decide) ?_
  refine GL.val (v := (.agg #[(.int .i64 (((W : Nat) : Int))), (.int .i64 (((H : Nat) : Int))), (.slice (some ⟨xq32, 0, none⟩) (W * H) (W * H))])) (Ex.loadA rfl T.ag32 T.sz32 (i := 6) rfl (vs := [(.int .i64 (((W : Nat) : Int))), (.int .i64 (((H : Nat) : Int))), (.slice (some ⟨xq32, 0, none⟩) (W * H) (W * H))]) rfl rfl) (by decide) ?_
  refine GL.val (Ex.move rfl) (by decide) ?_
  refine GL.step (Stp.callR (vs := [(.agg #[(.int .i64 (((W : Nat) : Int))), (.int .i64 (((H : Nat) : Int))), (.slice (some ⟨xq30, 0, none⟩) (W * H) (W * H))]), (.int .i64 0), (.agg #[(.int .i64 (((W : Nat) : Int))), (.int .i64 (((H : Nat) : Int))), (.slice (some ⟨xq32, 0, none⟩) (W * H) (W * H))]), (.int .i64 0)]) rfl rfl T.own20 (by decide) (fun wc hw => same_ (((W : Nat) : Int)) (((H : Nat) : Int)) (some ⟨xq30, 0, none⟩) (W * H) (W * H) (((W : Nat) : Int)) (((H : Nat) : Int)) (some ⟨xq32, 0, none⟩) (W * H) (W * H) 0 (flT xs W H) (flT xs W H) wc (by have h' := ((show okP W H from hok)).2.2.2.2; omega) (LsR.blk flT_len (hw.rdOf (i := 1) rfl 0)) (LsR.blk flT_len (hw.rdOf (i := 0) rfl 0)) (by first | rfl | omega) (by first | rfl | omega) (by first | rfl | (simp only [Nat.add_zero])))) (fun xq34 hq35 => ?_)
  refine GL.val (v := (.bool false)) (Ex.cast (Ex.not rfl) rfl) (by decide) ?_
  refine GL.nil ?_
  refine GE.thenN ?_
  refine GC.cond rfl (fun hq36 => by cases hq36) (fun _ => ?_)
  refine GC.skip ?_
  refine GE.thenN ?_
  refine GC.seq ?_
  refine GC.region ?_
  refine GL.val (Ex.move rfl) (by decide) ?_
  refine GL.val (v := (.agg #[(.int .i64 (((W : Nat) : Int))), (.int .i64 (((H : Nat) : Int))), (.slice (some ⟨xq30, 0, none⟩) (W * H) (W * H))])) (Ex.loadA rfl T.ag32 T.sz32 (i := 7) rfl (vs := [(.int .i64 (((W : Nat) : Int))), (.int .i64 (((H : Nat) : Int))), (.slice (some ⟨xq30, 0, none⟩) (W * H) (W * H))]) rfl rfl) (by decide) ?_
  refine GL.val (Ex.move rfl) (by decide) ?_
  refine GL.val (v := (.int .i64 2)) (Ex.add rfl rfl (Z := 2) (by decide)) (by decide) ?_
  refine GL.step (Stp.call (vs := [(.pointer (some ⟨bq7, 0, none⟩)), (.agg #[(.int .i64 (((W : Nat) : Int))), (.int .i64 (((H : Nat) : Int))), (.slice (some ⟨xq30, 0, none⟩) (W * H) (W * H))]), (.int .i64 2)]) rfl rfl T.own21 (by decide) (fun wc hw => book_p11 w _ (((W : Nat) : Int)) (((H : Nat) : Int)) bq7 2 xq30 (W * H) (W * H) ((flT xs W H).map u32) 2 xq28.2.1 xq28.2.2.1 xq28.1.1 xq28.1.2.1 (([(Value.slice none 0 0)]) ++ [(Value.slice (some ⟨xq21, 0, none⟩) (W * H) (W * H))]) xq28.2.2.2 (([(Value.int .i64 0)]) ++ [(Value.int .i64 1)]) xq28.1.2.2 wc (by rw [List.length_map]; exact flT_len) (by have h' := ((show okP W H from hok)).2.2.2.2; omega) (by first | decide | omega) (by first | rfl | omega) (by first | rfl | omega) hq29.1 hq29.2 (hw.pick (idx := [4, 3, 2, 1, 0, 5, 6, 7, 8, 9, 10, 11, 12, 13, 14, 15, 16, 17, 18, 19]) (by decide) rfl))) (fun xq37 hq38 => ?_)
  refine GL.nil ?_
  refine GE.thenN ?_
  refine GC.seq ?_
  refine GC.pick (idx := [0, 1, 2, 3, 5, 6, 7, 8, 9, 10, 11, 12, 13, 14, 15, 16, 17, 18, 19]) (by decide) rfl ?_
  refine GC.region ?_
  refine GL.val (v := (.agg #[(.int .i64 (((W : Nat) : Int))), (.int .i64 (((H : Nat) : Int))), (.slice (some ⟨j.1.2.2.2, 0, none⟩) n (n + 5))])) (Ex.loadA rfl T.ag32 T.sz32 (i := 14) rfl (vs := [(.int .i64 (((W : Nat) : Int))), (.int .i64 (((H : Nat) : Int))), (.slice (some ⟨j.1.2.2.2, 0, none⟩) n (n + 5))]) rfl rfl) (by decide) ?_
  refine GL.step (Stp.callR (vs := [(.agg #[(.int .i64 (((W : Nat) : Int))), (.int .i64 (((H : Nat) : Int))), (.slice (some ⟨j.1.2.2.2, 0, none⟩) n (n + 5))])]) rfl rfl T.own31 (by decide) (fun wc hw => transp W H n (n + 5) j.1.2.2.2 0 xs wc hok hn hx (Rd.lent (hw.rdOf (i := 13) rfl 0)) )) (fun xq39 hq40 => ?_)
  refine GL.val (Ex.move rfl) (by decide) ?_
  refine GL.val (Ex.extract rfl rfl) (by decide) ?_
  refine GL.val (Ex.extract rfl rfl) (by decide) ?_
  refine GL.step (Stp.st7 (cs' := [(.int .i64 (((H : Nat) : Int))), (.int .i64 (((W : Nat) : Int))), (.slice (some ⟨xq39, 0, none⟩) (H * W) (H * W))]) rfl rfl rfl T.sz32 rfl rfl rfl) (fun _ _ => ?_)
  refine GL.val (Ex.assign rfl) (by decide) ?_
  refine GL.nil ?_
  refine GE.thenN ?_
  refine GC.seq ?_
  refine GC.region ?_
  refine GL.val (v := (.agg #[(.int .i64 (((W : Nat) : Int))), (.int .i64 (((H : Nat) : Int))), (.slice (some ⟨b, o, none⟩) n cap)])) (Ex.loadA rfl T.ag32 T.sz32 (i := 19) rfl (vs := [(.int .i64 (((W : Nat) : Int))), (.int .i64 (((H : Nat) : Int))), (.slice (some ⟨b, o, none⟩) n cap)]) rfl rfl) (by decide) ?_
  refine GL.step (Stp.callR (vs := [(.agg #[(.int .i64 (((W : Nat) : Int))), (.int .i64 (((H : Nat) : Int))), (.slice (some ⟨b, o, none⟩) n cap)])]) rfl rfl T.own32 (by decide) (fun wc hw => ref_transp W H n cap b o xs wc hok hn hx (hw.rd hr (fun x => x)) )) (fun xq41 hq42 => ?_)
  refine GL.val (Ex.move rfl) (by decide) ?_
  refine GL.val (Ex.extract rfl rfl) (by decide) ?_
  refine GL.val (Ex.extract rfl rfl) (by decide) ?_
  refine GL.step (Stp.st7 (cs' := [(.int .i64 (((H : Nat) : Int))), (.int .i64 (((W : Nat) : Int))), (.slice (some ⟨xq41, 0, none⟩) (H * W) (H * W))]) rfl rfl rfl T.sz32 rfl rfl rfl) (fun _ _ => ?_)
  refine GL.val (Ex.assign rfl) (by decide) ?_
  refine GL.nil ?_
  refine GE.thenN ?_
  refine GC.seq ?_
  refine GC.seq ?_
  refine GC.region ?_
  refine GL.val (v := (.agg #[(.int .i64 (((H : Nat) : Int))), (.int .i64 (((W : Nat) : Int))), (.slice (some ⟨xq39, 0, none⟩) (H * W) (H * W))])) (Ex.loadA rfl T.ag32 T.sz32 (i := 8) rfl (vs := [(.int .i64 (((H : Nat) : Int))), (.int .i64 (((W : Nat) : Int))), (.slice (some ⟨xq39, 0, none⟩) (H * W) (H * W))]) rfl rfl) (by decide) ?_
  refine GL.val (Ex.move rfl) (by decide) ?_
  refine GL.val (v := (.agg #[(.int .i64 (((H : Nat) : Int))), (.int .i64 (((W : Nat) : Int))), (.slice (some ⟨xq41, 0, none⟩) (H * W) (H * W))])) (Ex.loadA rfl T.ag32 T.sz32 (i := 7) rfl (vs := [(.int .i64 (((H : Nat) : Int))), (.int .i64 (((W : Nat) : Int))), (.slice (some ⟨xq41, 0, none⟩) (H * W) (H * W))]) rfl rfl) (by decide) ?_
  refine GL.val (Ex.move rfl) (by decide) ?_
  refine GL.step (Stp.callR (vs := [(.agg #[(.int .i64 (((H : Nat) : Int))), (.int .i64 (((W : Nat) : Int))), (.slice (some ⟨xq39, 0, none⟩) (H * W) (H * W))]), (.int .i64 0), (.agg #[(.int .i64 (((H : Nat) : Int))), (.int .i64 (((W : Nat) : Int))), (.slice (some ⟨xq41, 0, none⟩) (H * W) (H * W))]), (.int .i64 0)]) rfl rfl T.own20 (by decide) (fun wc hw => same_ (((H : Nat) : Int)) (((W : Nat) : Int)) (some ⟨xq39, 0, none⟩) (H * W) (H * W) (((H : Nat) : Int)) (((W : Nat) : Int)) (some ⟨xq41, 0, none⟩) (H * W) (H * W) 0 (trp xs W H) (trp xs W H) wc (by have h' := ((show okP H W from hok.swap)).2.2.2.2; omega) (LsR.blk trp_len (hw.rdOf (i := 1) rfl 0)) (LsR.blk trp_len (hw.rdOf (i := 0) rfl 0)) (by first | rfl | omega) (by first | rfl | omega) (by first | rfl | (simp only [Nat.add_zero])))) (fun xq43 hq44 => ?_)
  refine GL.val (v := (.bool false)) (Ex.cast (Ex.not rfl) rfl) (by decide) ?_
  refine GL.nil ?_
  refine GE.thenN ?_
  refine GC.cond rfl (fun hq45 => by cases hq45) (fun _ => ?_)
  refine GC.skip ?_
  refine GE.thenN ?_
  refine GC.seq ?_
  refine GC.region ?_
  refine GL.val (Ex.move rfl) (by decide) ?_
  refine GL.val (v := (.agg #[(.int .i64 (((H : Nat) : Int))), (.int .i64 (((W : Nat) : Int))), (.slice (some ⟨xq39, 0, none⟩) (H * W) (H * W))])) (Ex.loadA rfl T.ag32 T.sz32 (i := 8) rfl (vs := [(.int .i64 (((H : Nat) : Int))), (.int .i64 (((W : Nat) : Int))), (.slice (some ⟨xq39, 0, none⟩) (H * W) (H * W))]) rfl rfl) (by decide) ?_
  refine GL.val (Ex.move rfl) (by decide) ?_
  refine GL.val (v := (.int .i64 3)) (Ex.add rfl rfl (Z := 3) (by decide)) (by decide) ?_
  refine GL.step (Stp.call (vs := [(.pointer (some ⟨bq7, 0, none⟩)), (.agg #[(.int .i64 (((H : Nat) : Int))), (.int .i64 (((W : Nat) : Int))), (.slice (some ⟨xq39, 0, none⟩) (H * W) (H * W))]), (.int .i64 3)]) rfl rfl T.own21 (by decide) (fun wc hw => book_p11 w _ (((H : Nat) : Int)) (((W : Nat) : Int)) bq7 3 xq39 (H * W) (H * W) ((trp xs W H).map u32) 3 xq37.2.1 xq37.2.2.1 xq37.1.1 xq37.1.2.1 ((([(Value.slice none 0 0)]) ++ [(Value.slice (some ⟨xq21, 0, none⟩) (W * H) (W * H))]) ++ [(Value.slice (some ⟨xq30, 0, none⟩) (W * H) (W * H))]) xq37.2.2.2 ((([(Value.int .i64 0)]) ++ [(Value.int .i64 1)]) ++ [(Value.int .i64 2)]) xq37.1.2.2 wc (by rw [List.length_map]; exact trp_len) (by have h' := ((show okP H W from hok.swap)).2.2.2.2; omega) (by first | decide | omega) (by first | rfl | omega) (by first | rfl | omega) hq38.1 hq38.2 (hw.pick (idx := [4, 3, 2, 1, 0, 5, 6, 7, 8, 9, 10, 11, 12, 13, 14, 15, 16, 17, 18, 19, 20]) (by decide) rfl))) (fun xq46 hq47 => ?_)
  refine GL.nil ?_
  refine GE.thenN ?_
  refine GC.seq ?_
  refine GC.pick (idx := [0, 1, 2, 3, 5, 6, 7, 8, 9, 10, 11, 12, 13, 14, 15, 16, 17, 18, 19, 20]) (by decide) rfl ?_
  refine GC.region ?_
  refine GL.val (v := (.agg #[(.int .i64 (((W : Nat) : Int))), (.int .i64 (((H : Nat) : Int))), (.slice (some ⟨j.1.2.2.2, 0, none⟩) n (n + 5))])) (Ex.loadA rfl T.ag32 T.sz32 (i := 15) rfl (vs := [(.int .i64 (((W : Nat) : Int))), (.int .i64 (((H : Nat) : Int))), (.slice (some ⟨j.1.2.2.2, 0, none⟩) n (n + 5))]) rfl rfl) (by decide) ?_
  refine GL.val (Ex.move rfl) (by decide) ?_
  refine GL.val (Ex.move rfl) (by decide) ?_
  refine GL.val (v := (.int .i64 (IntKind.i64.wrap (q1 + 0)))) (Ex.add rfl rfl (Z := IntKind.i64.wrap (q1 + 0)) rfl) (by decide) ?_
  refine GL.step (Stp.callR (vs := [(.agg #[(.int .i64 (((W : Nat) : Int))), (.int .i64 (((H : Nat) : Int))), (.slice (some ⟨j.1.2.2.2, 0, none⟩) n (n + 5))]), (.int .i64 (IntKind.i64.wrap (q1 + 0)))]) rfl rfl T.own33 (by decide) (fun wc hw => turn_any W H n (n + 5) j.1.2.2.2 0 xs (IntKind.i64.wrap (q1 + 0)) ((rst (IntKind.i64.wrap (q1 + 0)) 4).toNat) wc hok hn hx (Rd.lent (hw.rdOf (i := 14) rfl 0)) (rst4 (IntKind.i64.wrap (q1 + 0))).2 (rst4 (IntKind.i64.wrap (q1 + 0))).1)) (fun xq48 hq49 => ?_)
  refine GL.val (Ex.move rfl) (by decide) ?_
  refine GL.val (Ex.extract rfl rfl) (by decide) ?_
  refine GL.val (Ex.extract rfl rfl) (by decide) ?_
  refine GL.step (Stp.st8 (cs' := [(.int .i64 (((tW ((rst (IntKind.i64.wrap (q1 + 0)) 4).toNat) W H : Nat) : Int))), (.int .i64 (((tH ((rst (IntKind.i64.wrap (q1 + 0)) 4).toNat) W H : Nat) : Int))), (.slice (some ⟨xq48, 0, none⟩) ((tW ((rst (IntKind.i64.wrap (q1 + 0)) 4).toNat) W H) * (tH ((rst (IntKind.i64.wrap (q1 + 0)) 4).toNat) W H)) ((tW ((rst (IntKind.i64.wrap (q1 + 0)) 4).toNat) W H) * (tH ((rst (IntKind.i64.wrap (q1 + 0)) 4).toNat) W H)))]) rfl rfl rfl T.sz32 rfl rfl rfl) (fun _ _ => ?_)
  refine GL.val (Ex.assign rfl) (by decide) ?_
  refine GL.nil ?_
  refine GE.thenN ?_
  refine GC.seq ?_
  refine GC.region ?_
  refine GL.val (v := (.agg #[(.int .i64 (((W : Nat) : Int))), (.int .i64 (((H : Nat) : Int))), (.slice (some ⟨b, o, none⟩) n cap)])) (Ex.loadA rfl T.ag32 T.sz32 (i := 20) rfl (vs := [(.int .i64 (((W : Nat) : Int))), (.int .i64 (((H : Nat) : Int))), (.slice (some ⟨b, o, none⟩) n cap)]) rfl rfl) (by decide) ?_
  refine GL.val (Ex.move rfl) (by decide) ?_
  refine GL.val (Ex.move rfl) (by decide) ?_
  refine GL.val (v := (.int .i64 (IntKind.i64.wrap (q1 + 0)))) (Ex.add rfl rfl (Z := IntKind.i64.wrap (q1 + 0)) rfl) (by decide) ?_
  refine GL.step (Stp.callR (vs := [(.agg #[(.int .i64 (((W : Nat) : Int))), (.int .i64 (((H : Nat) : Int))), (.slice (some ⟨b, o, none⟩) n cap)]), (.int .i64 (IntKind.i64.wrap (q1 + 0)))]) rfl rfl T.own34 (by decide) (fun wc hw => ref_turn W H n cap b o xs (IntKind.i64.wrap (q1 + 0)) ((rst (IntKind.i64.wrap (q1 + 0)) 4).toNat) wc hok hn hx (hw.rd hr (fun x => x)) (rst4 (IntKind.i64.wrap (q1 + 0))).2 (rst4 (IntKind.i64.wrap (q1 + 0))).1)) (fun xq50 hq51 => ?_)
  refine GL.val (Ex.move rfl) (by decide) ?_
  refine GL.val (Ex.extract rfl rfl) (by decide) ?_
  refine GL.val (Ex.extract rfl rfl) (by decide) ?_
  refine GL.step (Stp.st8 (cs' := [(.int .i64 (((tW ((rst (IntKind.i64.wrap (q1 + 0)) 4).toNat) W H : Nat) : Int))), (.int .i64 (((tH ((rst (IntKind.i64.wrap (q1 + 0)) 4).toNat) W H : Nat) : Int))), (.slice (some ⟨xq50, 0, none⟩) ((tW ((rst (IntKind.i64.wrap (q1 + 0)) 4).toNat) W H) * (tH ((rst (IntKind.i64.wrap (q1 + 0)) 4).toNat) W H)) ((tW ((rst (IntKind.i64.wrap (q1 + 0)) 4).toNat) W H) * (tH ((rst (IntKind.i64.wrap (q1 + 0)) 4).toNat) W H)))]) rfl rfl rfl T.sz32 rfl rfl rfl) (fun _ _ => ?_)
  refine GL.val (Ex.assign rfl) (by decide) ?_
  refine GL.nil ?_
  refine GE.thenN ?_
  refine GC.seq ?_
  refine GC.seq ?_
  refine GC.region ?_
  refine GL.val (v := (.agg #[(.int .i64 (((tW ((rst (IntKind.i64.wrap (q1 + 0)) 4).toNat) W H : Nat) : Int))), (.int .i64 (((tH ((rst (IntKind.i64.wrap (q1 + 0)) 4).toNat) W H : Nat) : Int))), (.slice (some ⟨xq48, 0, none⟩) ((tW ((rst (IntKind.i64.wrap (q1 + 0)) 4).toNat) W H) * (tH ((rst (IntKind.i64.wrap (q1 + 0)) 4).toNat) W H)) ((tW ((rst (IntKind.i64.wrap (q1 + 0)) 4).toNat) W H) * (tH ((rst (IntKind.i64.wrap (q1 + 0)) 4).toNat) W H)))])) (Ex.loadA rfl T.ag32 T.sz32 (i := 9) rfl (vs := [(.int .i64 (((tW ((rst (IntKind.i64.wrap (q1 + 0)) 4).toNat) W H : Nat) : Int))), (.int .i64 (((tH ((rst (IntKind.i64.wrap (q1 + 0)) 4).toNat) W H : Nat) : Int))), (.slice (some ⟨xq48, 0, none⟩) ((tW ((rst (IntKind.i64.wrap (q1 + 0)) 4).toNat) W H) * (tH ((rst (IntKind.i64.wrap (q1 + 0)) 4).toNat) W H)) ((tW ((rst (IntKind.i64.wrap (q1 + 0)) 4).toNat) W H) * (tH ((rst (IntKind.i64.wrap (q1 + 0)) 4).toNat) W H)))]) rfl rfl) (by decide) ?_
  refine GL.val (Ex.move rfl) (by decide) ?_
  refine GL.val (v := (.agg #[(.int .i64 (((tW ((rst (IntKind.i64.wrap (q1 + 0)) 4).toNat) W H : Nat) : Int))), (.int .i64 (((tH ((rst (IntKind.i64.wrap (q1 + 0)) 4).toNat) W H : Nat) : Int))), (.slice (some ⟨xq50, 0, none⟩) ((tW ((rst (IntKind.i64.wrap (q1 + 0)) 4).toNat) W H) * (tH ((rst (IntKind.i64.wrap (q1 + 0)) 4).toNat) W H)) ((tW ((rst (IntKind.i64.wrap (q1 + 0)) 4).toNat) W H) * (tH ((rst (IntKind.i64.wrap (q1 + 0)) 4).toNat) W H)))])) (Ex.loadA rfl T.ag32 T.sz32 (i := 8) rfl (vs := [(.int .i64 (((tW ((rst (IntKind.i64.wrap (q1 + 0)) 4).toNat) W H : Nat) : Int))), (.int .i64 (((tH ((rst (IntKind.i64.wrap (q1 + 0)) 4).toNat) W H : Nat) : Int))), (.slice (some ⟨xq50, 0, none⟩) ((tW ((rst (IntKind.i64.wrap (q1 + 0)) 4).toNat) W H) * (tH ((rst (IntKind.i64.wrap (q1 + 0)) 4).toNat) W H)) ((tW ((rst (IntKind.i64.wrap (q1 + 0)) 4).toNat) W H) * (tH ((rst (IntKind.i64.wrap (q1 + 0)) 4).toNat) W H)))]) rfl rfl) (by decide) ?_
  refine GL.val (Ex.move rfl) (by decide) ?_
  refine GL.step (Stp.callR (vs := [(.agg #[(.int .i64 (((tW ((rst (IntKind.i64.wrap (q1 + 0)) 4).toNat) W H : Nat) : Int))), (.int .i64 (((tH ((rst (IntKind.i64.wrap (q1 + 0)) 4).toNat) W H : Nat) : Int))), (.slice (some ⟨xq48, 0, none⟩) ((tW ((rst (IntKind.i64.wrap (q1 + 0)) 4).toNat) W H) * (tH ((rst (IntKind.i64.wrap (q1 + 0)) 4).toNat) W H)) ((tW ((rst (IntKind.i64.wrap (q1 + 0)) 4).toNat) W H) * (tH ((rst (IntKind.i64.wrap (q1 + 0)) 4).toNat) W H)))]), (.int .i64 0), (.agg #[(.int .i64 (((tW ((rst (IntKind.i64.wrap (q1 + 0)) 4).toNat) W H : Nat) : Int))), (.int .i64 (((tH ((rst (IntKind.i64.wrap (q1 + 0)) 4).toNat) W H : Nat) : Int))), (.slice (some ⟨xq50, 0, none⟩) ((tW ((rst (IntKind.i64.wrap (q1 + 0)) 4).toNat) W H) * (tH ((rst (IntKind.i64.wrap (q1 + 0)) 4).toNat) W H)) ((tW ((rst (IntKind.i64.wrap (q1 + 0)) 4).toNat) W H) * (tH ((rst (IntKind.i64.wrap (q1 + 0)) 4).toNat) W H)))]), (.int .i64 0)]) rfl rfl T.own20 (by decide) (fun wc hw => same_ (((tW ((rst (IntKind.i64.wrap (q1 + 0)) 4).toNat) W H : Nat) : Int)) (((tH ((rst (IntKind.i64.wrap (q1 + 0)) 4).toNat) W H : Nat) : Int)) (some ⟨xq48, 0, none⟩) ((tW ((rst (IntKind.i64.wrap (q1 + 0)) 4).toNat) W H) * (tH ((rst (IntKind.i64.wrap (q1 + 0)) 4).toNat) W H)) ((tW ((rst (IntKind.i64.wrap (q1 + 0)) 4).toNat) W H) * (tH ((rst (IntKind.i64.wrap (q1 + 0)) 4).toNat) W H)) (((tW ((rst (IntKind.i64.wrap (q1 + 0)) 4).toNat) W H : Nat) : Int)) (((tH ((rst (IntKind.i64.wrap (q1 + 0)) 4).toNat) W H : Nat) : Int)) (some ⟨xq50, 0, none⟩) ((tW ((rst (IntKind.i64.wrap (q1 + 0)) 4).toNat) W H) * (tH ((rst (IntKind.i64.wrap (q1 + 0)) 4).toNat) W H)) ((tW ((rst (IntKind.i64.wrap (q1 + 0)) 4).toNat) W H) * (tH ((rst (IntKind.i64.wrap (q1 + 0)) 4).toNat) W H)) 0 (trn ((rst (IntKind.i64.wrap (q1 + 0)) 4).toNat) xs W H) (trn ((rst (IntKind.i64.wrap (q1 + 0)) 4).toNat) xs W H) wc (by have h' := ((show okP (tW ((rst (IntKind.i64.wrap (q1 + 0)) 4).toNat) W H) (tH ((rst (IntKind.i64.wrap (q1 + 0)) 4).toNat) W H) from (okP.turn hok ((rst (IntKind.i64.wrap (q1 + 0)) 4).toNat)))).2.2.2.2; omega) (LsR.blk (trn_len (rst4 _).2) (hw.rdOf (i := 1) rfl 0)) (LsR.blk (trn_len (rst4 _).2) (hw.rdOf (i := 0) rfl 0)) (by first | rfl | omega) (by first | rfl | omega) (by first | rfl | (simp only [Nat.add_zero])))) (fun xq52 hq53 => ?_)
  refine GL.val (v := (.bool false)) (Ex.cast (Ex.not rfl) rfl) (by decide) ?_
  refine GL.nil ?_
  refine GE.thenN ?_
  refine GC.cond rfl (fun hq54 => by cases hq54) (fun _ => ?_)
  refine GC.skip ?_
  refine GE.thenN ?_
  refine GC.region ?_
  refine GL.val (Ex.move rfl) (by decide) ?_
  refine GL.val (v := (.agg #[(.int .i64 (((tW ((rst (IntKind.i64.wrap (q1 + 0)) 4).toNat) W H : Nat) : Int))), (.int .i64 (((tH ((rst (IntKind.i64.wrap (q1 + 0)) 4).toNat) W H : Nat) : Int))), (.slice (some ⟨xq48, 0, none⟩) ((tW ((rst (IntKind.i64.wrap (q1 + 0)) 4).toNat) W H) * (tH ((rst (IntKind.i64.wrap (q1 + 0)) 4).toNat) W H)) ((tW ((rst (IntKind.i64.wrap (q1 + 0)) 4).toNat) W H) * (tH ((rst (IntKind.i64.wrap (q1 + 0)) 4).toNat) W H)))])) (Ex.loadA rfl T.ag32 T.sz32 (i := 9) rfl (vs := [(.int .i64 (((tW ((rst (IntKind.i64.wrap (q1 + 0)) 4).toNat) W H : Nat) : Int))), (.int .i64 (((tH ((rst (IntKind.i64.wrap (q1 + 0)) 4).toNat) W H : Nat) : Int))), (.slice (some ⟨xq48, 0, none⟩) ((tW ((rst (IntKind.i64.wrap (q1 + 0)) 4).toNat) W H) * (tH ((rst (IntKind.i64.wrap (q1 + 0)) 4).toNat) W H)) ((tW ((rst (IntKind.i64.wrap (q1 + 0)) 4).toNat) W H) * (tH ((rst (IntKind.i64.wrap (q1 + 0)) 4).toNat) W H)))]) rfl rfl) (by decide) ?_
  refine GL.val (Ex.move rfl) (by decide) ?_
  refine GL.val (v := (.int .i64 4)) (Ex.add rfl rfl (Z := 4) (by decide)) (by decide) ?_
  refine GL.step (Stp.call (vs := [(.pointer (some ⟨bq7, 0, none⟩)), (.agg #[(.int .i64 (((tW ((rst (IntKind.i64.wrap (q1 + 0)) 4).toNat) W H : Nat) : Int))), (.int .i64 (((tH ((rst (IntKind.i64.wrap (q1 + 0)) 4).toNat) W H : Nat) : Int))), (.slice (some ⟨xq48, 0, none⟩) ((tW ((rst (IntKind.i64.wrap (q1 + 0)) 4).toNat) W H) * (tH ((rst (IntKind.i64.wrap (q1 + 0)) 4).toNat) W H)) ((tW ((rst (IntKind.i64.wrap (q1 + 0)) 4).toNat) W H) * (tH ((rst (IntKind.i64.wrap (q1 + 0)) 4).toNat) W H)))]), (.int .i64 4)]) rfl rfl T.own21 (by decide) (fun wc hw => book_p11 w _ (((tW ((rst (IntKind.i64.wrap (q1 + 0)) 4).toNat) W H : Nat) : Int)) (((tH ((rst (IntKind.i64.wrap (q1 + 0)) 4).toNat) W H : Nat) : Int)) bq7 4 xq48 ((tW ((rst (IntKind.i64.wrap (q1 + 0)) 4).toNat) W H) * (tH ((rst (IntKind.i64.wrap (q1 + 0)) 4).toNat) W H)) ((tW ((rst (IntKind.i64.wrap (q1 + 0)) 4).toNat) W H) * (tH ((rst (IntKind.i64.wrap (q1 + 0)) 4).toNat) W H)) ((trn ((rst (IntKind.i64.wrap (q1 + 0)) 4).toNat) xs W H).map u32) 4 xq46.2.1 xq46.2.2.1 xq46.1.1 xq46.1.2.1 (((([(Value.slice none 0 0)]) ++ [(Value.slice (some ⟨xq21, 0, none⟩) (W * H) (W * H))]) ++ [(Value.slice (some ⟨xq30, 0, none⟩) (W * H) (W * H))]) ++ [(Value.slice (some ⟨xq39, 0, none⟩) (H * W) (H * W))]) xq46.2.2.2 (((([(Value.int .i64 0)]) ++ [(Value.int .i64 1)]) ++ [(Value.int .i64 2)]) ++ [(Value.int .i64 3)]) xq46.1.2.2 wc (by rw [List.length_map]; exact (trn_len (rst4 _).2)) (by have h' := ((show okP (tW ((rst (IntKind.i64.wrap (q1 + 0)) 4).toNat) W H) (tH ((rst (IntKind.i64.wrap (q1 + 0)) 4).toNat) W H) from (okP.turn hok ((rst (IntKind.i64.wrap (q1 + 0)) 4).toNat)))).2.2.2.2; omega) (by first | decide | omega) (by first | rfl | omega) (by first | rfl | omega) hq47.1 hq47.2 (hw.pick (idx := [4, 3, 2, 1, 0, 5, 6, 7, 8, 9, 10, 11, 12, 13, 14, 15, 16, 17, 18, 19, 20, 21]) (by decide) rfl))) (fun xq55 hq56 => ?_)
  refine GL.nil ?_
  refine GE.blockN ?_
  refine GE.thenN ?_
  refine GC.region ?_
  refine GL.val (Ex.move rfl) (by decide) ?_
  refine GL.val (v := (.int .i64 1)) (Ex.add rfl rfl (Z := 1) (by decide)) (by decide) ?_
  refine GL.val (Ex.assign rfl) (by decide) ?_
  refine GL.nil ?_
  refine GE.thenN ?_
  refine GE.round ?_
  refine GC.seq ?_
  refine GC.seq ?_
  refine GC.region ?_
  refine GL.val (Ex.move rfl) (by decide) ?_
  refine GL.val (v := (.bool true)) (Ex.cast (Ex.lss rfl rfl) rfl) (by decide) ?_
  refine GL.nil ?_
  refine GE.thenN ?_
  refine GC.cond rfl (fun _ => ?_) (fun hq57 => by cases hq57)
  refine GC.skip ?_
  refine GE.thenN ?_
  refine GC.seq ?_
  refine GC.block ?_
  refine GC.seq ?_
  refine GC.region ?_
  refine GL.val (Ex.move rfl) (by decide) ?_
  refine GL.val (v := (.int .i64 100)) (Ex.mul rfl rfl (Z := 100) (by decide)) (by decide) ?_
  refine GL.val (Ex.assign rfl) (by decide) ?_
  refine GL.nil ?_
  refine GE.thenN ?_
  refine GC.seq ?_
  refine GC.pick (idx := [0, 1, 2, 3, 5, 6, 7, 8, 9, 10, 11, 12, 13, 14, 15, 16, 17, 18, 19, 20, 21]) (by decide) rfl ?_
  refine GC.region ?_
  refine GL.val (v := (.agg #[(.int .i64 (((W : Nat) : Int))), (.int .i64 (((H : Nat) : Int))), (.slice (some ⟨j.1.2.2.2, 0, none⟩) n (n + 5))])) (Ex.loadA rfl T.ag32 T.sz32 (i := 16) rfl (vs := [(.int .i64 (((W : Nat) : Int))), (.int .i64 (((H : Nat) : Int))), (.slice (some ⟨j.1.2.2.2, 0, none⟩) n (n + 5))]) rfl rfl) (by decide) ?_
  refine GL.val (v := (.agg #[(.int .i64 X0), (.int .i64 Y0), (.int .i64 X1), (.int .i64 Y1)])) (Ex.loadA rfl T.ag54 T.sz54 (i := 18) rfl (vs := [(.int .i64 X0), (.int .i64 Y0), (.int .i64 X1), (.int .i64 Y1)]) rfl rfl) (by decide) ?_
  refine GL.step (Stp.callR (vs := [(.agg #[(.int .i64 (((W : Nat) : Int))), (.int .i64 (((H : Nat) : Int))), (.slice (some ⟨j.1.2.2.2, 0, none⟩) n (n + 5))]), (.agg #[(.int .i64 X0), (.int .i64 Y0), (.int .i64 X1), (.int .i64 Y1)])]) rfl rfl T.own24 (by decide) (fun wc hw => crop_out W H n (n + 5) (some ⟨j.1.2.2.2, 0, none⟩) X0 Y0 X1 Y1 wc hok hn hR)) (fun xq58 hq59 => ?_)
  refine GL.val (Ex.move rfl) (by decide) ?_
  refine GL.val (Ex.extract rfl rfl) (by decide) ?_
  refine GL.val (Ex.extract rfl rfl) (by decide) ?_
  refine GL.step (Stp.alloc T.zr32 (by decide)) (fun bq60 _ => ?_)
  refine GL.step (Stp.st0 (cs' := [(.int .i64 0), (.int .i64 0), (.slice none 0 0)]) rfl rfl rfl T.sz32 rfl rfl rfl) (fun _ _ => ?_)
  refine GL.val (Ex.assign rfl) (by decide) ?_
  refine GL.nil ?_
  refine GE.thenN ?_
  refine GC.seq ?_
  refine GC.region ?_
  refine GL.val (v := (.agg #[(.int .i64 (((W : Nat) : Int))), (.int .i64 (((H : Nat) : Int))), (.slice (some ⟨b, o, none⟩) n cap)])) (Ex.loadA rfl T.ag32 T.sz32 (i := 21) rfl (vs := [(.int .i64 (((W : Nat) : Int))), (.int .i64 (((H : Nat) : Int))), (.slice (some ⟨b, o, none⟩) n cap)]) rfl rfl) (by decide) ?_
  refine GL.val (v := (.agg #[(.int .i64 X0), (.int .i64 Y0), (.int .i64 X1), (.int .i64 Y1)])) (Ex.loadA rfl T.ag54 T.sz54 (i := 19) rfl (vs := [(.int .i64 X0), (.int .i64 Y0), (.int .i64 X1), (.int .i64 Y1)]) rfl rfl) (by decide) ?_
  refine GL.step (Stp.callR (vs := [(.agg #[(.int .i64 (((W : Nat) : Int))), (.int .i64 (((H : Nat) : Int))), (.slice (some ⟨b, o, none⟩) n cap)]), (.agg #[(.int .i64 X0), (.int .i64 Y0), (.int .i64 X1), (.int .i64 Y1)])]) rfl rfl T.own27 (by decide) (fun wc hw => ref_crop_out W H n cap (some ⟨b, o, none⟩) X0 Y0 X1 Y1 wc hok hn hR)) (fun xq61 hq62 => ?_)
  refine GL.val (Ex.move rfl) (by decide) ?_
  refine GL.val (Ex.extract rfl rfl) (by decide) ?_
  refine GL.val (Ex.extract rfl rfl) (by decide) ?_
  refine GL.step (Stp.alloc T.zr32 (by decide)) (fun bq63 _ => ?_)
  refine GL.step (Stp.st0 (cs' := [(.int .i64 0), (.int .i64 0), (.slice none 0 0)]) rfl rfl rfl T.sz32 rfl rfl rfl) (fun _ _ => ?_)
  refine GL.val (Ex.assign rfl) (by decide) ?_
  refine GL.nil ?_
  refine GE.thenN ?_
  refine GC.seq ?_
  refine GC.seq ?_
  refine GC.region ?_
  refine GL.val (v := (.agg #[(.int .i64 0), (.int .i64 0), (.slice none 0 0)])) (Ex.loadA rfl T.ag32 T.sz32 (i := 1) rfl (vs := [(.int .i64 0), (.int .i64 0), (.slice none 0 0)]) rfl rfl) (by decide) ?_
  refine GL.val (Ex.move rfl) (by decide) ?_
  refine GL.val (v := (.agg #[(.int .i64 0), (.int .i64 0), (.slice none 0 0)])) (Ex.loadA rfl T.ag32 T.sz32 (i := 0) rfl (vs := [(.int .i64 0), (.int .i64 0), (.slice none 0 0)]) rfl rfl) (by decide) ?_
  refine GL.val (Ex.move rfl) (by decide) ?_
  refine GL.step (Stp.callR (vs := [(.agg #[(.int .i64 0), (.int .i64 0), (.slice none 0 0)]), (.int .i64 52), (.agg #[(.int .i64 0), (.int .i64 0), (.slice none 0 0)]), (.int .i64 52)]) rfl rfl T.own20 (by decide) (fun wc hw => same_ 0 0 none 0 0 0 0 none 0 0 52 ([]) ([]) wc (by decide) (LsR.nil _ _) (LsR.nil _ _) (by first | rfl | omega) (by first | rfl | omega) (by first | rfl | (simp only [Nat.add_zero])))) (fun xq64 hq65 => ?_)
  refine GL.val (v := (.bool false)) (Ex.cast (Ex.not rfl) rfl) (by decide) ?_
  refine GL.nil ?_
  refine GE.thenN ?_
  refine GC.cond rfl (fun hq66 => by cases hq66) (fun _ => ?_)
  refine GC.skip ?_
  refine GE.thenN ?_
  refine GC.seq ?_
  refine GC.region ?_
  refine GL.val (Ex.move rfl) (by decide) ?_
  refine GL.val (v := (.agg #[(.int .i64 0), (.int .i64 0), (.slice none 0 0)])) (Ex.loadA rfl T.ag32 T.sz32 (i := 1) rfl (vs := [(.int .i64 0), (.int .i64 0), (.slice none 0 0)]) rfl rfl) (by decide) ?_
  refine GL.val (Ex.move rfl) (by decide) ?_
  refine GL.step (Stp.call (vs := [(.pointer (some ⟨bq7, 0, none⟩)), (.agg #[(.int .i64 0), (.int .i64 0), (.slice none 0 0)]), (.int .i64 100)]) rfl rfl T.own21 (by decide) (fun wc hw => book_p10 w _ 0 0 bq7 100 5 xq55.2.1 xq55.2.2.1 xq55.1.1 xq55.1.2.1 ((((([(Value.slice none 0 0)]) ++ [(Value.slice (some ⟨xq21, 0, none⟩) (W * H) (W * H))]) ++ [(Value.slice (some ⟨xq30, 0, none⟩) (W * H) (W * H))]) ++ [(Value.slice (some ⟨xq39, 0, none⟩) (H * W) (H * W))]) ++ [(Value.slice (some ⟨xq48, 0, none⟩) ((tW ((rst (IntKind.i64.wrap (q1 + 0)) 4).toNat) W H) * (tH ((rst (IntKind.i64.wrap (q1 + 0)) 4).toNat) W H)) ((tW ((rst (IntKind.i64.wrap (q1 + 0)) 4).toNat) W H) * (tH ((rst (IntKind.i64.wrap (q1 + 0)) 4).toNat) W H)))]) xq55.2.2.2 ((((([(Value.int .i64 0)]) ++ [(Value.int .i64 1)]) ++ [(Value.int .i64 2)]) ++ [(Value.int .i64 3)]) ++ [(Value.int .i64 4)]) xq55.1.2.2 wc (by first | decide | omega) (by first | rfl | omega) (by first | rfl | omega) hq56.1 hq56.2 (hw.pick (idx := [4, 3, 2, 0, 1, 5, 6, 7, 8, 9, 10, 11, 12, 13, 14, 15, 16, 17, 18, 19, 20, 21, 22]) (by decide) rfl))) (fun xq67 hq68 => ?_)
  refine GL.nil ?_
  refine GE.thenN ?_
  refine GC.seq ?_
  refine GC.pick (idx := [0, 1, 2, 3, 4, 5, 6, 7, 8, 11, 12, 13, 14, 15, 16, 17, 18, 19, 20, 21, 22]) (by decide) rfl ?_
  refine GC.region ?_
  refine GL.val (v := (.agg #[(.int .i64 (((W : Nat) : Int))), (.int .i64 (((H : Nat) : Int))), (.slice (some ⟨j.1.2.2.2, 0, none⟩) n (n + 5))])) (Ex.loadA rfl T.ag32 T.sz32 (i := 16) rfl (vs := [(.int .i64 (((W : Nat) : Int))), (.int .i64 (((H : Nat) : Int))), (.slice (some ⟨j.1.2.2.2, 0, none⟩) n (n + 5))]) rfl rfl) (by decide) ?_
  refine GL.val (v := (.agg #[(.int .i64 (((V : Nat) : Int))), (.int .i64 (((U : Nat) : Int))), (.slice (some ⟨j.2.1.2.2.2, 0, none⟩) m (m + 5))])) (Ex.loadA rfl T.ag32 T.sz32 (i := 17) rfl (vs := [(.int .i64 (((V : Nat) : Int))), (.int .i64 (((U : Nat) : Int))), (.slice (some ⟨j.2.1.2.2.2, 0, none⟩) m (m + 5))]) rfl rfl) (by decide) ?_
  refine GL.val (Ex.move rfl) (by decide) ?_
  refine GL.val (Ex.move rfl) (by decide) ?_
  refine GL.step (Stp.callR (vs := [(.agg #[(.int .i64 (((W : Nat) : Int))), (.int .i64 (((H : Nat) : Int))), (.slice (some ⟨j.1.2.2.2, 0, none⟩) n (n + 5))]), (.agg #[(.int .i64 (((V : Nat) : Int))), (.int .i64 (((U : Nat) : Int))), (.slice (some ⟨j.2.1.2.2.2, 0, none⟩) m (m + 5))]), (.int .i64 x), (.int .i64 y)]) rfl rfl T.own25 (by decide) (fun wc hw => paste W H n (n + 5) j.1.2.2.2 0 V U m (m + 5) j.2.1.2.2.2 0 xs ys x y wc hok hn hx (Rd.lent (hw.rdOf (i := 15) rfl 0)) hok2 hn2 hl2.1 (Rd.lent (hw.rdOf (i := 12) rfl 0)) hxb hyb)) (fun xq69 hq70 => ?_)
  refine GL.val (Ex.move rfl) (by decide) ?_
  refine GL.val (Ex.extract rfl rfl) (by decide) ?_
  refine GL.val (Ex.extract rfl rfl) (by decide) ?_
  refine GL.step (Stp.st5 (cs' := [(.int .i64 (((W : Nat) : Int))), (.int .i64 (((H : Nat) : Int))), (.slice (some ⟨xq69, 0, none⟩) (W * H) (W * H))]) rfl rfl rfl T.sz32 rfl rfl rfl) (fun _ _ => ?_)
  refine GL.val (Ex.assign rfl) (by decide) ?_
  refine GL.nil ?_
  refine GE.thenN ?_
  refine GC.seq ?_
  refine GC.region ?_
  refine GL.val (v := (.agg #[(.int .i64 (((W : Nat) : Int))), (.int .i64 (((H : Nat) : Int))), (.slice (some ⟨b, o, none⟩) n cap)])) (Ex.loadA rfl T.ag32 T.sz32 (i := 21) rfl (vs := [(.int .i64 (((W : Nat) : Int))), (.int .i64 (((H : Nat) : Int))), (.slice (some ⟨b, o, none⟩) n cap)]) rfl rfl) (by decide) ?_
  refine GL.val (v := (.agg #[(.int .i64 (((V : Nat) : Int))), (.int .i64 (((U : Nat) : Int))), (.slice (some ⟨b2, o2, none⟩) m cap2)])) (Ex.loadA rfl T.ag32 T.sz32 (i := 20) rfl (vs := [(.int .i64 (((V : Nat) : Int))), (.int .i64 (((U : Nat) : Int))), (.slice (some ⟨b2, o2, none⟩) m cap2)]) rfl rfl) (by decide) ?_
  refine GL.val (Ex.move rfl) (by decide) ?_
  refine GL.val (Ex.move rfl) (by decide) ?_
  refine GL.step (Stp.callR (vs := [(.agg #[(.int .i64 (((W : Nat) : Int))), (.int .i64 (((H : Nat) : Int))), (.slice (some ⟨b, o, none⟩) n cap)]), (.agg #[(.int .i64 (((V : Nat) : Int))), (.int .i64 (((U : Nat) : Int))), (.slice (some ⟨b2, o2, none⟩) m cap2)]), (.int .i64 x), (.int .i64 y)]) rfl rfl T.own28 (by decide) (fun wc hw => ref_paste W H n cap b o V U m cap2 b2 o2 xs ys x y wc hok hn hx (hw.rd hr (fun x => x)) hok2 hn2 hl2.1 (hw.rd hr2 (fun x => x)))) (fun xq71 hq72 => ?_)
  refine GL.val (Ex.move rfl) (by decide) ?_
  refine GL.val (Ex.extract rfl rfl) (by decide) ?_
  refine GL.val (Ex.extract rfl rfl) (by decide) ?_
  refine GL.step (Stp.st5 (cs' := [(.int .i64 (((W : Nat) : Int))), (.int .i64 (((H : Nat) : Int))), (.slice (some ⟨xq71, 0, none⟩) (W * H) (W * H))]) rfl rfl rfl T.sz32 rfl rfl rfl) (fun _ _ => ?_)
  refine GL.val (Ex.assign rfl) (by decide) ?_
  refine GL.nil ?_
  refine GE.thenN ?_
  refine GC.seq ?_
  refine GC.seq ?_
  refine GC.region ?_
  refine GL.val (v := (.agg #[(.int .i64 (((W : Nat) : Int))), (.int .i64 (((H : Nat) : Int))), (.slice (some ⟨xq69, 0, none⟩) (W * H) (W * H))])) (Ex.loadA rfl T.ag32 T.sz32 (i := 6) rfl (vs := [(.int .i64 (((W : Nat) : Int))), (.int .i64 (((H : Nat) : Int))), (.slice (some ⟨xq69, 0, none⟩) (W * H) (W * H))]) rfl rfl) (by decide) ?_
  refine GL.val (Ex.move rfl) (by decide) ?_
  refine GL.val (v := (.agg #[(.int .i64 (((W : Nat) : Int))), (.int .i64 (((H : Nat) : Int))), (.slice (some ⟨xq71, 0, none⟩) (W * H) (W * H))])) (Ex.loadA rfl T.ag32 T.sz32 (i := 5) rfl (vs := [(.int .i64 (((W : Nat) : Int))), (.int .i64 (((H : Nat) : Int))), (.slice (some ⟨xq71, 0, none⟩) (W * H) (W * H))]) rfl rfl) (by decide) ?_
  refine GL.val (Ex.move rfl) (by decide) ?_
  refine GL.step (Stp.callR (vs := [(.agg #[(.int .i64 (((W : Nat) : Int))), (.int .i64 (((H : Nat) : Int))), (.slice (some ⟨xq69, 0, none⟩) (W * H) (W * H))]), (.int .i64 0), (.agg #[(.int .i64 (((W : Nat) : Int))), (.int .i64 (((H : Nat) : Int))), (.slice (some ⟨xq71, 0, none⟩) (W * H) (W * H))]), (.int .i64 0)]) rfl rfl T.own20 (by decide) (fun wc hw => same_ (((W : Nat) : Int)) (((H : Nat) : Int)) (some ⟨xq69, 0, none⟩) (W * H) (W * H) (((W : Nat) : Int)) (((H : Nat) : Int)) (some ⟨xq71, 0, none⟩) (W * H) (W * H) 0 (pstd xs ys W H V U x y) (pstd xs ys W H V U x y) wc (by have h' := ((show okP W H from hok)).2.2.2.2; omega) (LsR.blk (tab_len _ _ _) (hw.rdOf (i := 1) rfl 0)) (LsR.blk (tab_len _ _ _) (hw.rdOf (i := 0) rfl 0)) (by first | rfl | omega) (by first | rfl | omega) (by first | rfl | (simp only [Nat.add_zero])))) (fun xq73 hq74 => ?_)
  refine GL.val (v := (.bool false)) (Ex.cast (Ex.not rfl) rfl) (by decide) ?_
  refine GL.nil ?_
  refine GE.thenN ?_
  refine GC.cond rfl (fun hq75 => by cases hq75) (fun _ => ?_)
  refine GC.skip ?_
  refine GE.thenN ?_
  refine GC.seq ?_
  refine GC.region ?_
  refine GL.val (Ex.move rfl) (by decide) ?_
  refine GL.val (v := (.agg #[(.int .i64 (((W : Nat) : Int))), (.int .i64 (((H : Nat) : Int))), (.slice (some ⟨xq69, 0, none⟩) (W * H) (W * H))])) (Ex.loadA rfl T.ag32 T.sz32 (i := 6) rfl (vs := [(.int .i64 (((W : Nat) : Int))), (.int .i64 (((H : Nat) : Int))), (.slice (some ⟨xq69, 0, none⟩) (W * H) (W * H))]) rfl rfl) (by decide) ?_
  refine GL.val (Ex.move rfl) (by decide) ?_
  refine GL.val (v := (.int .i64 101)) (Ex.add rfl rfl (Z := 101) (by decide)) (by decide) ?_
  refine GL.step (Stp.call (vs := [(.pointer (some ⟨bq7, 0, none⟩)), (.agg #[(.int .i64 (((W : Nat) : Int))), (.int .i64 (((H : Nat) : Int))), (.slice (some ⟨xq69, 0, none⟩) (W * H) (W * H))]), (.int .i64 101)]) rfl rfl T.own21 (by decide) (fun wc hw => book_p11 w _ (((W : Nat) : Int)) (((H : Nat) : Int)) bq7 101 xq69 (W * H) (W * H) ((pstd xs ys W H V U x y).map u32) 6 xq67.2.1 xq67.2.2.1 xq67.1.1 xq67.1.2.1 (((((([(Value.slice none 0 0)]) ++ [(Value.slice (some ⟨xq21, 0, none⟩) (W * H) (W * H))]) ++ [(Value.slice (some ⟨xq30, 0, none⟩) (W * H) (W * H))]) ++ [(Value.slice (some ⟨xq39, 0, none⟩) (H * W) (H * W))]) ++ [(Value.slice (some ⟨xq48, 0, none⟩) ((tW ((rst (IntKind.i64.wrap (q1 + 0)) 4).toNat) W H) * (tH ((rst (IntKind.i64.wrap (q1 + 0)) 4).toNat) W H)) ((tW ((rst (IntKind.i64.wrap (q1 + 0)) 4).toNat) W H) * (tH ((rst (IntKind.i64.wrap (q1 + 0)) 4).toNat) W H)))]) ++ [(Value.slice none 0 0)]) xq67.2.2.2 (((((([(Value.int .i64 0)]) ++ [(Value.int .i64 1)]) ++ [(Value.int .i64 2)]) ++ [(Value.int .i64 3)]) ++ [(Value.int .i64 4)]) ++ [(Value.int .i64 100)]) xq67.1.2.2 wc (by rw [List.length_map]; exact (tab_len _ _ _)) (by have h' := ((show okP W H from hok)).2.2.2.2; omega) (by first | decide | omega) (by first | rfl | omega) (by first | rfl | omega) hq68.1 hq68.2 (hw.pick (idx := [4, 3, 2, 1, 0, 5, 6, 7, 8, 9, 10, 11, 12, 13, 14, 15, 16, 17, 18, 19, 20, 21, 22]) (by decide) rfl))) (fun xq76 hq77 => ?_)
  refine GL.nil ?_
  refine GE.thenN ?_
  refine GC.seq ?_
  refine GC.pick (idx := [0, 1, 2, 3, 5, 6, 7, 8, 9, 10, 11, 12, 13, 14, 15, 16, 17, 18, 19, 20, 21, 22]) (by decide) rfl ?_
  refine GC.region ?_
  refine GL.val (v := (.agg #[(.int .i64 (((W : Nat) : Int))), (.int .i64 (((H : Nat) : Int))), (.slice (some ⟨j.1.2.2.2, 0, none⟩) n (n + 5))])) (Ex.loadA rfl T.ag32 T.sz32 (i := 17) rfl (vs := [(.int .i64 (((W : Nat) : Int))), (.int .i64 (((H : Nat) : Int))), (.slice (some ⟨j.1.2.2.2, 0, none⟩) n (n + 5))]) rfl rfl) (by decide) ?_
  refine GL.val (Ex.move rfl) (by decide) ?_
  refine GL.val (v := (.bool false)) (Ex.cast (Ex.eql rfl rfl) rfl) (by decide) ?_
  refine GL.step (Stp.callR (vs := [(.agg #[(.int .i64 (((W : Nat) : Int))), (.int .i64 (((H : Nat) : Int))), (.slice (some ⟨j.1.2.2.2, 0, none⟩) n (n + 5))]), (.bool false)]) rfl rfl T.own29 (by decide) (fun wc hw => flipF W H n (n + 5) j.1.2.2.2 0 xs wc hok hn hx (Rd.lent (hw.rdOf (i := 16) rfl 0)) )) (fun xq78 hq79 => ?_)
  refine GL.val (Ex.move rfl) (by decide) ?_
  refine GL.val (Ex.extract rfl rfl) (by decide) ?_
  refine GL.val (Ex.extract rfl rfl) (by decide) ?_
  refine GL.step (Stp.st6 (cs' := [(.int .i64 (((W : Nat) : Int))), (.int .i64 (((H : Nat) : Int))), (.slice (some ⟨xq78, 0, none⟩) (W * H) (W * H))]) rfl rfl rfl T.sz32 rfl rfl rfl) (fun _ _ => ?_)
  refine GL.val (Ex.assign rfl) (by decide) ?_
  refine GL.nil ?_
  refine GE.thenN ?_
  refine GC.seq ?_
  refine GC.region ?_
  refine GL.val (v := (.agg #[(.int .i64 (((W : Nat) : Int))), (.int .i64 (((H : Nat) : Int))), (.slice (some ⟨b, o, none⟩) n cap)])) (Ex.loadA rfl T.ag32 T.sz32 (i := 22) rfl (vs := [(.int .i64 (((W : Nat) : Int))), (.int .i64 (((H : Nat) : Int))), (.slice (some ⟨b, o, none⟩) n cap)]) rfl rfl) (by decide) ?_
  refine GL.val (Ex.move rfl) (by decide) ?_
  refine GL.val (v := (.bool false)) (Ex.cast (Ex.eql rfl rfl) rfl) (by decide) ?_
  refine GL.step (Stp.callR (vs := [(.agg #[(.int .i64 (((W : Nat) : Int))), (.int .i64 (((H : Nat) : Int))), (.slice (some ⟨b, o, none⟩) n cap)]), (.bool false)]) rfl rfl T.own30 (by decide) (fun wc hw => ref_flipF W H n cap b o xs wc hok hn hx (hw.rd hr (fun x => x)) )) (fun xq80 hq81 => ?_)
  refine GL.val (Ex.move rfl) (by decide) ?_
  refine GL.val (Ex.extract rfl rfl) (by decide) ?_
  refine GL.val (Ex.extract rfl rfl) (by decide) ?_
  refine GL.step (Stp.st6 (cs' := [(.int .i64 (((W : Nat) : Int))), (.int .i64 (((H : Nat) : Int))), (.slice (some ⟨xq80, 0, none⟩) (W * H) (W * H))]) rfl rfl rfl T.sz32 rfl rfl rfl) (fun _ _ => ?_)
  refine GL.val (Ex.assign rfl) (by decide) ?_
  refine GL.nil ?_
  refine GE.thenN ?_
  refine GC.seq ?_
  refine GC.seq ?_
  refine GC.region ?_
  refine GL.val (v := (.agg #[(.int .i64 (((W : Nat) : Int))), (.int .i64 (((H : Nat) : Int))), (.slice (some ⟨xq78, 0, none⟩) (W * H) (W * H))])) (Ex.loadA rfl T.ag32 T.sz32 (i := 7) rfl (vs := [(.int .i64 (((W : Nat) : Int))), (.int .i64 (((H : Nat) : Int))), (.slice (some ⟨xq78, 0, none⟩) (W * H) (W * H))]) rfl rfl) (by decide) ?_
  refine GL.val (Ex.move rfl) (by decide) ?_
  refine GL.val (v := (.agg #[(.int .i64 (((W : Nat) : Int))), (.int .i64 (((H : Nat) : Int))), (.slice (some ⟨xq80, 0, none⟩) (W * H) (W * H))])) (Ex.loadA rfl T.ag32 T.sz32 (i := 6) rfl (vs := [(.int .i64 (((W : Nat) : Int))), (.int .i64 (((H : Nat) : Int))), (.slice (some ⟨xq80, 0, none⟩) (W * H) (W * H))]) rfl rfl) (by decide) ?_
  refine GL.val (Ex.move rfl) (by decide) ?_
  refine GL.step (Stp.callR (vs := [(.agg #[(.int .i64 (((W : Nat) : Int))), (.int .i64 (((H : Nat) : Int))), (.slice (some ⟨xq78, 0, none⟩) (W * H) (W * H))]), (.int .i64 0), (.agg #[(.int .i64 (((W : Nat) : Int))), (.int .i64 (((H : Nat) : Int))), (.slice (some ⟨xq80, 0, none⟩) (W * H) (W * H))]), (.int .i64 0)]) rfl rfl T.own20 (by decide) (fun wc hw => same_ (((W : Nat) : Int)) (((H : Nat) : Int)) (some ⟨xq78, 0, none⟩) (W * H) (W * H) (((W : Nat) : Int)) (((H : Nat) : Int)) (some ⟨xq80, 0, none⟩) (W * H) (W * H) 0 (flF xs W H) (flF xs W H) wc (by have h' := ((show okP W H from hok)).2.2.2.2; omega) (LsR.blk flF_len (hw.rdOf (i := 1) rfl 0)) (LsR.blk flF_len (hw.rdOf (i := 0) rfl 0)) (by first | rfl | omega) (by first | rfl | omega) (by first | rfl | (simp only [Nat.add_zero])))) (fun xq82 hq83 => ?_)
  refine GL.val (v := (.bool false)) (Ex.cast (Ex.not rfl) rfl) (by decide) ?_
  refine GL.nil ?_
  refine GE.thenN ?_
  refine GC.cond rfl (fun hq84 => by cases hq84) (fun _ => ?_)
  refine GC.skip ?_
  refine GE.thenN ?_
  refine GC.seq ?_
  refine GC.region ?_
  refine GL.val (Ex.move rfl) (by decide) ?_
  refine GL.val (v := (.agg #[(.int .i64 (((W : Nat) : Int))), (.int .i64 (((H : Nat) : Int))), (.slice (some ⟨xq78, 0, none⟩) (W * H) (W * H))])) (Ex.loadA rfl T.ag32 T.sz32 (i := 7) rfl (vs := [(.int .i64 (((W : Nat) : Int))), (.int .i64 (((H : Nat) : Int))), (.slice (some ⟨xq78, 0, none⟩) (W * H) (W * H))]) rfl rfl) (by decide) ?_
  refine GL.val (Ex.move rfl) (by decide) ?_
  refine GL.val (v := (.int .i64 102)) (Ex.add rfl rfl (Z := 102) (by decide)) (by decide) ?_
  refine GL.step (Stp.call (vs := [(.pointer (some ⟨bq7, 0, none⟩)), (.agg #[(.int .i64 (((W : Nat) : Int))), (.int .i64 (((H : Nat) : Int))), (.slice (some ⟨xq78, 0, none⟩) (W * H) (W * H))]), (.int .i64 102)]) rfl rfl T.own21 (by decide) (fun wc hw => book_p11 w _ (((W : Nat) : Int)) (((H : Nat) : Int)) bq7 102 xq78 (W * H) (W * H) ((flF xs W H).map u32) 7 xq76.2.1 xq76.2.2.1 xq76.1.1 xq76.1.2.1 ((((((([(Value.slice none 0 0)]) ++ [(Value.slice (some ⟨xq21, 0, none⟩) (W * H) (W * H))]) ++ [(Value.slice (some ⟨xq30, 0, none⟩) (W * H) (W * H))]) ++ [(Value.slice (some ⟨xq39, 0, none⟩) (H * W) (H * W))]) ++ [(Value.slice (some ⟨xq48, 0, none⟩) ((tW ((rst (IntKind.i64.wrap (q1 + 0)) 4).toNat) W H) * (tH ((rst (IntKind.i64.wrap (q1 + 0)) 4).toNat) W H)) ((tW ((rst (IntKind.i64.wrap (q1 + 0)) 4).toNat) W H) * (tH ((rst (IntKind.i64.wrap (q1 + 0)) 4).toNat) W H)))]) ++ [(Value.slice none 0 0)]) ++ [(Value.slice (some ⟨xq69, 0, none⟩) (W * H) (W * H))]) xq76.2.2.2 ((((((([(Value.int .i64 0)]) ++ [(Value.int .i64 1)]) ++ [(Value.int .i64 2)]) ++ [(Value.int .i64 3)]) ++ [(Value.int .i64 4)]) ++ [(Value.int .i64 100)]) ++ [(Value.int .i64 101)]) xq76.1.2.2 wc (by rw [List.length_map]; exact flF_len) (by have h' := ((show okP W H from hok)).2.2.2.2; omega) (by first | decide | omega) (by first | rfl | omega) (by first | rfl | omega) hq77.1 hq77.2 (hw.pick (idx := [4, 3, 2, 1, 0, 5, 6, 7, 8, 9, 10, 11, 12, 13, 14, 15, 16, 17, 18, 19, 20, 21, 22, 23]) (by decide) rfl))) (fun xq85 hq86 => ?_)
  refine GL.nil ?_
  refine GE.thenN ?_
  refine GC.seq ?_
  refine GC.pick (idx := [0, 1, 2, 3, 5, 6, 7, 8, 9, 10, 11, 12, 13, 14, 15, 16, 17, 18, 19, 20, 21, 22, 23]) (by decide) rfl ?_
  refine GC.region ?_
  refine GL.val (v := (.agg #[(.int .i64 (((W : Nat) : Int))), (.int .i64 (((H : Nat) : Int))), (.slice (some ⟨j.1.2.2.2, 0, none⟩) n (n + 5))])) (Ex.loadA rfl T.ag32 T.sz32 (i := 18) rfl (vs := [(.int .i64 (((W : Nat) : Int))), (.int .i64 (((H : Nat) : Int))), (.slice (some ⟨j.1.2.2.2, 0, none⟩) n (n + 5))]) rfl rfl) (by decide) ?_
  refine GL.step (Stp.callR (vs := [(.agg #[(.int .i64 (((W : Nat) : Int))), (.int .i64 (((H : Nat) : Int))), (.slice (some ⟨j.1.2.2.2, 0, none⟩) n (n + 5))])]) rfl rfl T.own31 (by decide) (fun wc hw => transp W H n (n + 5) j.1.2.2.2 0 xs wc hok hn hx (Rd.lent (hw.rdOf (i := 17) rfl 0)) )) (fun xq87 hq88 => ?_)
  refine GL.val (Ex.move rfl) (by decide) ?_
  refine GL.val (Ex.extract rfl rfl) (by decide) ?_
  refine GL.val (Ex.extract rfl rfl) (by decide) ?_
  refine GL.step (Stp.st7 (cs' := [(.int .i64 (((H : Nat) : Int))), (.int .i64 (((W : Nat) : Int))), (.slice (some ⟨xq87, 0, none⟩) (H * W) (H * W))]) rfl rfl rfl T.sz32 rfl rfl rfl) (fun _ _ => ?_)
  refine GL.val (Ex.assign rfl) (by decide) ?_
  refine GL.nil ?_
  refine GE.thenN ?_
  refine GC.seq ?_
  refine GC.region ?_
  refine GL.val (v := (.agg #[(.int .i64 (((W : Nat) : Int))), (.int .i64 (((H : Nat) : Int))), (.slice (some ⟨b, o, none⟩) n cap)])) (Ex.loadA rfl T.ag32 T.sz32 (i := 23) rfl (vs := [(.int .i64 (((W : Nat) : Int))), (.int .i64 (((H : Nat) : Int))), (.slice (some ⟨b, o, none⟩) n cap)]) rfl rfl) (by decide) ?_
  refine GL.step (Stp.callR (vs := [(.agg #[(.int .i64 (((W : Nat) : Int))), (.int .i64 (((H : Nat) : Int))), (.slice (some ⟨b, o, none⟩) n cap)])]) rfl rfl T.own32 (by decide) (fun wc hw => ref_transp W H n cap b o xs wc hok hn hx (hw.rd hr (fun x => x)) )) (fun xq89 hq90 => ?_)
  refine GL.val (Ex.move rfl) (by decide) ?_
  refine GL.val (Ex.extract rfl rfl) (by decide) ?_
  refine GL.val (Ex.extract rfl rfl) (by decide) ?_
  refine GL.step (Stp.st7 (cs' := [(.int .i64 (((H : Nat) : Int))), (.int .i64 (((W : Nat) : Int))), (.slice (some ⟨xq89, 0, none⟩) (H * W) (H * W))]) rfl rfl rfl T.sz32 rfl rfl rfl) (fun _ _ => ?_)
  refine GL.val (Ex.assign rfl) (by decide) ?_
  refine GL.nil ?_
  refine GE.thenN ?_
  refine GC.seq ?_
  refine GC.seq ?_
  refine GC.region ?_
  refine GL.val (v := (.agg #[(.int .i64 (((H : Nat) : Int))), (.int .i64 (((W : Nat) : Int))), (.slice (some ⟨xq87, 0, none⟩) (H * W) (H * W))])) (Ex.loadA rfl T.ag32 T.sz32 (i := 8) rfl (vs := [(.int .i64 (((H : Nat) : Int))), (.int .i64 (((W : Nat) : Int))), (.slice (some ⟨xq87, 0, none⟩) (H * W) (H * W))]) rfl rfl) (by decide) ?_
  refine GL.val (Ex.move rfl) (by decide) ?_
  refine GL.val (v := (.agg #[(.int .i64 (((H : Nat) : Int))), (.int .i64 (((W : Nat) : Int))), (.slice (some ⟨xq89, 0, none⟩) (H * W) (H * W))])) (Ex.loadA rfl T.ag32 T.sz32 (i := 7) rfl (vs := [(.int .i64 (((H : Nat) : Int))), (.int .i64 (((W : Nat) : Int))), (.slice (some ⟨xq89, 0, none⟩) (H * W) (H * W))]) rfl rfl) (by decide) ?_
  refine GL.val (Ex.move rfl) (by decide) ?_
  refine GL.step (Stp.callR (vs := [(.agg #[(.int .i64 (((H : Nat) : Int))), (.int .i64 (((W : Nat) : Int))), (.slice (some ⟨xq87, 0, none⟩) (H * W) (H * W))]), (.int .i64 0), (.agg #[(.int .i64 (((H : Nat) : Int))), (.int .i64 (((W : Nat) : Int))), (.slice (some ⟨xq89, 0, none⟩) (H * W) (H * W))]), (.int .i64 0)]) rfl rfl T.own20 (by decide) (fun wc hw => same_ (((H : Nat) : Int)) (((W : Nat) : Int)) (some ⟨xq87, 0, none⟩) (H * W) (H * W) (((H : Nat) : Int)) (((W : Nat) : Int)) (some ⟨xq89, 0, none⟩) (H * W) (H * W) 0 (trp xs W H) (trp xs W H) wc (by have h' := ((show okP H W from hok.swap)).2.2.2.2; omega) (LsR.blk trp_len (hw.rdOf (i := 1) rfl 0)) (LsR.blk trp_len (hw.rdOf (i := 0) rfl 0)) (by first | rfl | omega) (by first | rfl | omega) (by first | rfl | (simp only [Nat.add_zero])))) (fun xq91 hq92 => ?_)
  refine GL.val (v := (.bool false)) (Ex.cast (Ex.not rfl) rfl) (by decide) ?_
  refine GL.nil ?_
  refine GE.thenN ?_
  refine GC.cond rfl (fun hq93 => by cases hq93) (fun _ => ?_)
  refine GC.skip ?_
  refine GE.thenN ?_
  refine GC.seq ?_
  refine GC.region ?_
  refine GL.val (Ex.move rfl) (by decide) ?_
  refine GL.val (v := (.agg #[(.int .i64 (((H : Nat) : Int))), (.int .i64 (((W : Nat) : Int))), (.slice (some ⟨xq87, 0, none⟩) (H * W) (H * W))])) (Ex.loadA rfl T.ag32 T.sz32 (i := 8) rfl (vs := [(.int .i64 (((H : Nat) : Int))), (.int .i64 (((W : Nat) : Int))), (.slice (some ⟨xq87, 0, none⟩) (H * W) (H * W))]) rfl rfl) (by decide) ?_
  refine GL.val (Ex.move rfl) (by decide) ?_
  refine GL.val (v := (.int .i64 103)) (Ex.add rfl rfl (Z := 103) (by decide)) (by decide) ?_
  refine GL.step (Stp.call (vs := [(.pointer (some ⟨bq7, 0, none⟩)), (.agg #[(.int .i64 (((H : Nat) : Int))), (.int .i64 (((W : Nat) : Int))), (.slice (some ⟨xq87, 0, none⟩) (H * W) (H * W))]), (.int .i64 103)]) rfl rfl T.own21 (by decide) (fun wc hw => book_p11 w _ (((H : Nat) : Int)) (((W : Nat) : Int)) bq7 103 xq87 (H * W) (H * W) ((trp xs W H).map u32) 8 xq85.2.1 xq85.2.2.1 xq85.1.1 xq85.1.2.1 (((((((([(Value.slice none 0 0)]) ++ [(Value.slice (some ⟨xq21, 0, none⟩) (W * H) (W * H))]) ++ [(Value.slice (some ⟨xq30, 0, none⟩) (W * H) (W * H))]) ++ [(Value.slice (some ⟨xq39, 0, none⟩) (H * W) (H * W))]) ++ [(Value.slice (some ⟨xq48, 0, none⟩) ((tW ((rst (IntKind.i64.wrap (q1 + 0)) 4).toNat) W H) * (tH ((rst (IntKind.i64.wrap (q1 + 0)) 4).toNat) W H)) ((tW ((rst (IntKind.i64.wrap (q1 + 0)) 4).toNat) W H) * (tH ((rst (IntKind.i64.wrap (q1 + 0)) 4).toNat) W H)))]) ++ [(Value.slice none 0 0)]) ++ [(Value.slice (some ⟨xq69, 0, none⟩) (W * H) (W * H))]) ++ [(Value.slice (some ⟨xq78, 0, none⟩) (W * H) (W * H))]) xq85.2.2.2 (((((((([(Value.int .i64 0)]) ++ [(Value.int .i64 1)]) ++ [(Value.int .i64 2)]) ++ [(Value.int .i64 3)]) ++ [(Value.int .i64 4)]) ++ [(Value.int .i64 100)]) ++ [(Value.int .i64 101)]) ++ [(Value.int .i64 102)]) xq85.1.2.2 wc (by rw [List.length_map]; exact trp_len) (by have h' := ((show okP H W from hok.swap)).2.2.2.2; omega) (by first | decide | omega) (by first | rfl | omega) (by first | rfl | omega) hq86.1 hq86.2 (hw.pick (idx := [4, 3, 2, 1, 0, 5, 6, 7, 8, 9, 10, 11, 12, 13, 14, 15, 16, 17, 18, 19, 20, 21, 22, 23, 24]) (by decide) rfl))) (fun xq94 hq95 => ?_)
  refine GL.nil ?_
  refine GE.thenN ?_
  refine GC.seq ?_
  refine GC.pick (idx := [0, 1, 2, 3, 5, 6, 7, 8, 9, 10, 11, 12, 13, 14, 15, 16, 17, 18, 19, 20, 21, 22, 23, 24]) (by decide) rfl ?_
  refine GC.region ?_
  refine GL.val (v := (.agg #[(.int .i64 (((W : Nat) : Int))), (.int .i64 (((H : Nat) : Int))), (.slice (some ⟨j.1.2.2.2, 0, none⟩) n (n + 5))])) (Ex.loadA rfl T.ag32 T.sz32 (i := 19) rfl (vs := [(.int .i64 (((W : Nat) : Int))), (.int .i64 (((H : Nat) : Int))), (.slice (some ⟨j.1.2.2.2, 0, none⟩) n (n + 5))]) rfl rfl) (by decide) ?_
  refine GL.val (Ex.move rfl) (by decide) ?_
  refine GL.val (Ex.move rfl) (by decide) ?_
  refine GL.val (v := (.int .i64 (IntKind.i64.wrap (q1 + 1)))) (Ex.add rfl rfl (Z := IntKind.i64.wrap (q1 + 1)) rfl) (by decide) ?_
  refine GL.step (Stp.callR (vs := [(.agg #[(.int .i64 (((W : Nat) : Int))), (.int .i64 (((H : Nat) : Int))), (.slice (some ⟨j.1.2.2.2, 0, none⟩) n (n + 5))]), (.int .i64 (IntKind.i64.wrap (q1 + 1)))]) rfl rfl T.own33 (by decide) (fun wc hw => turn_any W H n (n + 5) j.1.2.2.2 0 xs (IntKind.i64.wrap (q1 + 1)) ((rst (IntKind.i64.wrap (q1 + 1)) 4).toNat) wc hok hn hx (Rd.lent (hw.rdOf (i := 18) rfl 0)) (rst4 (IntKind.i64.wrap (q1 + 1))).2 (rst4 (IntKind.i64.wrap (q1 + 1))).1)) (fun xq96 hq97 => ?_)
  refine GL.val (Ex.move rfl) (by decide) ?_
  refine GL.val (Ex.extract rfl rfl) (by decide) ?_
  refine GL.val (Ex.extract rfl rfl) (by decide) ?_
  refine GL.step (Stp.st8 (cs' := [(.int .i64 (((tW ((rst (IntKind.i64.wrap (q1 + 1)) 4).toNat) W H : Nat) : Int))), (.int .i64 (((tH ((rst (IntKind.i64.wrap (q1 + 1)) 4).toNat) W H : Nat) : Int))), (.slice (some ⟨xq96, 0, none⟩) ((tW ((rst (IntKind.i64.wrap (q1 + 1)) 4).toNat) W H) * (tH ((rst (IntKind.i64.wrap (q1 + 1)) 4).toNat) W H)) ((tW ((rst (IntKind.i64.wrap (q1 + 1)) 4).toNat) W H) * (tH ((rst (IntKind.i64.wrap (q1 + 1)) 4).toNat) W H)))]) rfl rfl rfl T.sz32 rfl rfl rfl) (fun _ _ => ?_)
  refine GL.val (Ex.assign rfl) (by decide) ?_
  refine GL.nil ?_
  refine GE.thenN ?_
  refine GC.seq ?_
  refine GC.region ?_
  refine GL.val (v := (.agg #[(.int .i64 (((W : Nat) : Int))), (.int .i64 (((H : Nat) : Int))), (.slice (some ⟨b, o, none⟩) n cap)])) (Ex.loadA rfl T.ag32 T.sz32 (i := 24) rfl (vs := [(.int .i64 (((W : Nat) : Int))), (.int .i64 (((H : Nat) : Int))), (.slice (some ⟨b, o, none⟩) n cap)]) rfl rfl) (by decide) ?_
  refine GL.val (Ex.move rfl) (by decide) ?_
  refine GL.val (Ex.move rfl) (by decide) ?_
  refine GL.val (v := (.int .i64 (IntKind.i64.wrap (q1 + 1)))) (Ex.add rfl rfl (Z := IntKind.i64.wrap (q1 + 1)) rfl) (by decide) ?_
  refine GL.step (Stp.callR (vs := [(.agg #[(.int .i64 (((W : Nat) : Int))), (.int .i64 (((H : Nat) : Int))), (.slice (some ⟨b, o, none⟩) n cap)]), (.int .i64 (IntKind.i64.wrap (q1 + 1)))]) rfl rfl T.own34 (by decide) (fun wc hw => ref_turn W H n cap b o xs (IntKind.i64.wrap (q1 + 1)) ((rst (IntKind.i64.wrap (q1 + 1)) 4).toNat) wc hok hn hx (hw.rd hr (fun x => x)) (rst4 (IntKind.i64.wrap (q1 + 1))).2 (rst4 (IntKind.i64.wrap (q1 + 1))).1)) (fun xq98 hq99 => ?_)
  refine GL.val (Ex.move rfl) (by decide) ?_
  refine GL.val (Ex.extract rfl rfl) (by decide) ?_
  refine GL.val (Ex.extract rfl rfl) (by decide) ?_
  refine GL.step (Stp.st8 (cs' := [(.int .i64 (((tW ((rst (IntKind.i64.wrap (q1 + 1)) 4).toNat) W H : Nat) : Int))), (.int .i64 (((tH ((rst (IntKind.i64.wrap (q1 + 1)) 4).toNat) W H : Nat) : Int))), (.slice (some ⟨xq98, 0, none⟩) ((tW ((rst (IntKind.i64.wrap (q1 + 1)) 4).toNat) W H) * (tH ((rst (IntKind.i64.wrap (q1 + 1)) 4).toNat) W H)) ((tW ((rst (IntKind.i64.wrap (q1 + 1)) 4).toNat) W H) * (tH ((rst (IntKind.i64.wrap (q1 + 1)) 4).toNat) W H)))]) rfl rfl rfl T.sz32 rfl rfl rfl) (fun _ _ => ?_)
  refine GL.val (Ex.assign rfl) (by decide) ?_
  refine GL.nil ?_
  refine GE.thenN ?_
  refine GC.seq ?_
  refine GC.seq ?_
  refine GC.region ?_
  refine GL.val (v := (.agg #[(.int .i64 (((tW ((rst (IntKind.i64.wrap (q1 + 1)) 4).toNat) W H : Nat) : Int))), (.int .i64 (((tH ((rst (IntKind.i64.wrap (q1 + 1)) 4).toNat) W H : Nat) : Int))), (.slice (some ⟨xq96, 0, none⟩) ((tW ((rst (IntKind.i64.wrap (q1 + 1)) 4).toNat) W H) * (tH ((rst (IntKind.i64.wrap (q1 + 1)) 4).toNat) W H)) ((tW ((rst (IntKind.i64.wrap (q1 + 1)) 4).toNat) W H) * (tH ((rst (IntKind.i64.wrap (q1 + 1)) 4).toNat) W H)))])) (Ex.loadA rfl T.ag32 T.sz32 (i := 9) rfl (vs := [(.int .i64 (((tW ((rst (IntKind.i64.wrap (q1 + 1)) 4).toNat) W H : Nat) : Int))), (.int .i64 (((tH ((rst (IntKind.i64.wrap (q1 + 1)) 4).toNat) W H : Nat) : Int))), (.slice (some ⟨xq96, 0, none⟩) ((tW ((rst (IntKind.i64.wrap (q1 + 1)) 4).toNat) W H) * (tH ((rst (IntKind.i64.wrap (q1 + 1)) 4).toNat) W H)) ((tW ((rst (IntKind.i64.wrap (q1 + 1)) 4).toNat) W H) * (tH ((rst (IntKind.i64.wrap (q1 + 1)) 4).toNat) W H)))]) rfl rfl) (by decide) ?_
  refine GL.val (Ex.move rfl) (by decide) ?_
  refine GL.val (v := (.agg #[(.int .i64 (((tW ((rst (IntKind.i64.wrap (q1 + 1)) 4).toNat) W H : Nat) : Int))), (.int .i64 (((tH ((rst (IntKind.i64.wrap (q1 + 1)) 4).toNat) W H : Nat) : Int))), (.slice (some ⟨xq98, 0, none⟩) ((tW ((rst (IntKind.i64.wrap (q1 + 1)) 4).toNat) W H) * (tH ((rst (IntKind.i64.wrap (q1 + 1)) 4).toNat) W H)) ((tW ((rst (IntKind.i64.wrap (q1 + 1)) 4).toNat) W H) * (tH ((rst (IntKind.i64.wrap (q1 + 1)) 4).toNat) W H)))])) (Ex.loadA rfl T.ag32 T.sz32 (i := 8) rfl (vs := [(.int .i64 (((tW ((rst (IntKind.i64.wrap (q1 + 1)) 4).toNat) W H : Nat) : Int))), (.int .i64 (((tH ((rst (IntKind.i64.wrap (q1 + 1)) 4).toNat) W H : Nat) : Int))), (.slice (some ⟨xq98, 0, none⟩) ((tW ((rst (IntKind.i64.wrap (q1 + 1)) 4).toNat) W H) * (tH ((rst (IntKind.i64.wrap (q1 + 1)) 4).toNat) W H)) ((tW ((rst (IntKind.i64.wrap (q1 + 1)) 4).toNat) W H) * (tH ((rst (IntKind.i64.wrap (q1 + 1)) 4).toNat) W H)))]) rfl rfl) (by decide) ?_
  refine GL.val (Ex.move rfl) (by decide) ?_
  refine GL.step (Stp.callR (vs := [(.agg #[(.int .i64 (((tW ((rst (IntKind.i64.wrap (q1 + 1)) 4).toNat) W H : Nat) : Int))), (.int .i64 (((tH ((rst (IntKind.i64.wrap (q1 + 1)) 4).toNat) W H : Nat) : Int))), (.slice (some ⟨xq96, 0, none⟩) ((tW ((rst (IntKind.i64.wrap (q1 + 1)) 4).toNat) W H) * (tH ((rst (IntKind.i64.wrap (q1 + 1)) 4).toNat) W H)) ((tW ((rst (IntKind.i64.wrap (q1 + 1)) 4).toNat) W H) * (tH ((rst (IntKind.i64.wrap (q1 + 1)) 4).toNat) W H)))]), (.int .i64 0), (.agg #[(.int .i64 (((tW ((rst (IntKind.i64.wrap (q1 + 1)) 4).toNat) W H : Nat) : Int))), (.int .i64 (((tH ((rst (IntKind.i64.wrap (q1 + 1)) 4).toNat) W H : Nat) : Int))), (.slice (some ⟨xq98, 0, none⟩) ((tW ((rst (IntKind.i64.wrap (q1 + 1)) 4).toNat) W H) * (tH ((rst (IntKind.i64.wrap (q1 + 1)) 4).toNat) W H)) ((tW ((rst (IntKind.i64.wrap (q1 + 1)) 4).toNat) W H) * (tH ((rst (IntKind.i64.wrap (q1 + 1)) 4).toNat) W H)))]), (.int .i64 0)]) rfl rfl T.own20 (by decide) (fun wc hw => same_ (((tW ((rst (IntKind.i64.wrap (q1 + 1)) 4).toNat) W H : Nat) : Int)) (((tH ((rst (IntKind.i64.wrap (q1 + 1)) 4).toNat) W H : Nat) : Int)) (some ⟨xq96, 0, none⟩) ((tW ((rst (IntKind.i64.wrap (q1 + 1)) 4).toNat) W H) * (tH ((rst (IntKind.i64.wrap (q1 + 1)) 4).toNat) W H)) ((tW ((rst (IntKind.i64.wrap (q1 + 1)) 4).toNat) W H) * (tH ((rst (IntKind.i64.wrap (q1 + 1)) 4).toNat) W H)) (((tW ((rst (IntKind.i64.wrap (q1 + 1)) 4).toNat) W H : Nat) : Int)) (((tH ((rst (IntKind.i64.wrap (q1 + 1)) 4).toNat) W H : Nat) : Int)) (some ⟨xq98, 0, none⟩) ((tW ((rst (IntKind.i64.wrap (q1 + 1)) 4).toNat) W H) * (tH ((rst (IntKind.i64.wrap (q1 + 1)) 4).toNat) W H)) ((tW ((rst (IntKind.i64.wrap (q1 + 1)) 4).toNat) W H) * (tH ((rst (IntKind.i64.wrap (q1 + 1)) 4).toNat) W H)) 0 (trn ((rst (IntKind.i64.wrap (q1 + 1)) 4).toNat) xs W H) (trn ((rst (IntKind.i64.wrap (q1 + 1)) 4).toNat) xs W H) wc (by have h' := ((show okP (tW ((rst (IntKind.i64.wrap (q1 + 1)) 4).toNat) W H) (tH ((rst (IntKind.i64.wrap (q1 + 1)) 4).toNat) W H) from (okP.turn hok ((rst (IntKind.i64.wrap (q1 + 1)) 4).toNat)))).2.2.2.2; omega) (LsR.blk (trn_len (rst4 _).2) (hw.rdOf (i := 1) rfl 0)) (LsR.blk (trn_len (rst4 _).2) (hw.rdOf (i := 0) rfl 0)) (by first | rfl | omega) (by first | rfl | omega) (by first | rfl | (simp only [Nat.add_zero])))) (fun xq100 hq101 => ?_)
  refine GL.val (v := (.bool false)) (Ex.cast (Ex.not rfl) rfl) (by decide) ?_
  refine GL.nil ?_
  refine GE.thenN ?_
  refine GC.cond rfl (fun hq102 => by cases hq102) (fun _ => ?_)
  refine GC.skip ?_
  refine GE.thenN ?_
  refine GC.region ?_
  refine GL.val (Ex.move rfl) (by decide) ?_
  refine GL.val (v := (.agg #[(.int .i64 (((tW ((rst (IntKind.i64.wrap (q1 + 1)) 4).toNat) W H : Nat) : Int))), (.int .i64 (((tH ((rst (IntKind.i64.wrap (q1 + 1)) 4).toNat) W H : Nat) : Int))), (.slice (some ⟨xq96, 0, none⟩) ((tW ((rst (IntKind.i64.wrap (q1 + 1)) 4).toNat) W H) * (tH ((rst (IntKind.i64.wrap (q1 + 1)) 4).toNat) W H)) ((tW ((rst (IntKind.i64.wrap (q1 + 1)) 4).toNat) W H) * (tH ((rst (IntKind.i64.wrap (q1 + 1)) 4).toNat) W H)))])) (Ex.loadA rfl T.ag32 T.sz32 (i := 9) rfl (vs := [(.int .i64 (((tW ((rst (IntKind.i64.wrap (q1 + 1)) 4).toNat) W H : Nat) : Int))), (.int .i64 (((tH ((rst (IntKind.i64.wrap (q1 + 1)) 4).toNat) W H : Nat) : Int))), (.slice (some ⟨xq96, 0, none⟩) ((tW ((rst (IntKind.i64.wrap (q1 + 1)) 4).toNat) W H) * (tH ((rst (IntKind.i64.wrap (q1 + 1)) 4).toNat) W H)) ((tW ((rst (IntKind.i64.wrap (q1 + 1)) 4).toNat) W H) * (tH ((rst (IntKind.i64.wrap (q1 + 1)) 4).toNat) W H)))]) rfl rfl) (by decide) ?_
  refine GL.val (Ex.move rfl) (by decide) ?_
  refine GL.val (v := (.int .i64 104)) (Ex.add rfl rfl (Z := 104) (by decide)) (by decide) ?_
  refine GL.step (Stp.call (vs := [(.pointer (some ⟨bq7, 0, none⟩)), (.agg #[(.int .i64 (((tW ((rst (IntKind.i64.wrap (q1 + 1)) 4).toNat) W H : Nat) : Int))), (.int .i64 (((tH ((rst (IntKind.i64.wrap (q1 + 1)) 4).toNat) W H : Nat) : Int))), (.slice (some ⟨xq96, 0, none⟩) ((tW ((rst (IntKind.i64.wrap (q1 + 1)) 4).toNat) W H) * (tH ((rst (IntKind.i64.wrap (q1 + 1)) 4).toNat) W H)) ((tW ((rst (IntKind.i64.wrap (q1 + 1)) 4).toNat) W H) * (tH ((rst (IntKind.i64.wrap (q1 + 1)) 4).toNat) W H)))]), (.int .i64 104)]) rfl rfl T.own21 (by decide) (fun wc hw => book_p11 w _ (((tW ((rst (IntKind.i64.wrap (q1 + 1)) 4).toNat) W H : Nat) : Int)) (((tH ((rst (IntKind.i64.wrap (q1 + 1)) 4).toNat) W H : Nat) : Int)) bq7 104 xq96 ((tW ((rst (IntKind.i64.wrap (q1 + 1)) 4).toNat) W H) * (tH ((rst (IntKind.i64.wrap (q1 + 1)) 4).toNat) W H)) ((tW ((rst (IntKind.i64.wrap (q1 + 1)) 4).toNat) W H) * (tH ((rst (IntKind.i64.wrap (q1 + 1)) 4).toNat) W H)) ((trn ((rst (IntKind.i64.wrap (q1 + 1)) 4).toNat) xs W H).map u32) 9 xq94.2.1 xq94.2.2.1 xq94.1.1 xq94.1.2.1 ((((((((([(Value.slice none 0 0)]) ++ [(Value.slice (some ⟨xq21, 0, none⟩) (W * H) (W * H))]) ++ [(Value.slice (some ⟨xq30, 0, none⟩) (W * H) (W * H))]) ++ [(Value.slice (some ⟨xq39, 0, none⟩) (H * W) (H * W))]) ++ [(Value.slice (some ⟨xq48, 0, none⟩) ((tW ((rst (IntKind.i64.wrap (q1 + 0)) 4).toNat) W H) * (tH ((rst (IntKind.i64.wrap (q1 + 0)) 4).toNat) W H)) ((tW ((rst (IntKind.i64.wrap (q1 + 0)) 4).toNat) W H) * (tH ((rst (IntKind.i64.wrap (q1 + 0)) 4).toNat) W H)))]) ++ [(Value.slice none 0 0)]) ++ [(Value.slice (some ⟨xq69, 0, none⟩) (W * H) (W * H))]) ++ [(Value.slice (some ⟨xq78, 0, none⟩) (W * H) (W * H))]) ++ [(Value.slice (some ⟨xq87, 0, none⟩) (H * W) (H * W))]) xq94.2.2.2 ((((((((([(Value.int .i64 0)]) ++ [(Value.int .i64 1)]) ++ [(Value.int .i64 2)]) ++ [(Value.int .i64 3)]) ++ [(Value.int .i64 4)]) ++ [(Value.int .i64 100)]) ++ [(Value.int .i64 101)]) ++ [(Value.int .i64 102)]) ++ [(Value.int .i64 103)]) xq94.1.2.2 wc (by rw [List.length_map]; exact (trn_len (rst4 _).2)) (by have h' := ((show okP (tW ((rst (IntKind.i64.wrap (q1 + 1)) 4).toNat) W H) (tH ((rst (IntKind.i64.wrap (q1 + 1)) 4).toNat) W H) from (okP.turn hok ((rst (IntKind.i64.wrap (q1 + 1)) 4).toNat)))).2.2.2.2; omega) (by first | decide | omega) (by first | rfl | omega) (by first | rfl | omega) hq95.1 hq95.2 (hw.pick (idx := [4, 3, 2, 1, 0, 5, 6, 7, 8, 9, 10, 11, 12, 13, 14, 15, 16, 17, 18, 19, 20, 21, 22, 23, 24, 25]) (by decide) rfl))) (fun xq103 hq104 => ?_)
  refine GL.nil ?_
  refine GE.blockN ?_
  refine GE.thenN ?_
  refine GC.region ?_
  refine GL.val (Ex.move rfl) (by decide) ?_
  refine GL.val (v := (.int .i64 2)) (Ex.add rfl rfl (Z := 2) (by decide)) (by decide) ?_
  refine GL.val (Ex.assign rfl) (by decide) ?_
  refine GL.nil ?_
  refine GE.thenN ?_
  refine GE.round ?_
  refine GC.seq ?_
  refine GC.seq ?_
  refine GC.region ?_
  refine GL.val (Ex.move rfl) (by decide) ?_
  refine GL.val (v := (.bool false)) (Ex.cast (Ex.lss rfl rfl) rfl) (by decide) ?_
  refine GL.nil ?_
  refine GE.thenN ?_
  refine GC.cond rfl (fun hq105 => by cases hq105) (fun _ => ?_)
  refine GC.exit ?_
  refine GE.thenE ?_
  refine GE.thenE ?_
  refine GE.blockE ?_
  refine GE.thenN ?_
  refine GC.seq ?_
  refine GC.region ?_
  refine GL.val (Ex.move rfl) (by decide) ?_
  refine GL.step (Stp.callR (vs := [(.pointer (some ⟨bq7, 0, none⟩))]) rfl rfl T.own22 (by decide) (fun wc hw => book_hold bq7 10 xq103.2.1 xq103.2.2.1 xq103.1.1 xq103.1.2.1 ([⟨none, 0, 0⟩, ⟨(some ⟨xq21, 0, none⟩), W * H, 1⟩, ⟨(some ⟨xq30, 0, none⟩), W * H, 2⟩, ⟨(some ⟨xq39, 0, none⟩), H * W, 3⟩, ⟨(some ⟨xq48, 0, none⟩), (tW ((rst (IntKind.i64.wrap (q1 + 0)) 4).toNat) W H) * (tH ((rst (IntKind.i64.wrap (q1 + 0)) 4).toNat) W H), 4⟩, ⟨none, 0, 100⟩, ⟨(some ⟨xq69, 0, none⟩), W * H, 101⟩, ⟨(some ⟨xq78, 0, none⟩), W * H, 102⟩, ⟨(some ⟨xq87, 0, none⟩), H * W, 103⟩, ⟨(some ⟨xq96, 0, none⟩), (tW ((rst (IntKind.i64.wrap (q1 + 1)) 4).toNat) W H) * (tH ((rst (IntKind.i64.wrap (q1 + 1)) 4).toNat) W H), 104⟩] : List It) xq103.2.2.2 xq103.1.2.2 wc rfl (by decide) (it_cons (it_nil _) (it_cons (it_blk (by have h' := ((show okP W H from hok)).2.2.2.2; omega) (hw.rdOf (i := 13) rfl 0)) (it_cons (it_blk (by have h' := ((show okP W H from hok)).2.2.2.2; omega) (hw.rdOf (i := 12) rfl 0)) (it_cons (it_blk (by have h' := ((show okP H W from hok.swap)).2.2.2.2; omega) (hw.rdOf (i := 11) rfl 0)) (it_cons (it_blk (by have h' := ((show okP (tW ((rst (IntKind.i64.wrap (q1 + 0)) 4).toNat) W H) (tH ((rst (IntKind.i64.wrap (q1 + 0)) 4).toNat) W H) from (okP.turn hok ((rst (IntKind.i64.wrap (q1 + 0)) 4).toNat)))).2.2.2.2; omega) (hw.rdOf (i := 10) rfl 0)) (it_cons (it_nil _) (it_cons (it_blk (by have h' := ((show okP W H from hok)).2.2.2.2; omega) (hw.rdOf (i := 7) rfl 0)) (it_cons (it_blk (by have h' := ((show okP W H from hok)).2.2.2.2; omega) (hw.rdOf (i := 6) rfl 0)) (it_cons (it_blk (by have h' := ((show okP H W from hok.swap)).2.2.2.2; omega) (hw.rdOf (i := 5) rfl 0)) (it_cons (it_blk (by have h' := ((show okP (tW ((rst (IntKind.i64.wrap (q1 + 1)) 4).toNat) W H) (tH ((rst (IntKind.i64.wrap (q1 + 1)) 4).toNat) W H) from (okP.turn hok ((rst (IntKind.i64.wrap (q1 + 1)) 4).toNat)))).2.2.2.2; omega) (hw.rdOf (i := 3) rfl 0)) it_all)))))))))) (Has.cons (hw.hasOf (i := 2) rfl) (Has.cons (hw.hasOf (i := 1) rfl) (Has.cons (hw.hasOf (i := 0) rfl) (Has.nil _)))))) (fun xq106 hq107 => ?_)
  refine GL.val (Ex.move rfl) (by decide) ?_
  refine GL.stepG (tj := 165) rfl rfl (Ex.wp (v := (.pointer (some ⟨bq8, 0, none⟩))) (Ex.move rfl) (by decide)) (fun _ _ => ?_)
  refine GL.stepG (tj := 165) rfl rfl (Stp.callR (vs := [(.pointer (some ⟨bq8, 0, none⟩))]) rfl rfl T.own23 (by decide) (fun wc hw => room_hold2 bq8 j.2.1.2.2.1.1 j.2.1.1.1 j.2.1.2.2.1.2.1 j.2.1.1.2.1 j.2.1.2.2.1.2.2 j.2.1.1.2.2 j.1.2.2.2 j.1.2.1.1 n j.1.2.1.2.1 j.2.1.2.2.2 j.2.1.2.1.1 m j.2.1.2.1.2.1 xs ys j.1.2.1.2.2 j.2.1.2.1.2.2 wc ⟨hl.1, hb⟩ ⟨hl2.1, hb2⟩ (Has.cons (hw.hasOf (i := 18) rfl) (Has.cons (hw.hasOf (i := 16) rfl) (Has.cons (hw.hasOf (i := 14) rfl) (Has.cons (hw.hasOf (i := 20) rfl) (Has.cons (hw.hasOf (i := 19) rfl) (Has.cons (hw.hasOf (i := 17) rfl) (Has.cons (hw.hasOf (i := 15) rfl) (Has.nil _)))))))))) (fun xq108 hq109 => ?_)
  refine GL.val (v := (.bool true)) (Ex.pickT rfl rfl) (by decide) ?_
  refine GL.val (Ex.assign rfl) (by decide) ?_
  refine GL.nil ?_
  refine GE.thenN ?_
  refine GC.ret ?_
  refine GC.ret1 rfl (Rv.tmp rfl) (fun wN HN => ?_)
  exact HN.ret () trivial rfl (List.nil_sublist _) rfl

end Go.Proofs.Ytileciohbhoehaa.C
