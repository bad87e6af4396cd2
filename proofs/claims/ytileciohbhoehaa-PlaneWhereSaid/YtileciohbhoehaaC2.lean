/- Plane's functions: what each call tells. -/
import Derived.Test.YtileciohbhoehaaC1
namespace Go.Proofs.Ytileciohbhoehaa.C
open Go Go.RowKit Sx
set_option linter.unusedVariables false
set_option maxRecDepth 100000 in
set_option maxHeartbeats 1000000 in
theorem paste (W H n cap b o V U m cap2 b2 o2 : Nat) (xs ys : List Int) (X Y : Int) (w : World) (hok : okP W H) (hn : n = W * H) (hx : xs.length = n) (hr : Rd w b o (xs.map u32)) (hok2 : okP V U) (hm : m = V * U) (hx2 : ys.length = m) (hr2 : Rd w b2 o2 (ys.map u32)) (hX : (-9223372036854775808 ≤ X ∧ X ≤ 9223372036854775807)) (hY : (-9223372036854775808 ≤ Y ∧ Y ≤ 9223372036854775807)) :
    Calls Try.prog 25 #[(.agg #[(.int .i64 ((W : Int))), (.int .i64 ((H : Int))), (.slice (some ⟨b, o, none⟩) n cap)]), (.agg #[(.int .i64 ((V : Int))), (.int .i64 ((U : Int))), (.slice (some ⟨b2, o2, none⟩) m cap2)]), (.int .i64 X), (.int .i64 Y)] w (Ret w (fun _ : Nat => True) (fun r => .tuple #[.agg #[.int .i64 ((W : Nat) : Int), .int .i64 ((H : Nat) : Int), .slice (some ⟨r, 0, none⟩) (W * H) (W * H)], .int .i64 0]) (fun r => [⟨r, (tab W (pst X Y V U (smp xs W) (smp ys V)) (W * H)).map u32, 72, true⟩])) := by
  refine enter (M := None) (L := []) (n := 37) (l := [(0, (.agg #[(.int .i64 ((W : Int))), (.int .i64 ((H : Int))), (.slice (some ⟨b, o, none⟩) n cap)])), (1, (.agg #[(.int .i64 ((V : Int))), (.int .i64 ((U : Int))), (.slice (some ⟨b2, o2, none⟩) m cap2)])), (2, (.int .i64 X)), (3, (.int .i64 Y))]) Try.func25 rfl rfl (Args.cons rfl (Args.cons rfl (Args.cons rfl (Args.cons rfl (Args.nil _))))) (Hp.start _ _) ?_
  refine GC.seq ?_
  refine GC.region ?_
  refine GL.step (Stp.box (cs := [(.int .i64 ((W : Int))), (.int .i64 ((H : Int))), (.slice (some ⟨b, o, none⟩) n cap)]) rfl rfl (by decide)) (fun bq1 _ => ?_)
  refine GL.step (Stp.box (cs := [(.int .i64 ((V : Int))), (.int .i64 ((U : Int))), (.slice (some ⟨b2, o2, none⟩) m cap2)]) rfl rfl (by decide)) (fun bq2 _ => ?_)
  refine GL.step (Stp.box (cs := [(.int .i64 X)]) rfl rfl (by decide)) (fun bq3 _ => ?_)
  refine GL.step (Stp.box (cs := [(.int .i64 Y)]) rfl rfl (by decide)) (fun bq4 _ => ?_)
  refine GL.step (Stp.alloc T.zr32 (by decide)) (fun bq5 _ => ?_)
  refine GL.val (v := (.int .i64 0)) (Ex.assign rfl) (by decide) ?_
  refine GL.nil ?_
  refine GE.thenN ?_
  refine GC.seq ?_
  refine GC.seq ?_
  refine GC.region ?_
  refine GL.val (v := (.agg #[(.int .i64 ((W : Int))), (.int .i64 ((H : Int))), (.slice (some ⟨b, o, none⟩) n cap)])) (Ex.loadA rfl T.ag32 T.sz32 (i := 4) rfl (vs := [(.int .i64 ((W : Int))), (.int .i64 ((H : Int))), (.slice (some ⟨b, o, none⟩) n cap)]) rfl rfl) (by decide) ?_
  refine GL.step (Stp.callR (σ := Unit) (p := fun rz => True) (v := fun rz => (.int .i64 0)) (N := fun rz => []) (vs := [(.agg #[(.int .i64 ((W : Int))), (.int .i64 ((H : Int))), (.slice (some ⟨b, o, none⟩) n cap)])]) rfl rfl T.own36 (by decide) (fun wc hw => (check_ok W H (some ⟨b, o, none⟩) n cap wc hok hn))) (fun xq6 hq7 => ?_)
  refine GL.val (v := (.int .i64 0)) (Ex.assign rfl) (by decide) ?_
  refine GL.nil ?_
  refine GE.thenN ?_
  refine GC.seq ?_
  refine GC.region ?_
  refine GL.val (v := (.int .i64 0)) (Ex.move rfl) (by decide) ?_
  refine GL.val (v := (.bool false)) (Ex.cast (Ex.neq rfl rfl) rfl) (by decide) ?_
  refine GL.nil ?_
  refine GE.thenN ?_
  refine GC.cond rfl (fun hq8 => by cases hq8) (fun _ => ?_)
  refine GC.skip ?_
  refine GE.thenN ?_
  refine GC.seq ?_
  refine GC.seq ?_
  refine GC.region ?_
  refine GL.val (v := (.agg #[(.int .i64 ((V : Int))), (.int .i64 ((U : Int))), (.slice (some ⟨b2, o2, none⟩) m cap2)])) (Ex.loadA rfl T.ag32 T.sz32 (i := 3) rfl (vs := [(.int .i64 ((V : Int))), (.int .i64 ((U : Int))), (.slice (some ⟨b2, o2, none⟩) m cap2)]) rfl rfl) (by decide) ?_
  refine GL.step (Stp.callR (σ := Unit) (p := fun rz => True) (v := fun rz => (.int .i64 0)) (N := fun rz => []) (vs := [(.agg #[(.int .i64 ((V : Int))), (.int .i64 ((U : Int))), (.slice (some ⟨b2, o2, none⟩) m cap2)])]) rfl rfl T.own36 (by decide) (fun wc hw => (check_ok V U (some ⟨b2, o2, none⟩) m cap2 wc hok2 hm))) (fun xq9 hq10 => ?_)
  refine GL.val (v := (.int .i64 0)) (Ex.assign rfl) (by decide) ?_
  refine GL.nil ?_
  refine GE.thenN ?_
  refine GC.seq ?_
  refine GC.region ?_
  refine GL.val (v := (.int .i64 0)) (Ex.move rfl) (by decide) ?_
  refine GL.val (v := (.bool false)) (Ex.cast (Ex.neq rfl rfl) rfl) (by decide) ?_
  refine GL.nil ?_
  refine GE.thenN ?_
  refine GC.cond rfl (fun hq11 => by cases hq11) (fun _ => ?_)
  refine GC.skip ?_
  refine GE.thenN ?_
  refine GC.seq ?_
  refine GC.join (σ := Nat × Nat × Nat × Nat) (fun j => True) (fun j => [(4, (.pointer (some ⟨bq1, 0, none⟩))), (5, (.pointer (some ⟨bq2, 0, none⟩))), (6, (.pointer (some ⟨bq3, 0, none⟩))), (7, (.pointer (some ⟨bq4, 0, none⟩))), (8, (.pointer (some ⟨bq5, 0, none⟩))), (9, (.int .i64 0)), (12, (.pointer (some ⟨j.2.2.1, 0, none⟩))), (13, (.pointer (some ⟨j.2.2.2, 0, none⟩)))]) (fun j => [⟨j.2.2.1, [(.func (.func 75) #[] #[(.pointer (some ⟨j.1, 0, none⟩))])], 88, true⟩, ⟨j.2.2.2, [(.func (.func 75) #[] #[(.pointer (some ⟨j.2.1, 0, none⟩))])], 88, true⟩, ⟨j.1, [(.int .i64 ((W : Int))), (.int .i64 ((H : Int))), (.slice (some ⟨b, o, none⟩) n cap)], 32, true⟩, ⟨j.2.1, [(.int .i64 ((V : Int))), (.int .i64 ((U : Int))), (.slice (some ⟨b2, o2, none⟩) m cap2)], 32, true⟩, ⟨bq1, [(.int .i64 ((W : Int))), (.int .i64 ((H : Int))), (.slice (some ⟨b, o, none⟩) n cap)], 32, true⟩, ⟨bq2, [(.int .i64 ((V : Int))), (.int .i64 ((U : Int))), (.slice (some ⟨b2, o2, none⟩) m cap2)], 32, true⟩, ⟨bq3, [(.int .i64 X)], 3, true⟩, ⟨bq4, [(.int .i64 Y)], 3, true⟩, ⟨bq5, [(.int .i64 0), (.int .i64 0), (.slice none 0 0)], 32, true⟩]) ?_ (fun j hj => ?_)
  · refine GC.drawP [⟨bq5, [(.int .i64 0), (.int .i64 0), (.slice none 0 0)], 32, true⟩, ⟨bq4, [(.int .i64 Y)], 3, true⟩, ⟨bq3, [(.int .i64 X)], 3, true⟩, ⟨bq2, [(.int .i64 ((V : Int))), (.int .i64 ((U : Int))), (.slice (some ⟨b2, o2, none⟩) m cap2)], 32, true⟩, ⟨bq1, [(.int .i64 ((W : Int))), (.int .i64 ((H : Int))), (.slice (some ⟨b, o, none⟩) n cap)], 32, true⟩] T.mixed (by kernel_rfl) (by kernel_rfl) (fuel := 7) rfl rfl ?_
    refine GH.take 0 (v := (.agg #[(.int .i64 ((W : Int))), (.int .i64 ((H : Int))), (.slice (some ⟨b, o, none⟩) n cap)])) rfl (by kernel_rfl) (by kernel_rfl) (by kernel_rfl) (fun _ _ _ h => h) (Ex.loadA rfl T.ag32 T.sz32 (i := 4) rfl (vs := [(.int .i64 ((W : Int))), (.int .i64 ((H : Int))), (.slice (some ⟨b, o, none⟩) n cap)]) rfl rfl) (List.Sublist.cons_cons _ (List.Sublist.cons_cons _ (List.Sublist.cons_cons _ (List.Sublist.cons_cons _ (List.Sublist.cons_cons _ (List.nil_sublist _)))))) (by decide) ?_
    refine GH.take 2 (v := (.agg #[(.int .i64 ((V : Int))), (.int .i64 ((U : Int))), (.slice (some ⟨b2, o2, none⟩) m cap2)])) rfl (by kernel_rfl) (by kernel_rfl) (by kernel_rfl) (fun _ _ _ h => h) (Ex.loadA rfl T.ag32 T.sz32 (i := 3) rfl (vs := [(.int .i64 ((V : Int))), (.int .i64 ((U : Int))), (.slice (some ⟨b2, o2, none⟩) m cap2)]) rfl rfl) (List.Sublist.cons_cons _ (List.Sublist.cons_cons _ (List.Sublist.cons_cons _ (List.Sublist.cons_cons _ (List.Sublist.cons_cons _ (List.nil_sublist _)))))) (by decide) ?_
    refine GH.many (rs := [1, 4, 5]) (by kernel_rfl) (by simp) ?_
    refine GHs.cons rfl (Stp.callR (σ := Nat) (p := fun rz => True) (v := fun rz => (.func (.func 75) #[] #[(.pointer (some ⟨rz, 0, none⟩))])) (N := fun rz => [⟨rz, [(.int .i64 ((W : Int))), (.int .i64 ((H : Int))), (.slice (some ⟨b, o, none⟩) n cap)], 32, true⟩]) (vs := [(.agg #[(.int .i64 ((W : Int))), (.int .i64 ((H : Int))), (.slice (some ⟨b, o, none⟩) n cap)])]) rfl rfl T.own53 (by decide) (fun wc hw => of W H n cap b o wc)) (fun _ => (List.Sublist.cons _ (List.Sublist.cons_cons _ (List.Sublist.cons_cons _ (List.Sublist.cons_cons _ (List.Sublist.cons_cons _ (List.Sublist.cons_cons _ (List.nil_sublist _)))))))) (fun xq12 hq13 => ?_) ?_
    · refine GH.many (rs := [3, 4, 5]) (by kernel_rfl) (by simp) ?_
      refine GHs.cons rfl (Stp.callR (σ := Nat) (p := fun rz => True) (v := fun rz => (.func (.func 75) #[] #[(.pointer (some ⟨rz, 0, none⟩))])) (N := fun rz => [⟨rz, [(.int .i64 ((V : Int))), (.int .i64 ((U : Int))), (.slice (some ⟨b2, o2, none⟩) m cap2)], 32, true⟩]) (vs := [(.agg #[(.int .i64 ((V : Int))), (.int .i64 ((U : Int))), (.slice (some ⟨b2, o2, none⟩) m cap2)])]) rfl rfl T.own53 (by decide) (fun wc hw => of V U m cap2 b2 o2 wc)) (fun _ => (List.Sublist.cons _ (List.Sublist.cons _ (List.Sublist.cons_cons _ (List.Sublist.cons_cons _ (List.Sublist.cons_cons _ (List.Sublist.cons_cons _ (List.Sublist.cons_cons _ (List.nil_sublist _))))))))) (fun xq14 hq15 => ?_) ?_
      · refine GH.many (rs := [4, 5]) (by kernel_rfl) (by simp) ?_
        refine GHs.cons rfl (Stp.alloc T.zr88 (by decide)) (fun _ => (List.Sublist.cons _ (List.Sublist.cons _ (List.Sublist.cons _ (List.Sublist.cons_cons _ (List.Sublist.cons_cons _ (List.Sublist.cons_cons _ (List.Sublist.cons_cons _ (List.Sublist.cons_cons _ (List.nil_sublist _)))))))))) (fun bq16 _ => ?_) ?_
        · refine GH.one 5 rfl (by kernel_rfl) (Stp.alloc T.zr88 (by decide)) (fun _ => (List.Sublist.cons _ (List.Sublist.cons _ (List.Sublist.cons _ (List.Sublist.cons _ (List.Sublist.cons_cons _ (List.Sublist.cons_cons _ (List.Sublist.cons_cons _ (List.Sublist.cons_cons _ (List.Sublist.cons_cons _ (List.nil_sublist _))))))))))) (fun bq17 _ => ?_)
          refine GH.one 6 rfl (by kernel_rfl) (Stp.storeL (i := 1) (L1 := [⟨bq17, [.nilFunc], 88, true⟩, ⟨bq16, [(.func (.func 75) #[] #[(.pointer (some ⟨xq12, 0, none⟩))])], 88, true⟩, ⟨xq14, [(.int .i64 ((V : Int))), (.int .i64 ((U : Int))), (.slice (some ⟨b2, o2, none⟩) m cap2)], 32, true⟩, ⟨xq12, [(.int .i64 ((W : Int))), (.int .i64 ((H : Int))), (.slice (some ⟨b, o, none⟩) n cap)], 32, true⟩, ⟨bq5, [(.int .i64 0), (.int .i64 0), (.slice none 0 0)], 32, true⟩, ⟨bq4, [(.int .i64 Y)], 3, true⟩, ⟨bq3, [(.int .i64 X)], 3, true⟩, ⟨bq2, [(.int .i64 ((V : Int))), (.int .i64 ((U : Int))), (.slice (some ⟨b2, o2, none⟩) m cap2)], 32, true⟩, ⟨bq1, [(.int .i64 ((W : Int))), (.int .i64 ((H : Int))), (.slice (some ⟨b, o, none⟩) n cap)], 32, true⟩]) rfl rfl rfl T.sz88 rfl rfl rfl rfl) (fun _ => (List.Sublist.cons _ (List.Sublist.cons _ (List.Sublist.cons _ (List.Sublist.cons _ (List.Sublist.cons_cons _ (List.Sublist.cons_cons _ (List.Sublist.cons_cons _ (List.Sublist.cons_cons _ (List.Sublist.cons_cons _ (List.nil_sublist _))))))))))) (fun _ _ => ?_)
          refine GH.done (by kernel_rfl) ?_
          refine GE.thenN ?_
          refine GE.tail rfl (Stp.storeL (i := 0) (L1 := [⟨bq17, [(.func (.func 75) #[] #[(.pointer (some ⟨xq14, 0, none⟩))])], 88, true⟩, ⟨bq16, [(.func (.func 75) #[] #[(.pointer (some ⟨xq12, 0, none⟩))])], 88, true⟩, ⟨xq14, [(.int .i64 ((V : Int))), (.int .i64 ((U : Int))), (.slice (some ⟨b2, o2, none⟩) m cap2)], 32, true⟩, ⟨xq12, [(.int .i64 ((W : Int))), (.int .i64 ((H : Int))), (.slice (some ⟨b, o, none⟩) n cap)], 32, true⟩, ⟨bq5, [(.int .i64 0), (.int .i64 0), (.slice none 0 0)], 32, true⟩, ⟨bq4, [(.int .i64 Y)], 3, true⟩, ⟨bq3, [(.int .i64 X)], 3, true⟩, ⟨bq2, [(.int .i64 ((V : Int))), (.int .i64 ((U : Int))), (.slice (some ⟨b2, o2, none⟩) m cap2)], 32, true⟩, ⟨bq1, [(.int .i64 ((W : Int))), (.int .i64 ((H : Int))), (.slice (some ⟨b, o, none⟩) n cap)], 32, true⟩]) rfl rfl rfl T.sz88 rfl rfl rfl rfl) (fun _ _ => ?_)
          refine GE.thenN ?_
          exact St.mk ((xq12, xq14, bq16, bq17)) trivial (idx := [1, 0, 3, 2, 8, 7, 6, 5, 4]) ((sub_cons rfl ((sub_cons rfl ((sub_cons rfl ((sub_cons rfl ((sub_cons rfl ((sub_cons rfl ((sub_cons rfl ((sub_cons rfl ((sub_nil _)))))))))))))))))) (by decide) rfl
        refine GHs.cons rfl (Stp.alloc T.zr88 (by decide)) (fun _ => (List.Sublist.cons _ (List.Sublist.cons _ (List.Sublist.cons _ (List.Sublist.cons_cons _ (List.Sublist.cons_cons _ (List.Sublist.cons_cons _ (List.Sublist.cons_cons _ (List.Sublist.cons_cons _ (List.nil_sublist _)))))))))) (fun bq18 _ => ?_) ?_
        · refine GH.one 4 rfl (by kernel_rfl) (Stp.alloc T.zr88 (by decide)) (fun _ => (List.Sublist.cons _ (List.Sublist.cons _ (List.Sublist.cons _ (List.Sublist.cons _ (List.Sublist.cons_cons _ (List.Sublist.cons_cons _ (List.Sublist.cons_cons _ (List.Sublist.cons_cons _ (List.Sublist.cons_cons _ (List.nil_sublist _))))))))))) (fun bq19 _ => ?_)
          refine GH.one 6 rfl (by kernel_rfl) (Stp.storeL (i := 0) (L1 := [⟨bq19, [(.func (.func 75) #[] #[(.pointer (some ⟨xq12, 0, none⟩))])], 88, true⟩, ⟨bq18, [.nilFunc], 88, true⟩, ⟨xq14, [(.int .i64 ((V : Int))), (.int .i64 ((U : Int))), (.slice (some ⟨b2, o2, none⟩) m cap2)], 32, true⟩, ⟨xq12, [(.int .i64 ((W : Int))), (.int .i64 ((H : Int))), (.slice (some ⟨b, o, none⟩) n cap)], 32, true⟩, ⟨bq5, [(.int .i64 0), (.int .i64 0), (.slice none 0 0)], 32, true⟩, ⟨bq4, [(.int .i64 Y)], 3, true⟩, ⟨bq3, [(.int .i64 X)], 3, true⟩, ⟨bq2, [(.int .i64 ((V : Int))), (.int .i64 ((U : Int))), (.slice (some ⟨b2, o2, none⟩) m cap2)], 32, true⟩, ⟨bq1, [(.int .i64 ((W : Int))), (.int .i64 ((H : Int))), (.slice (some ⟨b, o, none⟩) n cap)], 32, true⟩]) rfl rfl rfl T.sz88 rfl rfl rfl rfl) (fun _ => (List.Sublist.cons _ (List.Sublist.cons _ (List.Sublist.cons _ (List.Sublist.cons _ (List.Sublist.cons_cons _ (List.Sublist.cons_cons _ (List.Sublist.cons_cons _ (List.Sublist.cons_cons _ (List.Sublist.cons_cons _ (List.nil_sublist _))))))))))) (fun _ _ => ?_)
          refine GH.done (by kernel_rfl) ?_
          refine GE.thenN ?_
          refine GE.tail rfl (Stp.storeL (i := 1) (L1 := [⟨bq19, [(.func (.func 75) #[] #[(.pointer (some ⟨xq12, 0, none⟩))])], 88, true⟩, ⟨bq18, [(.func (.func 75) #[] #[(.pointer (some ⟨xq14, 0, none⟩))])], 88, true⟩, ⟨xq14, [(.int .i64 ((V : Int))), (.int .i64 ((U : Int))), (.slice (some ⟨b2, o2, none⟩) m cap2)], 32, true⟩, ⟨xq12, [(.int .i64 ((W : Int))), (.int .i64 ((H : Int))), (.slice (some ⟨b, o, none⟩) n cap)], 32, true⟩, ⟨bq5, [(.int .i64 0), (.int .i64 0), (.slice none 0 0)], 32, true⟩, ⟨bq4, [(.int .i64 Y)], 3, true⟩, ⟨bq3, [(.int .i64 X)], 3, true⟩, ⟨bq2, [(.int .i64 ((V : Int))), (.int .i64 ((U : Int))), (.slice (some ⟨b2, o2, none⟩) m cap2)], 32, true⟩, ⟨bq1, [(.int .i64 ((W : Int))), (.int .i64 ((H : Int))), (.slice (some ⟨b, o, none⟩) n cap)], 32, true⟩]) rfl rfl rfl T.sz88 rfl rfl rfl rfl) (fun _ _ => ?_)
          refine GE.thenN ?_
          exact St.mk ((xq12, xq14, bq19, bq18)) trivial (idx := [0, 1, 3, 2, 8, 7, 6, 5, 4]) ((sub_cons rfl ((sub_cons rfl ((sub_cons rfl ((sub_cons rfl ((sub_cons rfl ((sub_cons rfl ((sub_cons rfl ((sub_cons rfl ((sub_nil _)))))))))))))))))) (by decide) rfl
        exact GHs.nil
      refine GHs.cons rfl (Stp.alloc T.zr88 (by decide)) (fun _ => (List.Sublist.cons _ (List.Sublist.cons _ (List.Sublist.cons_cons _ (List.Sublist.cons_cons _ (List.Sublist.cons_cons _ (List.Sublist.cons_cons _ (List.Sublist.cons_cons _ (List.nil_sublist _))))))))) (fun bq20 _ => ?_) ?_
      · refine GH.many (rs := [3, 5]) (by kernel_rfl) (by simp) ?_
        refine GHs.cons rfl (Stp.callR (σ := Nat) (p := fun rz => True) (v := fun rz => (.func (.func 75) #[] #[(.pointer (some ⟨rz, 0, none⟩))])) (N := fun rz => [⟨rz, [(.int .i64 ((V : Int))), (.int .i64 ((U : Int))), (.slice (some ⟨b2, o2, none⟩) m cap2)], 32, true⟩]) (vs := [(.agg #[(.int .i64 ((V : Int))), (.int .i64 ((U : Int))), (.slice (some ⟨b2, o2, none⟩) m cap2)])]) rfl rfl T.own53 (by decide) (fun wc hw => of V U m cap2 b2 o2 wc)) (fun _ => (List.Sublist.cons _ (List.Sublist.cons _ (List.Sublist.cons _ (List.Sublist.cons_cons _ (List.Sublist.cons_cons _ (List.Sublist.cons_cons _ (List.Sublist.cons_cons _ (List.Sublist.cons_cons _ (List.nil_sublist _)))))))))) (fun xq21 hq22 => ?_) ?_
        · refine GH.one 5 rfl (by kernel_rfl) (Stp.alloc T.zr88 (by decide)) (fun _ => (List.Sublist.cons _ (List.Sublist.cons _ (List.Sublist.cons _ (List.Sublist.cons _ (List.Sublist.cons_cons _ (List.Sublist.cons_cons _ (List.Sublist.cons_cons _ (List.Sublist.cons_cons _ (List.Sublist.cons_cons _ (List.nil_sublist _))))))))))) (fun bq23 _ => ?_)
          refine GH.one 6 rfl (by kernel_rfl) (Stp.storeL (i := 2) (L1 := [⟨bq23, [.nilFunc], 88, true⟩, ⟨xq21, [(.int .i64 ((V : Int))), (.int .i64 ((U : Int))), (.slice (some ⟨b2, o2, none⟩) m cap2)], 32, true⟩, ⟨bq20, [(.func (.func 75) #[] #[(.pointer (some ⟨xq12, 0, none⟩))])], 88, true⟩, ⟨xq12, [(.int .i64 ((W : Int))), (.int .i64 ((H : Int))), (.slice (some ⟨b, o, none⟩) n cap)], 32, true⟩, ⟨bq5, [(.int .i64 0), (.int .i64 0), (.slice none 0 0)], 32, true⟩, ⟨bq4, [(.int .i64 Y)], 3, true⟩, ⟨bq3, [(.int .i64 X)], 3, true⟩, ⟨bq2, [(.int .i64 ((V : Int))), (.int .i64 ((U : Int))), (.slice (some ⟨b2, o2, none⟩) m cap2)], 32, true⟩, ⟨bq1, [(.int .i64 ((W : Int))), (.int .i64 ((H : Int))), (.slice (some ⟨b, o, none⟩) n cap)], 32, true⟩]) rfl rfl rfl T.sz88 rfl rfl rfl rfl) (fun _ => (List.Sublist.cons _ (List.Sublist.cons _ (List.Sublist.cons _ (List.Sublist.cons _ (List.Sublist.cons_cons _ (List.Sublist.cons_cons _ (List.Sublist.cons_cons _ (List.Sublist.cons_cons _ (List.Sublist.cons_cons _ (List.nil_sublist _))))))))))) (fun _ _ => ?_)
          refine GH.done (by kernel_rfl) ?_
          refine GE.thenN ?_
          refine GE.tail rfl (Stp.storeL (i := 0) (L1 := [⟨bq23, [(.func (.func 75) #[] #[(.pointer (some ⟨xq21, 0, none⟩))])], 88, true⟩, ⟨xq21, [(.int .i64 ((V : Int))), (.int .i64 ((U : Int))), (.slice (some ⟨b2, o2, none⟩) m cap2)], 32, true⟩, ⟨bq20, [(.func (.func 75) #[] #[(.pointer (some ⟨xq12, 0, none⟩))])], 88, true⟩, ⟨xq12, [(.int .i64 ((W : Int))), (.int .i64 ((H : Int))), (.slice (some ⟨b, o, none⟩) n cap)], 32, true⟩, ⟨bq5, [(.int .i64 0), (.int .i64 0), (.slice none 0 0)], 32, true⟩, ⟨bq4, [(.int .i64 Y)], 3, true⟩, ⟨bq3, [(.int .i64 X)], 3, true⟩, ⟨bq2, [(.int .i64 ((V : Int))), (.int .i64 ((U : Int))), (.slice (some ⟨b2, o2, none⟩) m cap2)], 32, true⟩, ⟨bq1, [(.int .i64 ((W : Int))), (.int .i64 ((H : Int))), (.slice (some ⟨b, o, none⟩) n cap)], 32, true⟩]) rfl rfl rfl T.sz88 rfl rfl rfl rfl) (fun _ _ => ?_)
          refine GE.thenN ?_
          exact St.mk ((xq12, xq21, bq20, bq23)) trivial (idx := [2, 0, 3, 1, 8, 7, 6, 5, 4]) ((sub_cons rfl ((sub_cons rfl ((sub_cons rfl ((sub_cons rfl ((sub_cons rfl ((sub_cons rfl ((sub_cons rfl ((sub_cons rfl ((sub_nil _)))))))))))))))))) (by decide) rfl
        refine GHs.cons rfl (Stp.alloc T.zr88 (by decide)) (fun _ => (List.Sublist.cons _ (List.Sublist.cons _ (List.Sublist.cons _ (List.Sublist.cons_cons _ (List.Sublist.cons_cons _ (List.Sublist.cons_cons _ (List.Sublist.cons_cons _ (List.Sublist.cons_cons _ (List.nil_sublist _)))))))))) (fun bq24 _ => ?_) ?_
        · refine GH.one 3 rfl (by kernel_rfl) (Stp.callR (σ := Nat) (p := fun rz => True) (v := fun rz => (.func (.func 75) #[] #[(.pointer (some ⟨rz, 0, none⟩))])) (N := fun rz => [⟨rz, [(.int .i64 ((V : Int))), (.int .i64 ((U : Int))), (.slice (some ⟨b2, o2, none⟩) m cap2)], 32, true⟩]) (vs := [(.agg #[(.int .i64 ((V : Int))), (.int .i64 ((U : Int))), (.slice (some ⟨b2, o2, none⟩) m cap2)])]) rfl rfl T.own53 (by decide) (fun wc hw => of V U m cap2 b2 o2 wc)) (fun _ => (List.Sublist.cons _ (List.Sublist.cons _ (List.Sublist.cons _ (List.Sublist.cons _ (List.Sublist.cons_cons _ (List.Sublist.cons_cons _ (List.Sublist.cons_cons _ (List.Sublist.cons_cons _ (List.Sublist.cons_cons _ (List.nil_sublist _))))))))))) (fun xq25 hq26 => ?_)
          refine GH.one 6 rfl (by kernel_rfl) (Stp.storeL (i := 2) (L1 := [⟨xq25, [(.int .i64 ((V : Int))), (.int .i64 ((U : Int))), (.slice (some ⟨b2, o2, none⟩) m cap2)], 32, true⟩, ⟨bq24, [.nilFunc], 88, true⟩, ⟨bq20, [(.func (.func 75) #[] #[(.pointer (some ⟨xq12, 0, none⟩))])], 88, true⟩, ⟨xq12, [(.int .i64 ((W : Int))), (.int .i64 ((H : Int))), (.slice (some ⟨b, o, none⟩) n cap)], 32, true⟩, ⟨bq5, [(.int .i64 0), (.int .i64 0), (.slice none 0 0)], 32, true⟩, ⟨bq4, [(.int .i64 Y)], 3, true⟩, ⟨bq3, [(.int .i64 X)], 3, true⟩, ⟨bq2, [(.int .i64 ((V : Int))), (.int .i64 ((U : Int))), (.slice (some ⟨b2, o2, none⟩) m cap2)], 32, true⟩, ⟨bq1, [(.int .i64 ((W : Int))), (.int .i64 ((H : Int))), (.slice (some ⟨b, o, none⟩) n cap)], 32, true⟩]) rfl rfl rfl T.sz88 rfl rfl rfl rfl) (fun _ => (List.Sublist.cons _ (List.Sublist.cons _ (List.Sublist.cons _ (List.Sublist.cons _ (List.Sublist.cons_cons _ (List.Sublist.cons_cons _ (List.Sublist.cons_cons _ (List.Sublist.cons_cons _ (List.Sublist.cons_cons _ (List.nil_sublist _))))))))))) (fun _ _ => ?_)
          refine GH.done (by kernel_rfl) ?_
          refine GE.thenN ?_
          refine GE.tail rfl (Stp.storeL (i := 1) (L1 := [⟨xq25, [(.int .i64 ((V : Int))), (.int .i64 ((U : Int))), (.slice (some ⟨b2, o2, none⟩) m cap2)], 32, true⟩, ⟨bq24, [(.func (.func 75) #[] #[(.pointer (some ⟨xq25, 0, none⟩))])], 88, true⟩, ⟨bq20, [(.func (.func 75) #[] #[(.pointer (some ⟨xq12, 0, none⟩))])], 88, true⟩, ⟨xq12, [(.int .i64 ((W : Int))), (.int .i64 ((H : Int))), (.slice (some ⟨b, o, none⟩) n cap)], 32, true⟩, ⟨bq5, [(.int .i64 0), (.int .i64 0), (.slice none 0 0)], 32, true⟩, ⟨bq4, [(.int .i64 Y)], 3, true⟩, ⟨bq3, [(.int .i64 X)], 3, true⟩, ⟨bq2, [(.int .i64 ((V : Int))), (.int .i64 ((U : Int))), (.slice (some ⟨b2, o2, none⟩) m cap2)], 32, true⟩, ⟨bq1, [(.int .i64 ((W : Int))), (.int .i64 ((H : Int))), (.slice (some ⟨b, o, none⟩) n cap)], 32, true⟩]) rfl rfl rfl T.sz88 rfl rfl rfl rfl) (fun _ _ => ?_)
          refine GE.thenN ?_
          exact St.mk ((xq12, xq25, bq20, bq24)) trivial (idx := [2, 1, 3, 0, 8, 7, 6, 5, 4]) ((sub_cons rfl ((sub_cons rfl ((sub_cons rfl ((sub_cons rfl ((sub_cons rfl ((sub_cons rfl ((sub_cons rfl ((sub_cons rfl ((sub_nil _)))))))))))))))))) (by decide) rfl
        exact GHs.nil
      refine GHs.cons rfl (Stp.alloc T.zr88 (by decide)) (fun _ => (List.Sublist.cons _ (List.Sublist.cons _ (List.Sublist.cons_cons _ (List.Sublist.cons_cons _ (List.Sublist.cons_cons _ (List.Sublist.cons_cons _ (List.Sublist.cons_cons _ (List.nil_sublist _))))))))) (fun bq27 _ => ?_) ?_
      · refine GH.many (rs := [3, 4]) (by kernel_rfl) (by simp) ?_
        refine GHs.cons rfl (Stp.callR (σ := Nat) (p := fun rz => True) (v := fun rz => (.func (.func 75) #[] #[(.pointer (some ⟨rz, 0, none⟩))])) (N := fun rz => [⟨rz, [(.int .i64 ((V : Int))), (.int .i64 ((U : Int))), (.slice (some ⟨b2, o2, none⟩) m cap2)], 32, true⟩]) (vs := [(.agg #[(.int .i64 ((V : Int))), (.int .i64 ((U : Int))), (.slice (some ⟨b2, o2, none⟩) m cap2)])]) rfl rfl T.own53 (by decide) (fun wc hw => of V U m cap2 b2 o2 wc)) (fun _ => (List.Sublist.cons _ (List.Sublist.cons _ (List.Sublist.cons _ (List.Sublist.cons_cons _ (List.Sublist.cons_cons _ (List.Sublist.cons_cons _ (List.Sublist.cons_cons _ (List.Sublist.cons_cons _ (List.nil_sublist _)))))))))) (fun xq28 hq29 => ?_) ?_
        · refine GH.one 4 rfl (by kernel_rfl) (Stp.alloc T.zr88 (by decide)) (fun _ => (List.Sublist.cons _ (List.Sublist.cons _ (List.Sublist.cons _ (List.Sublist.cons _ (List.Sublist.cons_cons _ (List.Sublist.cons_cons _ (List.Sublist.cons_cons _ (List.Sublist.cons_cons _ (List.Sublist.cons_cons _ (List.nil_sublist _))))))))))) (fun bq30 _ => ?_)
          refine GH.one 6 rfl (by kernel_rfl) (Stp.storeL (i := 0) (L1 := [⟨bq30, [(.func (.func 75) #[] #[(.pointer (some ⟨xq12, 0, none⟩))])], 88, true⟩, ⟨xq28, [(.int .i64 ((V : Int))), (.int .i64 ((U : Int))), (.slice (some ⟨b2, o2, none⟩) m cap2)], 32, true⟩, ⟨bq27, [.nilFunc], 88, true⟩, ⟨xq12, [(.int .i64 ((W : Int))), (.int .i64 ((H : Int))), (.slice (some ⟨b, o, none⟩) n cap)], 32, true⟩, ⟨bq5, [(.int .i64 0), (.int .i64 0), (.slice none 0 0)], 32, true⟩, ⟨bq4, [(.int .i64 Y)], 3, true⟩, ⟨bq3, [(.int .i64 X)], 3, true⟩, ⟨bq2, [(.int .i64 ((V : Int))), (.int .i64 ((U : Int))), (.slice (some ⟨b2, o2, none⟩) m cap2)], 32, true⟩, ⟨bq1, [(.int .i64 ((W : Int))), (.int .i64 ((H : Int))), (.slice (some ⟨b, o, none⟩) n cap)], 32, true⟩]) rfl rfl rfl T.sz88 rfl rfl rfl rfl) (fun _ => (List.Sublist.cons _ (List.Sublist.cons _ (List.Sublist.cons _ (List.Sublist.cons _ (List.Sublist.cons_cons _ (List.Sublist.cons_cons _ (List.Sublist.cons_cons _ (List.Sublist.cons_cons _ (List.Sublist.cons_cons _ (List.nil_sublist _))))))))))) (fun _ _ => ?_)
          refine GH.done (by kernel_rfl) ?_
          refine GE.thenN ?_
          refine GE.tail rfl (Stp.storeL (i := 2) (L1 := [⟨bq30, [(.func (.func 75) #[] #[(.pointer (some ⟨xq12, 0, none⟩))])], 88, true⟩, ⟨xq28, [(.int .i64 ((V : Int))), (.int .i64 ((U : Int))), (.slice (some ⟨b2, o2, none⟩) m cap2)], 32, true⟩, ⟨bq27, [(.func (.func 75) #[] #[(.pointer (some ⟨xq28, 0, none⟩))])], 88, true⟩, ⟨xq12, [(.int .i64 ((W : Int))), (.int .i64 ((H : Int))), (.slice (some ⟨b, o, none⟩) n cap)], 32, true⟩, ⟨bq5, [(.int .i64 0), (.int .i64 0), (.slice none 0 0)], 32, true⟩, ⟨bq4, [(.int .i64 Y)], 3, true⟩, ⟨bq3, [(.int .i64 X)], 3, true⟩, ⟨bq2, [(.int .i64 ((V : Int))), (.int .i64 ((U : Int))), (.slice (some ⟨b2, o2, none⟩) m cap2)], 32, true⟩, ⟨bq1, [(.int .i64 ((W : Int))), (.int .i64 ((H : Int))), (.slice (some ⟨b, o, none⟩) n cap)], 32, true⟩]) rfl rfl rfl T.sz88 rfl rfl rfl rfl) (fun _ _ => ?_)
          refine GE.thenN ?_
          exact St.mk ((xq12, xq28, bq30, bq27)) trivial (idx := [0, 2, 3, 1, 8, 7, 6, 5, 4]) ((sub_cons rfl ((sub_cons rfl ((sub_cons rfl ((sub_cons rfl ((sub_cons rfl ((sub_cons rfl ((sub_cons rfl ((sub_cons rfl ((sub_nil _)))))))))))))))))) (by decide) rfl
        refine GHs.cons rfl (Stp.alloc T.zr88 (by decide)) (fun _ => (List.Sublist.cons _ (List.Sublist.cons _ (List.Sublist.cons _ (List.Sublist.cons_cons _ (List.Sublist.cons_cons _ (List.Sublist.cons_cons _ (List.Sublist.cons_cons _ (List.Sublist.cons_cons _ (List.nil_sublist _)))))))))) (fun bq31 _ => ?_) ?_
        · refine GH.one 3 rfl (by kernel_rfl) (Stp.callR (σ := Nat) (p := fun rz => True) (v := fun rz => (.func (.func 75) #[] #[(.pointer (some ⟨rz, 0, none⟩))])) (N := fun rz => [⟨rz, [(.int .i64 ((V : Int))), (.int .i64 ((U : Int))), (.slice (some ⟨b2, o2, none⟩) m cap2)], 32, true⟩]) (vs := [(.agg #[(.int .i64 ((V : Int))), (.int .i64 ((U : Int))), (.slice (some ⟨b2, o2, none⟩) m cap2)])]) rfl rfl T.own53 (by decide) (fun wc hw => of V U m cap2 b2 o2 wc)) (fun _ => (List.Sublist.cons _ (List.Sublist.cons _ (List.Sublist.cons _ (List.Sublist.cons _ (List.Sublist.cons_cons _ (List.Sublist.cons_cons _ (List.Sublist.cons_cons _ (List.Sublist.cons_cons _ (List.Sublist.cons_cons _ (List.nil_sublist _))))))))))) (fun xq32 hq33 => ?_)
          refine GH.one 6 rfl (by kernel_rfl) (Stp.storeL (i := 1) (L1 := [⟨xq32, [(.int .i64 ((V : Int))), (.int .i64 ((U : Int))), (.slice (some ⟨b2, o2, none⟩) m cap2)], 32, true⟩, ⟨bq31, [(.func (.func 75) #[] #[(.pointer (some ⟨xq12, 0, none⟩))])], 88, true⟩, ⟨bq27, [.nilFunc], 88, true⟩, ⟨xq12, [(.int .i64 ((W : Int))), (.int .i64 ((H : Int))), (.slice (some ⟨b, o, none⟩) n cap)], 32, true⟩, ⟨bq5, [(.int .i64 0), (.int .i64 0), (.slice none 0 0)], 32, true⟩, ⟨bq4, [(.int .i64 Y)], 3, true⟩, ⟨bq3, [(.int .i64 X)], 3, true⟩, ⟨bq2, [(.int .i64 ((V : Int))), (.int .i64 ((U : Int))), (.slice (some ⟨b2, o2, none⟩) m cap2)], 32, true⟩, ⟨bq1, [(.int .i64 ((W : Int))), (.int .i64 ((H : Int))), (.slice (some ⟨b, o, none⟩) n cap)], 32, true⟩]) rfl rfl rfl T.sz88 rfl rfl rfl rfl) (fun _ => (List.Sublist.cons _ (List.Sublist.cons _ (List.Sublist.cons _ (List.Sublist.cons _ (List.Sublist.cons_cons _ (List.Sublist.cons_cons _ (List.Sublist.cons_cons _ (List.Sublist.cons_cons _ (List.Sublist.cons_cons _ (List.nil_sublist _))))))))))) (fun _ _ => ?_)
          refine GH.done (by kernel_rfl) ?_
          refine GE.thenN ?_
          refine GE.tail rfl (Stp.storeL (i := 2) (L1 := [⟨xq32, [(.int .i64 ((V : Int))), (.int .i64 ((U : Int))), (.slice (some ⟨b2, o2, none⟩) m cap2)], 32, true⟩, ⟨bq31, [(.func (.func 75) #[] #[(.pointer (some ⟨xq12, 0, none⟩))])], 88, true⟩, ⟨bq27, [(.func (.func 75) #[] #[(.pointer (some ⟨xq32, 0, none⟩))])], 88, true⟩, ⟨xq12, [(.int .i64 ((W : Int))), (.int .i64 ((H : Int))), (.slice (some ⟨b, o, none⟩) n cap)], 32, true⟩, ⟨bq5, [(.int .i64 0), (.int .i64 0), (.slice none 0 0)], 32, true⟩, ⟨bq4, [(.int .i64 Y)], 3, true⟩, ⟨bq3, [(.int .i64 X)], 3, true⟩, ⟨bq2, [(.int .i64 ((V : Int))), (.int .i64 ((U : Int))), (.slice (some ⟨b2, o2, none⟩) m cap2)], 32, true⟩, ⟨bq1, [(.int .i64 ((W : Int))), (.int .i64 ((H : Int))), (.slice (some ⟨b, o, none⟩) n cap)], 32, true⟩]) rfl rfl rfl T.sz88 rfl rfl rfl rfl) (fun _ _ => ?_)
          refine GE.thenN ?_
          exact St.mk ((xq12, xq32, bq31, bq27)) trivial (idx := [1, 2, 3, 0, 8, 7, 6, 5, 4]) ((sub_cons rfl ((sub_cons rfl ((sub_cons rfl ((sub_cons rfl ((sub_cons rfl ((sub_cons rfl ((sub_cons rfl ((sub_cons rfl ((sub_nil _)))))))))))))))))) (by decide) rfl
        exact GHs.nil
      exact GHs.nil
    refine GHs.cons rfl (Stp.alloc T.zr88 (by decide)) (fun _ => (List.Sublist.cons _ (List.Sublist.cons_cons _ (List.Sublist.cons_cons _ (List.Sublist.cons_cons _ (List.Sublist.cons_cons _ (List.Sublist.cons_cons _ (List.nil_sublist _)))))))) (fun bq34 _ => ?_) ?_
    · refine GH.many (rs := [1, 5]) (by kernel_rfl) (by simp) ?_
      refine GHs.cons rfl (Stp.callR (σ := Nat) (p := fun rz => True) (v := fun rz => (.func (.func 75) #[] #[(.pointer (some ⟨rz, 0, none⟩))])) (N := fun rz => [⟨rz, [(.int .i64 ((W : Int))), (.int .i64 ((H : Int))), (.slice (some ⟨b, o, none⟩) n cap)], 32, true⟩]) (vs := [(.agg #[(.int .i64 ((W : Int))), (.int .i64 ((H : Int))), (.slice (some ⟨b, o, none⟩) n cap)])]) rfl rfl T.own53 (by decide) (fun wc hw => of W H n cap b o wc)) (fun _ => (List.Sublist.cons _ (List.Sublist.cons _ (List.Sublist.cons_cons _ (List.Sublist.cons_cons _ (List.Sublist.cons_cons _ (List.Sublist.cons_cons _ (List.Sublist.cons_cons _ (List.nil_sublist _))))))))) (fun xq35 hq36 => ?_) ?_
      · refine GH.many (rs := [3, 5]) (by kernel_rfl) (by simp) ?_
        refine GHs.cons rfl (Stp.callR (σ := Nat) (p := fun rz => True) (v := fun rz => (.func (.func 75) #[] #[(.pointer (some ⟨rz, 0, none⟩))])) (N := fun rz => [⟨rz, [(.int .i64 ((V : Int))), (.int .i64 ((U : Int))), (.slice (some ⟨b2, o2, none⟩) m cap2)], 32, true⟩]) (vs := [(.agg #[(.int .i64 ((V : Int))), (.int .i64 ((U : Int))), (.slice (some ⟨b2, o2, none⟩) m cap2)])]) rfl rfl T.own53 (by decide) (fun wc hw => of V U m cap2 b2 o2 wc)) (fun _ => (List.Sublist.cons _ (List.Sublist.cons _ (List.Sublist.cons _ (List.Sublist.cons_cons _ (List.Sublist.cons_cons _ (List.Sublist.cons_cons _ (List.Sublist.cons_cons _ (List.Sublist.cons_cons _ (List.nil_sublist _)))))))))) (fun xq37 hq38 => ?_) ?_
        · refine GH.one 5 rfl (by kernel_rfl) (Stp.alloc T.zr88 (by decide)) (fun _ => (List.Sublist.cons _ (List.Sublist.cons _ (List.Sublist.cons _ (List.Sublist.cons _ (List.Sublist.cons_cons _ (List.Sublist.cons_cons _ (List.Sublist.cons_cons _ (List.Sublist.cons_cons _ (List.Sublist.cons_cons _ (List.nil_sublist _))))))))))) (fun bq39 _ => ?_)
          refine GH.one 6 rfl (by kernel_rfl) (Stp.storeL (i := 3) (L1 := [⟨bq39, [.nilFunc], 88, true⟩, ⟨xq37, [(.int .i64 ((V : Int))), (.int .i64 ((U : Int))), (.slice (some ⟨b2, o2, none⟩) m cap2)], 32, true⟩, ⟨xq35, [(.int .i64 ((W : Int))), (.int .i64 ((H : Int))), (.slice (some ⟨b, o, none⟩) n cap)], 32, true⟩, ⟨bq34, [(.func (.func 75) #[] #[(.pointer (some ⟨xq35, 0, none⟩))])], 88, true⟩, ⟨bq5, [(.int .i64 0), (.int .i64 0), (.slice none 0 0)], 32, true⟩, ⟨bq4, [(.int .i64 Y)], 3, true⟩, ⟨bq3, [(.int .i64 X)], 3, true⟩, ⟨bq2, [(.int .i64 ((V : Int))), (.int .i64 ((U : Int))), (.slice (some ⟨b2, o2, none⟩) m cap2)], 32, true⟩, ⟨bq1, [(.int .i64 ((W : Int))), (.int .i64 ((H : Int))), (.slice (some ⟨b, o, none⟩) n cap)], 32, true⟩]) rfl rfl rfl T.sz88 rfl rfl rfl rfl) (fun _ => (List.Sublist.cons _ (List.Sublist.cons _ (List.Sublist.cons _ (List.Sublist.cons _ (List.Sublist.cons_cons _ (List.Sublist.cons_cons _ (List.Sublist.cons_cons _ (List.Sublist.cons_cons _ (List.Sublist.cons_cons _ (List.nil_sublist _))))))))))) (fun _ _ => ?_)
          refine GH.done (by kernel_rfl) ?_
          refine GE.thenN ?_
          refine GE.tail rfl (Stp.storeL (i := 0) (L1 := [⟨bq39, [(.func (.func 75) #[] #[(.pointer (some ⟨xq37, 0, none⟩))])], 88, true⟩, ⟨xq37, [(.int .i64 ((V : Int))), (.int .i64 ((U : Int))), (.slice (some ⟨b2, o2, none⟩) m cap2)], 32, true⟩, ⟨xq35, [(.int .i64 ((W : Int))), (.int .i64 ((H : Int))), (.slice (some ⟨b, o, none⟩) n cap)], 32, true⟩, ⟨bq34, [(.func (.func 75) #[] #[(.pointer (some ⟨xq35, 0, none⟩))])], 88, true⟩, ⟨bq5, [(.int .i64 0), (.int .i64 0), (.slice none 0 0)], 32, true⟩, ⟨bq4, [(.int .i64 Y)], 3, true⟩, ⟨bq3, [(.int .i64 X)], 3, true⟩, ⟨bq2, [(.int .i64 ((V : Int))), (.int .i64 ((U : Int))), (.slice (some ⟨b2, o2, none⟩) m cap2)], 32, true⟩, ⟨bq1, [(.int .i64 ((W : Int))), (.int .i64 ((H : Int))), (.slice (some ⟨b, o, none⟩) n cap)], 32, true⟩]) rfl rfl rfl T.sz88 rfl rfl rfl rfl) (fun _ _ => ?_)
          refine GE.thenN ?_
          exact St.mk ((xq35, xq37, bq34, bq39)) trivial (idx := [3, 0, 2, 1, 8, 7, 6, 5, 4]) ((sub_cons rfl ((sub_cons rfl ((sub_cons rfl ((sub_cons rfl ((sub_cons rfl ((sub_cons rfl ((sub_cons rfl ((sub_cons rfl ((sub_nil _)))))))))))))))))) (by decide) rfl
        refine GHs.cons rfl (Stp.alloc T.zr88 (by decide)) (fun _ => (List.Sublist.cons _ (List.Sublist.cons _ (List.Sublist.cons _ (List.Sublist.cons_cons _ (List.Sublist.cons_cons _ (List.Sublist.cons_cons _ (List.Sublist.cons_cons _ (List.Sublist.cons_cons _ (List.nil_sublist _)))))))))) (fun bq40 _ => ?_) ?_
        · refine GH.one 3 rfl (by kernel_rfl) (Stp.callR (σ := Nat) (p := fun rz => True) (v := fun rz => (.func (.func 75) #[] #[(.pointer (some ⟨rz, 0, none⟩))])) (N := fun rz => [⟨rz, [(.int .i64 ((V : Int))), (.int .i64 ((U : Int))), (.slice (some ⟨b2, o2, none⟩) m cap2)], 32, true⟩]) (vs := [(.agg #[(.int .i64 ((V : Int))), (.int .i64 ((U : Int))), (.slice (some ⟨b2, o2, none⟩) m cap2)])]) rfl rfl T.own53 (by decide) (fun wc hw => of V U m cap2 b2 o2 wc)) (fun _ => (List.Sublist.cons _ (List.Sublist.cons _ (List.Sublist.cons _ (List.Sublist.cons _ (List.Sublist.cons_cons _ (List.Sublist.cons_cons _ (List.Sublist.cons_cons _ (List.Sublist.cons_cons _ (List.Sublist.cons_cons _ (List.nil_sublist _))))))))))) (fun xq41 hq42 => ?_)
          refine GH.one 6 rfl (by kernel_rfl) (Stp.storeL (i := 3) (L1 := [⟨xq41, [(.int .i64 ((V : Int))), (.int .i64 ((U : Int))), (.slice (some ⟨b2, o2, none⟩) m cap2)], 32, true⟩, ⟨bq40, [.nilFunc], 88, true⟩, ⟨xq35, [(.int .i64 ((W : Int))), (.int .i64 ((H : Int))), (.slice (some ⟨b, o, none⟩) n cap)], 32, true⟩, ⟨bq34, [(.func (.func 75) #[] #[(.pointer (some ⟨xq35, 0, none⟩))])], 88, true⟩, ⟨bq5, [(.int .i64 0), (.int .i64 0), (.slice none 0 0)], 32, true⟩, ⟨bq4, [(.int .i64 Y)], 3, true⟩, ⟨bq3, [(.int .i64 X)], 3, true⟩, ⟨bq2, [(.int .i64 ((V : Int))), (.int .i64 ((U : Int))), (.slice (some ⟨b2, o2, none⟩) m cap2)], 32, true⟩, ⟨bq1, [(.int .i64 ((W : Int))), (.int .i64 ((H : Int))), (.slice (some ⟨b, o, none⟩) n cap)], 32, true⟩]) rfl rfl rfl T.sz88 rfl rfl rfl rfl) (fun _ => (List.Sublist.cons _ (List.Sublist.cons _ (List.Sublist.cons _ (List.Sublist.cons _ (List.Sublist.cons_cons _ (List.Sublist.cons_cons _ (List.Sublist.cons_cons _ (List.Sublist.cons_cons _ (List.Sublist.cons_cons _ (List.nil_sublist _))))))))))) (fun _ _ => ?_)
          refine GH.done (by kernel_rfl) ?_
          refine GE.thenN ?_
          refine GE.tail rfl (Stp.storeL (i := 1) (L1 := [⟨xq41, [(.int .i64 ((V : Int))), (.int .i64 ((U : Int))), (.slice (some ⟨b2, o2, none⟩) m cap2)], 32, true⟩, ⟨bq40, [(.func (.func 75) #[] #[(.pointer (some ⟨xq41, 0, none⟩))])], 88, true⟩, ⟨xq35, [(.int .i64 ((W : Int))), (.int .i64 ((H : Int))), (.slice (some ⟨b, o, none⟩) n cap)], 32, true⟩, ⟨bq34, [(.func (.func 75) #[] #[(.pointer (some ⟨xq35, 0, none⟩))])], 88, true⟩, ⟨bq5, [(.int .i64 0), (.int .i64 0), (.slice none 0 0)], 32, true⟩, ⟨bq4, [(.int .i64 Y)], 3, true⟩, ⟨bq3, [(.int .i64 X)], 3, true⟩, ⟨bq2, [(.int .i64 ((V : Int))), (.int .i64 ((U : Int))), (.slice (some ⟨b2, o2, none⟩) m cap2)], 32, true⟩, ⟨bq1, [(.int .i64 ((W : Int))), (.int .i64 ((H : Int))), (.slice (some ⟨b, o, none⟩) n cap)], 32, true⟩]) rfl rfl rfl T.sz88 rfl rfl rfl rfl) (fun _ _ => ?_)
          refine GE.thenN ?_
          exact St.mk ((xq35, xq41, bq34, bq40)) trivial (idx := [3, 1, 2, 0, 8, 7, 6, 5, 4]) ((sub_cons rfl ((sub_cons rfl ((sub_cons rfl ((sub_cons rfl ((sub_cons rfl ((sub_cons rfl ((sub_cons rfl ((sub_cons rfl ((sub_nil _)))))))))))))))))) (by decide) rfl
        exact GHs.nil
      refine GHs.cons rfl (Stp.alloc T.zr88 (by decide)) (fun _ => (List.Sublist.cons _ (List.Sublist.cons _ (List.Sublist.cons_cons _ (List.Sublist.cons_cons _ (List.Sublist.cons_cons _ (List.Sublist.cons_cons _ (List.Sublist.cons_cons _ (List.nil_sublist _))))))))) (fun bq43 _ => ?_) ?_
      · refine GH.one 1 rfl (by kernel_rfl) (Stp.callR (σ := Nat) (p := fun rz => True) (v := fun rz => (.func (.func 75) #[] #[(.pointer (some ⟨rz, 0, none⟩))])) (N := fun rz => [⟨rz, [(.int .i64 ((W : Int))), (.int .i64 ((H : Int))), (.slice (some ⟨b, o, none⟩) n cap)], 32, true⟩]) (vs := [(.agg #[(.int .i64 ((W : Int))), (.int .i64 ((H : Int))), (.slice (some ⟨b, o, none⟩) n cap)])]) rfl rfl T.own53 (by decide) (fun wc hw => of W H n cap b o wc)) (fun _ => (List.Sublist.cons _ (List.Sublist.cons _ (List.Sublist.cons _ (List.Sublist.cons_cons _ (List.Sublist.cons_cons _ (List.Sublist.cons_cons _ (List.Sublist.cons_cons _ (List.Sublist.cons_cons _ (List.nil_sublist _)))))))))) (fun xq44 hq45 => ?_)
        refine GH.one 3 rfl (by kernel_rfl) (Stp.callR (σ := Nat) (p := fun rz => True) (v := fun rz => (.func (.func 75) #[] #[(.pointer (some ⟨rz, 0, none⟩))])) (N := fun rz => [⟨rz, [(.int .i64 ((V : Int))), (.int .i64 ((U : Int))), (.slice (some ⟨b2, o2, none⟩) m cap2)], 32, true⟩]) (vs := [(.agg #[(.int .i64 ((V : Int))), (.int .i64 ((U : Int))), (.slice (some ⟨b2, o2, none⟩) m cap2)])]) rfl rfl T.own53 (by decide) (fun wc hw => of V U m cap2 b2 o2 wc)) (fun _ => (List.Sublist.cons _ (List.Sublist.cons _ (List.Sublist.cons _ (List.Sublist.cons _ (List.Sublist.cons_cons _ (List.Sublist.cons_cons _ (List.Sublist.cons_cons _ (List.Sublist.cons_cons _ (List.Sublist.cons_cons _ (List.nil_sublist _))))))))))) (fun xq46 hq47 => ?_)
        refine GH.one 6 rfl (by kernel_rfl) (Stp.storeL (i := 3) (L1 := [⟨xq46, [(.int .i64 ((V : Int))), (.int .i64 ((U : Int))), (.slice (some ⟨b2, o2, none⟩) m cap2)], 32, true⟩, ⟨xq44, [(.int .i64 ((W : Int))), (.int .i64 ((H : Int))), (.slice (some ⟨b, o, none⟩) n cap)], 32, true⟩, ⟨bq43, [.nilFunc], 88, true⟩, ⟨bq34, [(.func (.func 75) #[] #[(.pointer (some ⟨xq44, 0, none⟩))])], 88, true⟩, ⟨bq5, [(.int .i64 0), (.int .i64 0), (.slice none 0 0)], 32, true⟩, ⟨bq4, [(.int .i64 Y)], 3, true⟩, ⟨bq3, [(.int .i64 X)], 3, true⟩, ⟨bq2, [(.int .i64 ((V : Int))), (.int .i64 ((U : Int))), (.slice (some ⟨b2, o2, none⟩) m cap2)], 32, true⟩, ⟨bq1, [(.int .i64 ((W : Int))), (.int .i64 ((H : Int))), (.slice (some ⟨b, o, none⟩) n cap)], 32, true⟩]) rfl rfl rfl T.sz88 rfl rfl rfl rfl) (fun _ => (List.Sublist.cons _ (List.Sublist.cons _ (List.Sublist.cons _ (List.Sublist.cons _ (List.Sublist.cons_cons _ (List.Sublist.cons_cons _ (List.Sublist.cons_cons _ (List.Sublist.cons_cons _ (List.Sublist.cons_cons _ (List.nil_sublist _))))))))))) (fun _ _ => ?_)
        refine GH.done (by kernel_rfl) ?_
        refine GE.thenN ?_
        refine GE.tail rfl (Stp.storeL (i := 2) (L1 := [⟨xq46, [(.int .i64 ((V : Int))), (.int .i64 ((U : Int))), (.slice (some ⟨b2, o2, none⟩) m cap2)], 32, true⟩, ⟨xq44, [(.int .i64 ((W : Int))), (.int .i64 ((H : Int))), (.slice (some ⟨b, o, none⟩) n cap)], 32, true⟩, ⟨bq43, [(.func (.func 75) #[] #[(.pointer (some ⟨xq46, 0, none⟩))])], 88, true⟩, ⟨bq34, [(.func (.func 75) #[] #[(.pointer (some ⟨xq44, 0, none⟩))])], 88, true⟩, ⟨bq5, [(.int .i64 0), (.int .i64 0), (.slice none 0 0)], 32, true⟩, ⟨bq4, [(.int .i64 Y)], 3, true⟩, ⟨bq3, [(.int .i64 X)], 3, true⟩, ⟨bq2, [(.int .i64 ((V : Int))), (.int .i64 ((U : Int))), (.slice (some ⟨b2, o2, none⟩) m cap2)], 32, true⟩, ⟨bq1, [(.int .i64 ((W : Int))), (.int .i64 ((H : Int))), (.slice (some ⟨b, o, none⟩) n cap)], 32, true⟩]) rfl rfl rfl T.sz88 rfl rfl rfl rfl) (fun _ _ => ?_)
        refine GE.thenN ?_
        exact St.mk ((xq44, xq46, bq34, bq43)) trivial (idx := [3, 2, 1, 0, 8, 7, 6, 5, 4]) ((sub_cons rfl ((sub_cons rfl ((sub_cons rfl ((sub_cons rfl ((sub_cons rfl ((sub_cons rfl ((sub_cons rfl ((sub_cons rfl ((sub_nil _)))))))))))))))))) (by decide) rfl
      exact GHs.nil
    refine GHs.cons rfl (Stp.alloc T.zr88 (by decide)) (fun _ => (List.Sublist.cons _ (List.Sublist.cons_cons _ (List.Sublist.cons_cons _ (List.Sublist.cons_cons _ (List.Sublist.cons_cons _ (List.Sublist.cons_cons _ (List.nil_sublist _)))))))) (fun bq48 _ => ?_) ?_
    · refine GH.many (rs := [1, 4]) (by kernel_rfl) (by simp) ?_
      refine GHs.cons rfl (Stp.callR (σ := Nat) (p := fun rz => True) (v := fun rz => (.func (.func 75) #[] #[(.pointer (some ⟨rz, 0, none⟩))])) (N := fun rz => [⟨rz, [(.int .i64 ((W : Int))), (.int .i64 ((H : Int))), (.slice (some ⟨b, o, none⟩) n cap)], 32, true⟩]) (vs := [(.agg #[(.int .i64 ((W : Int))), (.int .i64 ((H : Int))), (.slice (some ⟨b, o, none⟩) n cap)])]) rfl rfl T.own53 (by decide) (fun wc hw => of W H n cap b o wc)) (fun _ => (List.Sublist.cons _ (List.Sublist.cons _ (List.Sublist.cons_cons _ (List.Sublist.cons_cons _ (List.Sublist.cons_cons _ (List.Sublist.cons_cons _ (List.Sublist.cons_cons _ (List.nil_sublist _))))))))) (fun xq49 hq50 => ?_) ?_
      · refine GH.many (rs := [3, 4]) (by kernel_rfl) (by simp) ?_
        refine GHs.cons rfl (Stp.callR (σ := Nat) (p := fun rz => True) (v := fun rz => (.func (.func 75) #[] #[(.pointer (some ⟨rz, 0, none⟩))])) (N := fun rz => [⟨rz, [(.int .i64 ((V : Int))), (.int .i64 ((U : Int))), (.slice (some ⟨b2, o2, none⟩) m cap2)], 32, true⟩]) (vs := [(.agg #[(.int .i64 ((V : Int))), (.int .i64 ((U : Int))), (.slice (some ⟨b2, o2, none⟩) m cap2)])]) rfl rfl T.own53 (by decide) (fun wc hw => of V U m cap2 b2 o2 wc)) (fun _ => (List.Sublist.cons _ (List.Sublist.cons _ (List.Sublist.cons _ (List.Sublist.cons_cons _ (List.Sublist.cons_cons _ (List.Sublist.cons_cons _ (List.Sublist.cons_cons _ (List.Sublist.cons_cons _ (List.nil_sublist _)))))))))) (fun xq51 hq52 => ?_) ?_
        · refine GH.one 4 rfl (by kernel_rfl) (Stp.alloc T.zr88 (by decide)) (fun _ => (List.Sublist.cons _ (List.Sublist.cons _ (List.Sublist.cons _ (List.Sublist.cons _ (List.Sublist.cons_cons _ (List.Sublist.cons_cons _ (List.Sublist.cons_cons _ (List.Sublist.cons_cons _ (List.Sublist.cons_cons _ (List.nil_sublist _))))))))))) (fun bq53 _ => ?_)
          refine GH.one 6 rfl (by kernel_rfl) (Stp.storeL (i := 0) (L1 := [⟨bq53, [(.func (.func 75) #[] #[(.pointer (some ⟨xq49, 0, none⟩))])], 88, true⟩, ⟨xq51, [(.int .i64 ((V : Int))), (.int .i64 ((U : Int))), (.slice (some ⟨b2, o2, none⟩) m cap2)], 32, true⟩, ⟨xq49, [(.int .i64 ((W : Int))), (.int .i64 ((H : Int))), (.slice (some ⟨b, o, none⟩) n cap)], 32, true⟩, ⟨bq48, [.nilFunc], 88, true⟩, ⟨bq5, [(.int .i64 0), (.int .i64 0), (.slice none 0 0)], 32, true⟩, ⟨bq4, [(.int .i64 Y)], 3, true⟩, ⟨bq3, [(.int .i64 X)], 3, true⟩, ⟨bq2, [(.int .i64 ((V : Int))), (.int .i64 ((U : Int))), (.slice (some ⟨b2, o2, none⟩) m cap2)], 32, true⟩, ⟨bq1, [(.int .i64 ((W : Int))), (.int .i64 ((H : Int))), (.slice (some ⟨b, o, none⟩) n cap)], 32, true⟩]) rfl rfl rfl T.sz88 rfl rfl rfl rfl) (fun _ => (List.Sublist.cons _ (List.Sublist.cons _ (List.Sublist.cons _ (List.Sublist.cons _ (List.Sublist.cons_cons _ (List.Sublist.cons_cons _ (List.Sublist.cons_cons _ (List.Sublist.cons_cons _ (List.Sublist.cons_cons _ (List.nil_sublist _))))))))))) (fun _ _ => ?_)
          refine GH.done (by kernel_rfl) ?_
          refine GE.thenN ?_
          refine GE.tail rfl (Stp.storeL (i := 3) (L1 := [⟨bq53, [(.func (.func 75) #[] #[(.pointer (some ⟨xq49, 0, none⟩))])], 88, true⟩, ⟨xq51, [(.int .i64 ((V : Int))), (.int .i64 ((U : Int))), (.slice (some ⟨b2, o2, none⟩) m cap2)], 32, true⟩, ⟨xq49, [(.int .i64 ((W : Int))), (.int .i64 ((H : Int))), (.slice (some ⟨b, o, none⟩) n cap)], 32, true⟩, ⟨bq48, [(.func (.func 75) #[] #[(.pointer (some ⟨xq51, 0, none⟩))])], 88, true⟩, ⟨bq5, [(.int .i64 0), (.int .i64 0), (.slice none 0 0)], 32, true⟩, ⟨bq4, [(.int .i64 Y)], 3, true⟩, ⟨bq3, [(.int .i64 X)], 3, true⟩, ⟨bq2, [(.int .i64 ((V : Int))), (.int .i64 ((U : Int))), (.slice (some ⟨b2, o2, none⟩) m cap2)], 32, true⟩, ⟨bq1, [(.int .i64 ((W : Int))), (.int .i64 ((H : Int))), (.slice (some ⟨b, o, none⟩) n cap)], 32, true⟩]) rfl rfl rfl T.sz88 rfl rfl rfl rfl) (fun _ _ => ?_)
          refine GE.thenN ?_
          exact St.mk ((xq49, xq51, bq53, bq48)) trivial (idx := [0, 3, 2, 1, 8, 7, 6, 5, 4]) ((sub_cons rfl ((sub_cons rfl ((sub_cons rfl ((sub_cons rfl ((sub_cons rfl ((sub_cons rfl ((sub_cons rfl ((sub_cons rfl ((sub_nil _)))))))))))))))))) (by decide) rfl
        refine GHs.cons rfl (Stp.alloc T.zr88 (by decide)) (fun _ => (List.Sublist.cons _ (List.Sublist.cons _ (List.Sublist.cons _ (List.Sublist.cons_cons _ (List.Sublist.cons_cons _ (List.Sublist.cons_cons _ (List.Sublist.cons_cons _ (List.Sublist.cons_cons _ (List.nil_sublist _)))))))))) (fun bq54 _ => ?_) ?_
        · refine GH.one 3 rfl (by kernel_rfl) (Stp.callR (σ := Nat) (p := fun rz => True) (v := fun rz => (.func (.func 75) #[] #[(.pointer (some ⟨rz, 0, none⟩))])) (N := fun rz => [⟨rz, [(.int .i64 ((V : Int))), (.int .i64 ((U : Int))), (.slice (some ⟨b2, o2, none⟩) m cap2)], 32, true⟩]) (vs := [(.agg #[(.int .i64 ((V : Int))), (.int .i64 ((U : Int))), (.slice (some ⟨b2, o2, none⟩) m cap2)])]) rfl rfl T.own53 (by decide) (fun wc hw => of V U m cap2 b2 o2 wc)) (fun _ => (List.Sublist.cons _ (List.Sublist.cons _ (List.Sublist.cons _ (List.Sublist.cons _ (List.Sublist.cons_cons _ (List.Sublist.cons_cons _ (List.Sublist.cons_cons _ (List.Sublist.cons_cons _ (List.Sublist.cons_cons _ (List.nil_sublist _))))))))))) (fun xq55 hq56 => ?_)
          refine GH.one 6 rfl (by kernel_rfl) (Stp.storeL (i := 1) (L1 := [⟨xq55, [(.int .i64 ((V : Int))), (.int .i64 ((U : Int))), (.slice (some ⟨b2, o2, none⟩) m cap2)], 32, true⟩, ⟨bq54, [(.func (.func 75) #[] #[(.pointer (some ⟨xq49, 0, none⟩))])], 88, true⟩, ⟨xq49, [(.int .i64 ((W : Int))), (.int .i64 ((H : Int))), (.slice (some ⟨b, o, none⟩) n cap)], 32, true⟩, ⟨bq48, [.nilFunc], 88, true⟩, ⟨bq5, [(.int .i64 0), (.int .i64 0), (.slice none 0 0)], 32, true⟩, ⟨bq4, [(.int .i64 Y)], 3, true⟩, ⟨bq3, [(.int .i64 X)], 3, true⟩, ⟨bq2, [(.int .i64 ((V : Int))), (.int .i64 ((U : Int))), (.slice (some ⟨b2, o2, none⟩) m cap2)], 32, true⟩, ⟨bq1, [(.int .i64 ((W : Int))), (.int .i64 ((H : Int))), (.slice (some ⟨b, o, none⟩) n cap)], 32, true⟩]) rfl rfl rfl T.sz88 rfl rfl rfl rfl) (fun _ => (List.Sublist.cons _ (List.Sublist.cons _ (List.Sublist.cons _ (List.Sublist.cons _ (List.Sublist.cons_cons _ (List.Sublist.cons_cons _ (List.Sublist.cons_cons _ (List.Sublist.cons_cons _ (List.Sublist.cons_cons _ (List.nil_sublist _))))))))))) (fun _ _ => ?_)
          refine GH.done (by kernel_rfl) ?_
          refine GE.thenN ?_
          refine GE.tail rfl (Stp.storeL (i := 3) (L1 := [⟨xq55, [(.int .i64 ((V : Int))), (.int .i64 ((U : Int))), (.slice (some ⟨b2, o2, none⟩) m cap2)], 32, true⟩, ⟨bq54, [(.func (.func 75) #[] #[(.pointer (some ⟨xq49, 0, none⟩))])], 88, true⟩, ⟨xq49, [(.int .i64 ((W : Int))), (.int .i64 ((H : Int))), (.slice (some ⟨b, o, none⟩) n cap)], 32, true⟩, ⟨bq48, [(.func (.func 75) #[] #[(.pointer (some ⟨xq55, 0, none⟩))])], 88, true⟩, ⟨bq5, [(.int .i64 0), (.int .i64 0), (.slice none 0 0)], 32, true⟩, ⟨bq4, [(.int .i64 Y)], 3, true⟩, ⟨bq3, [(.int .i64 X)], 3, true⟩, ⟨bq2, [(.int .i64 ((V : Int))), (.int .i64 ((U : Int))), (.slice (some ⟨b2, o2, none⟩) m cap2)], 32, true⟩, ⟨bq1, [(.int .i64 ((W : Int))), (.int .i64 ((H : Int))), (.slice (some ⟨b, o, none⟩) n cap)], 32, true⟩]) rfl rfl rfl T.sz88 rfl rfl rfl rfl) (fun _ _ => ?_)
          refine GE.thenN ?_
          exact St.mk ((xq49, xq55, bq54, bq48)) trivial (idx := [1, 3, 2, 0, 8, 7, 6, 5, 4]) ((sub_cons rfl ((sub_cons rfl ((sub_cons rfl ((sub_cons rfl ((sub_cons rfl ((sub_cons rfl ((sub_cons rfl ((sub_cons rfl ((sub_nil _)))))))))))))))))) (by decide) rfl
        exact GHs.nil
      refine GHs.cons rfl (Stp.alloc T.zr88 (by decide)) (fun _ => (List.Sublist.cons _ (List.Sublist.cons _ (List.Sublist.cons_cons _ (List.Sublist.cons_cons _ (List.Sublist.cons_cons _ (List.Sublist.cons_cons _ (List.Sublist.cons_cons _ (List.nil_sublist _))))))))) (fun bq57 _ => ?_) ?_
      · refine GH.one 1 rfl (by kernel_rfl) (Stp.callR (σ := Nat) (p := fun rz => True) (v := fun rz => (.func (.func 75) #[] #[(.pointer (some ⟨rz, 0, none⟩))])) (N := fun rz => [⟨rz, [(.int .i64 ((W : Int))), (.int .i64 ((H : Int))), (.slice (some ⟨b, o, none⟩) n cap)], 32, true⟩]) (vs := [(.agg #[(.int .i64 ((W : Int))), (.int .i64 ((H : Int))), (.slice (some ⟨b, o, none⟩) n cap)])]) rfl rfl T.own53 (by decide) (fun wc hw => of W H n cap b o wc)) (fun _ => (List.Sublist.cons _ (List.Sublist.cons _ (List.Sublist.cons _ (List.Sublist.cons_cons _ (List.Sublist.cons_cons _ (List.Sublist.cons_cons _ (List.Sublist.cons_cons _ (List.Sublist.cons_cons _ (List.nil_sublist _)))))))))) (fun xq58 hq59 => ?_)
        refine GH.one 3 rfl (by kernel_rfl) (Stp.callR (σ := Nat) (p := fun rz => True) (v := fun rz => (.func (.func 75) #[] #[(.pointer (some ⟨rz, 0, none⟩))])) (N := fun rz => [⟨rz, [(.int .i64 ((V : Int))), (.int .i64 ((U : Int))), (.slice (some ⟨b2, o2, none⟩) m cap2)], 32, true⟩]) (vs := [(.agg #[(.int .i64 ((V : Int))), (.int .i64 ((U : Int))), (.slice (some ⟨b2, o2, none⟩) m cap2)])]) rfl rfl T.own53 (by decide) (fun wc hw => of V U m cap2 b2 o2 wc)) (fun _ => (List.Sublist.cons _ (List.Sublist.cons _ (List.Sublist.cons _ (List.Sublist.cons _ (List.Sublist.cons_cons _ (List.Sublist.cons_cons _ (List.Sublist.cons_cons _ (List.Sublist.cons_cons _ (List.Sublist.cons_cons _ (List.nil_sublist _))))))))))) (fun xq60 hq61 => ?_)
        refine GH.one 6 rfl (by kernel_rfl) (Stp.storeL (i := 2) (L1 := [⟨xq60, [(.int .i64 ((V : Int))), (.int .i64 ((U : Int))), (.slice (some ⟨b2, o2, none⟩) m cap2)], 32, true⟩, ⟨xq58, [(.int .i64 ((W : Int))), (.int .i64 ((H : Int))), (.slice (some ⟨b, o, none⟩) n cap)], 32, true⟩, ⟨bq57, [(.func (.func 75) #[] #[(.pointer (some ⟨xq58, 0, none⟩))])], 88, true⟩, ⟨bq48, [.nilFunc], 88, true⟩, ⟨bq5, [(.int .i64 0), (.int .i64 0), (.slice none 0 0)], 32, true⟩, ⟨bq4, [(.int .i64 Y)], 3, true⟩, ⟨bq3, [(.int .i64 X)], 3, true⟩, ⟨bq2, [(.int .i64 ((V : Int))), (.int .i64 ((U : Int))), (.slice (some ⟨b2, o2, none⟩) m cap2)], 32, true⟩, ⟨bq1, [(.int .i64 ((W : Int))), (.int .i64 ((H : Int))), (.slice (some ⟨b, o, none⟩) n cap)], 32, true⟩]) rfl rfl rfl T.sz88 rfl rfl rfl rfl) (fun _ => (List.Sublist.cons _ (List.Sublist.cons _ (List.Sublist.cons _ (List.Sublist.cons _ (List.Sublist.cons_cons _ (List.Sublist.cons_cons _ (List.Sublist.cons_cons _ (List.Sublist.cons_cons _ (List.Sublist.cons_cons _ (List.nil_sublist _))))))))))) (fun _ _ => ?_)
        refine GH.done (by kernel_rfl) ?_
        refine GE.thenN ?_
        refine GE.tail rfl (Stp.storeL (i := 3) (L1 := [⟨xq60, [(.int .i64 ((V : Int))), (.int .i64 ((U : Int))), (.slice (some ⟨b2, o2, none⟩) m cap2)], 32, true⟩, ⟨xq58, [(.int .i64 ((W : Int))), (.int .i64 ((H : Int))), (.slice (some ⟨b, o, none⟩) n cap)], 32, true⟩, ⟨bq57, [(.func (.func 75) #[] #[(.pointer (some ⟨xq58, 0, none⟩))])], 88, true⟩, ⟨bq48, [(.func (.func 75) #[] #[(.pointer (some ⟨xq60, 0, none⟩))])], 88, true⟩, ⟨bq5, [(.int .i64 0), (.int .i64 0), (.slice none 0 0)], 32, true⟩, ⟨bq4, [(.int .i64 Y)], 3, true⟩, ⟨bq3, [(.int .i64 X)], 3, true⟩, ⟨bq2, [(.int .i64 ((V : Int))), (.int .i64 ((U : Int))), (.slice (some ⟨b2, o2, none⟩) m cap2)], 32, true⟩, ⟨bq1, [(.int .i64 ((W : Int))), (.int .i64 ((H : Int))), (.slice (some ⟨b, o, none⟩) n cap)], 32, true⟩]) rfl rfl rfl T.sz88 rfl rfl rfl rfl) (fun _ _ => ?_)
        refine GE.thenN ?_
        exact St.mk ((xq58, xq60, bq57, bq48)) trivial (idx := [2, 3, 1, 0, 8, 7, 6, 5, 4]) ((sub_cons rfl ((sub_cons rfl ((sub_cons rfl ((sub_cons rfl ((sub_cons rfl ((sub_cons rfl ((sub_cons rfl ((sub_cons rfl ((sub_nil _)))))))))))))))))) (by decide) rfl
      exact GHs.nil
    exact GHs.nil
  refine GE.thenN ?_
  refine GC.seq ?_
  refine GC.region ?_
  refine GL.val (v := (.pointer (some ⟨bq1, 0, none⟩))) (Ex.cast (Ex.fieldAddr rfl Try.underlying32 rfl T.sz3 (by decide)) rfl) (by decide) ?_
  refine GL.val (v := (.int .i64 ((W : Int)))) (Ex.load rfl T.ag3 (i := 4) rfl rfl) (by decide) ?_
  refine GL.val (v := (.pointer (some ⟨bq1, 1, none⟩))) (Ex.cast (Ex.fieldAddr rfl Try.underlying32 rfl T.sz3 (by decide)) rfl) (by decide) ?_
  refine GL.val (v := (.int .i64 ((H : Int)))) (Ex.load rfl T.ag3 (i := 4) rfl rfl) (by decide) ?_
  refine GL.val (v := (.func (.func 59) #[] #[(.pointer (some ⟨bq3, 0, none⟩)), (.pointer (some ⟨bq2, 0, none⟩)), (.pointer (some ⟨bq4, 0, none⟩)), (.pointer (some ⟨j.2.2.2, 0, none⟩)), (.pointer (some ⟨j.2.2.1, 0, none⟩))])) (Ex.func (cs := [(.pointer (some ⟨bq3, 0, none⟩)), (.pointer (some ⟨bq2, 0, none⟩)), (.pointer (some ⟨bq4, 0, none⟩)), (.pointer (some ⟨j.2.2.2, 0, none⟩)), (.pointer (some ⟨j.2.2.1, 0, none⟩))]) rfl (fun _ hF => hF.evals _ _ rfl)) (by decide) ?_
  refine GL.val (v := (.agg #[(.int .i64 ((W : Int))), (.int .i64 ((H : Int))), (.func (.func 59) #[] #[(.pointer (some ⟨bq3, 0, none⟩)), (.pointer (some ⟨bq2, 0, none⟩)), (.pointer (some ⟨bq4, 0, none⟩)), (.pointer (some ⟨j.2.2.2, 0, none⟩)), (.pointer (some ⟨j.2.2.1, 0, none⟩))])])) (Ex.build (vs := [(0, (.int .i64 ((W : Int)))), (1, (.int .i64 ((H : Int)))), (2, (.func (.func 59) #[] #[(.pointer (some ⟨bq3, 0, none⟩)), (.pointer (some ⟨bq2, 0, none⟩)), (.pointer (some ⟨bq4, 0, none⟩)), (.pointer (some ⟨j.2.2.2, 0, none⟩)), (.pointer (some ⟨j.2.2.1, 0, none⟩))]))]) rfl (by first | rfl | kernel_rfl)) (by decide) ?_
  refine GL.step (Stp.callR (σ := Nat) (p := fun rz => True) (v := fun rz => (.agg #[(.int .i64 (((W : Nat) : Int))), (.int .i64 (((H : Nat) : Int))), (.slice (some ⟨rz, 0, none⟩) ((W) * (H)) ((W) * (H)))])) (N := fun rz => [⟨rz, (tab (W) (pst X Y V U (smp xs W) (smp ys V)) ((W) * (H))).map u32, 72, true⟩]) (vs := [(.agg #[(.int .i64 ((W : Int))), (.int .i64 ((H : Int))), (.func (.func 59) #[] #[(.pointer (some ⟨bq3, 0, none⟩)), (.pointer (some ⟨bq2, 0, none⟩)), (.pointer (some ⟨bq4, 0, none⟩)), (.pointer (some ⟨j.2.2.2, 0, none⟩)), (.pointer (some ⟨j.2.2.1, 0, none⟩))])])]) rfl rfl T.own55 (by decide) (fun wc hw => made (W) (H) (59) (#[(.pointer (some ⟨bq3, 0, none⟩)), (.pointer (some ⟨bq2, 0, none⟩)), (.pointer (some ⟨bq4, 0, none⟩)), (.pointer (some ⟨j.2.2.2, 0, none⟩)), (.pointer (some ⟨j.2.2.1, 0, none⟩))]) (pst X Y V U (smp xs W) (smp ys V)) wc ⟨T.own59, fun i k hi' hk' w3 hk3 => pasteC i k W H V U m cap2 b2 o2 bq3 bq4 bq2 j.2.2.2 j.2.2.1 X Y 75 75 #[.pointer (some ⟨j.1, 0, none⟩)] #[.pointer (some ⟨j.2.1, 0, none⟩)] (smp xs W) (smp ys V) w3 ((Has.cons (o := true) (hw.get (i := 6) rfl) (Has.nil _)).later hk3 _ List.mem_cons_self) ((Has.cons (o := true) (hw.get (i := 5) rfl) (Has.nil _)).later hk3 _ List.mem_cons_self) ((Has.cons (o := true) (hw.get (i := 7) rfl) (Has.nil _)).later hk3 _ List.mem_cons_self) ((Has.cons (o := true) (hw.get (i := 1) rfl) (Has.nil _)).later hk3 _ List.mem_cons_self) ((Has.cons (o := true) (hw.get (i := 0) rfl) (Has.nil _)).later hk3 _ List.mem_cons_self) ((of_fb W H n cap b o j.1 true xs w hok hn hx hr).fn2 (hw.1.two hk3) ((Has.cons (hw.get (i := 2) rfl) (Has.nil _)).later hk3)) ((of_fb V U m cap2 b2 o2 j.2.1 true ys w hok2 hm hx2 hr2).fn2 (hw.1.two hk3) ((Has.cons (hw.get (i := 3) rfl) (Has.nil _)).later hk3)) hi' hk' hok hok2 hX hY⟩ hok.2.2.1 hok.2.2.2.1 hok.2.2.2.2)) (fun xq62 hq63 => ?_)
  refine GL.step (Stp.storeL (i := 9) (L1 := [⟨xq62, (tab (W) (pst X Y V U (smp xs W) (smp ys V)) ((W) * (H))).map u32, 72, true⟩, ⟨j.2.2.1, [(.func (.func 75) #[] #[(.pointer (some ⟨j.1, 0, none⟩))])], 88, true⟩, ⟨j.2.2.2, [(.func (.func 75) #[] #[(.pointer (some ⟨j.2.1, 0, none⟩))])], 88, true⟩, ⟨j.1, [(.int .i64 ((W : Int))), (.int .i64 ((H : Int))), (.slice (some ⟨b, o, none⟩) n cap)], 32, true⟩, ⟨j.2.1, [(.int .i64 ((V : Int))), (.int .i64 ((U : Int))), (.slice (some ⟨b2, o2, none⟩) m cap2)], 32, true⟩, ⟨bq1, [(.int .i64 ((W : Int))), (.int .i64 ((H : Int))), (.slice (some ⟨b, o, none⟩) n cap)], 32, true⟩, ⟨bq2, [(.int .i64 ((V : Int))), (.int .i64 ((U : Int))), (.slice (some ⟨b2, o2, none⟩) m cap2)], 32, true⟩, ⟨bq3, [(.int .i64 X)], 3, true⟩, ⟨bq4, [(.int .i64 Y)], 3, true⟩, ⟨bq5, [(.int .i64 (((W : Nat) : Int))), (.int .i64 (((H : Nat) : Int))), (.slice (some ⟨xq62, 0, none⟩) ((W) * (H)) ((W) * (H)))], 32, true⟩]) rfl rfl rfl T.sz32 rfl rfl rfl rfl) (fun _ _ => ?_)
  refine GL.val (v := (.int .i64 0)) (Ex.assign rfl) (by decide) ?_
  refine GL.nil ?_
  refine GE.thenN ?_
  refine GC.ret ?_
  refine GC.ret2 rfl (Rv.cellA rfl T.ag32 T.sz32 (L := _) (i := 9) rfl (vs := [(.int .i64 (((W : Nat) : Int))), (.int .i64 (((H : Nat) : Int))), (.slice (some ⟨xq62, 0, none⟩) ((W) * (H)) ((W) * (H)))]) rfl rfl) (Rv.tmp rfl) (fun wN HN => ?_)
  exact HN.ret (xq62) trivial rfl (List.Sublist.cons_cons _ (List.Sublist.cons _ (List.Sublist.cons _ (List.Sublist.cons _ (List.Sublist.cons _ (List.Sublist.cons _ (List.Sublist.cons _ (List.Sublist.cons _ (List.Sublist.cons _ (List.Sublist.cons _ (List.nil_sublist _))))))))))) rfl

set_option maxRecDepth 100000 in
set_option maxHeartbeats 1000000 in
theorem paste_inv (W H : Int) (ad : Option Addr) (n cap : Nat) (W2 H2 : Int) (ad2 : Option Addr) (m cap2 : Nat) (X Y : Int) (w : World) (hc : chk W H n ≠ 0) :
    Calls Try.prog 25 #[(.agg #[(.int .i64 W), (.int .i64 H), (.slice ad n cap)]), (.agg #[(.int .i64 W2), (.int .i64 H2), (.slice ad2 m cap2)]), (.int .i64 X), (.int .i64 Y)] w (Ret w (fun _ : Unit => True) (fun _ => .tuple #[(.agg #[.int .i64 0, .int .i64 0, .slice none 0 0]), .int .i64 (chk W H n)]) (fun _ => [])) := by
  refine enter (M := None) (L := []) (n := 37) (l := [(0, (.agg #[(.int .i64 W), (.int .i64 H), (.slice ad n cap)])), (1, (.agg #[(.int .i64 W2), (.int .i64 H2), (.slice ad2 m cap2)])), (2, (.int .i64 X)), (3, (.int .i64 Y))]) Try.func25 rfl rfl (Args.cons rfl (Args.cons rfl (Args.cons rfl (Args.cons rfl (Args.nil _))))) (Hp.start _ _) ?_
  refine GC.seq ?_
  refine GC.region ?_
  refine GL.step (Stp.box (cs := [(.int .i64 W), (.int .i64 H), (.slice ad n cap)]) rfl rfl (by decide)) (fun bq1 _ => ?_)
  refine GL.step (Stp.box (cs := [(.int .i64 W2), (.int .i64 H2), (.slice ad2 m cap2)]) rfl rfl (by decide)) (fun bq2 _ => ?_)
  refine GL.step (Stp.box (cs := [(.int .i64 X)]) rfl rfl (by decide)) (fun bq3 _ => ?_)
  refine GL.step (Stp.box (cs := [(.int .i64 Y)]) rfl rfl (by decide)) (fun bq4 _ => ?_)
  refine GL.step (Stp.alloc T.zr32 (by decide)) (fun bq5 _ => ?_)
  refine GL.val (v := (.int .i64 0)) (Ex.assign rfl) (by decide) ?_
  refine GL.nil ?_
  refine GE.thenN ?_
  refine GC.seq ?_
  refine GC.seq ?_
  refine GC.region ?_
  refine GL.val (v := (.agg #[(.int .i64 W), (.int .i64 H), (.slice ad n cap)])) (Ex.loadA rfl T.ag32 T.sz32 (i := 4) rfl (vs := [(.int .i64 W), (.int .i64 H), (.slice ad n cap)]) rfl rfl) (by decide) ?_
  refine GL.step (Stp.callR (σ := Unit) (p := fun rz => True) (v := fun rz => (.int .i64 (chk W H n))) (N := fun rz => []) (vs := [(.agg #[(.int .i64 W), (.int .i64 H), (.slice ad n cap)])]) rfl rfl T.own36 (by decide) (fun wc hw => check W H ad n cap wc)) (fun xq6 hq7 => ?_)
  refine GL.val (v := (.int .i64 (chk W H n))) (Ex.assign rfl) (by decide) ?_
  refine GL.nil ?_
  refine GE.thenN ?_
  refine GC.seq ?_
  refine GC.region ?_
  refine GL.val (v := (.int .i64 (chk W H n))) (Ex.move rfl) (by decide) ?_
  refine GL.val (v := (.bool (decide ((chk W H n) ≠ 0)))) (Ex.neq rfl rfl) (by decide) ?_
  refine GL.nil ?_
  refine GE.thenN ?_
  refine GC.cond rfl (fun _ => ?_) (fun hq8 => by exfalso; have hq8 := of_decide_eq_false hq8; omega)
  refine GC.seq ?_
  refine GC.region ?_
  refine GL.val (v := (.agg #[(.int .i64 0), (.int .i64 0), (.slice none 0 0)])) (Ex.build (vs := []) rfl (by first | rfl | kernel_rfl)) (by decide) ?_
  refine GL.val (v := (.int .i64 (chk W H n))) (Ex.move rfl) (by decide) ?_
  refine GL.step (Stp.storeL (i := 0) (L1 := [⟨bq5, [(.int .i64 0), (.int .i64 0), (.slice none 0 0)], 32, true⟩, ⟨bq4, [(.int .i64 Y)], 3, true⟩, ⟨bq3, [(.int .i64 X)], 3, true⟩, ⟨bq2, [(.int .i64 W2), (.int .i64 H2), (.slice ad2 m cap2)], 32, true⟩, ⟨bq1, [(.int .i64 W), (.int .i64 H), (.slice ad n cap)], 32, true⟩]) rfl rfl rfl T.sz32 rfl rfl rfl rfl) (fun _ _ => ?_)
  refine GL.val (v := (.int .i64 (chk W H n))) (Ex.assign rfl) (by decide) ?_
  refine GL.nil ?_
  refine GE.thenN ?_
  refine GC.ret ?_
  refine GE.thenR ?_
  refine GC.ret2 rfl (Rv.cellA rfl T.ag32 T.sz32 (L := _) (i := 0) rfl (vs := [(.int .i64 0), (.int .i64 0), (.slice none 0 0)]) rfl rfl) (Rv.tmp rfl) (fun wN HN => ?_)
  exact HN.ret () trivial rfl (List.nil_sublist _) rfl

set_option maxRecDepth 100000 in
set_option maxHeartbeats 1000000 in
theorem paste_inv2 (W H : Int) (ad : Option Addr) (n cap : Nat) (W2 H2 : Int) (ad2 : Option Addr) (m cap2 : Nat) (X Y : Int) (w : World) (hc : chk W H n = 0) (hc2 : chk W2 H2 m ≠ 0) :
    Calls Try.prog 25 #[(.agg #[(.int .i64 W), (.int .i64 H), (.slice ad n cap)]), (.agg #[(.int .i64 W2), (.int .i64 H2), (.slice ad2 m cap2)]), (.int .i64 X), (.int .i64 Y)] w (Ret w (fun _ : Unit => True) (fun _ => .tuple #[(.agg #[.int .i64 0, .int .i64 0, .slice none 0 0]), .int .i64 (chk W2 H2 m)]) (fun _ => [])) := by
  refine enter (M := None) (L := []) (n := 37) (l := [(0, (.agg #[(.int .i64 W), (.int .i64 H), (.slice ad n cap)])), (1, (.agg #[(.int .i64 W2), (.int .i64 H2), (.slice ad2 m cap2)])), (2, (.int .i64 X)), (3, (.int .i64 Y))]) Try.func25 rfl rfl (Args.cons rfl (Args.cons rfl (Args.cons rfl (Args.cons rfl (Args.nil _))))) (Hp.start _ _) ?_
  refine GC.seq ?_
  refine GC.region ?_
  refine GL.step (Stp.box (cs := [(.int .i64 W), (.int .i64 H), (.slice ad n cap)]) rfl rfl (by decide)) (fun bq1 _ => ?_)
  refine GL.step (Stp.box (cs := [(.int .i64 W2), (.int .i64 H2), (.slice ad2 m cap2)]) rfl rfl (by decide)) (fun bq2 _ => ?_)
  refine GL.step (Stp.box (cs := [(.int .i64 X)]) rfl rfl (by decide)) (fun bq3 _ => ?_)
  refine GL.step (Stp.box (cs := [(.int .i64 Y)]) rfl rfl (by decide)) (fun bq4 _ => ?_)
  refine GL.step (Stp.alloc T.zr32 (by decide)) (fun bq5 _ => ?_)
  refine GL.val (v := (.int .i64 0)) (Ex.assign rfl) (by decide) ?_
  refine GL.nil ?_
  refine GE.thenN ?_
  refine GC.seq ?_
  refine GC.seq ?_
  refine GC.region ?_
  refine GL.val (v := (.agg #[(.int .i64 W), (.int .i64 H), (.slice ad n cap)])) (Ex.loadA rfl T.ag32 T.sz32 (i := 4) rfl (vs := [(.int .i64 W), (.int .i64 H), (.slice ad n cap)]) rfl rfl) (by decide) ?_
  refine GL.step (Stp.callR (σ := Unit) (p := fun rz => True) (v := fun rz => (.int .i64 (chk W H n))) (N := fun rz => []) (vs := [(.agg #[(.int .i64 W), (.int .i64 H), (.slice ad n cap)])]) rfl rfl T.own36 (by decide) (fun wc hw => check W H ad n cap wc)) (fun xq6 hq7 => ?_)
  refine GL.val (v := (.int .i64 (chk W H n))) (Ex.assign rfl) (by decide) ?_
  refine GL.nil ?_
  refine GE.thenN ?_
  refine GC.seq ?_
  refine GC.region ?_
  refine GL.val (v := (.int .i64 (chk W H n))) (Ex.move rfl) (by decide) ?_
  refine GL.val (v := (.bool (decide ((chk W H n) ≠ 0)))) (Ex.neq rfl rfl) (by decide) ?_
  refine GL.nil ?_
  refine GE.thenN ?_
  refine GC.cond rfl (fun hq8 => by exfalso; have hq8 := of_decide_eq_true hq8; omega) (fun _ => ?_)
  refine GC.skip ?_
  refine GE.thenN ?_
  refine GC.seq ?_
  refine GC.seq ?_
  refine GC.region ?_
  refine GL.val (v := (.agg #[(.int .i64 W2), (.int .i64 H2), (.slice ad2 m cap2)])) (Ex.loadA rfl T.ag32 T.sz32 (i := 3) rfl (vs := [(.int .i64 W2), (.int .i64 H2), (.slice ad2 m cap2)]) rfl rfl) (by decide) ?_
  refine GL.step (Stp.callR (σ := Unit) (p := fun rz => True) (v := fun rz => (.int .i64 (chk W2 H2 m))) (N := fun rz => []) (vs := [(.agg #[(.int .i64 W2), (.int .i64 H2), (.slice ad2 m cap2)])]) rfl rfl T.own36 (by decide) (fun wc hw => check W2 H2 ad2 m cap2 wc)) (fun xq9 hq10 => ?_)
  refine GL.val (v := (.int .i64 (chk W2 H2 m))) (Ex.assign rfl) (by decide) ?_
  refine GL.nil ?_
  refine GE.thenN ?_
  refine GC.seq ?_
  refine GC.region ?_
  refine GL.val (v := (.int .i64 (chk W2 H2 m))) (Ex.move rfl) (by decide) ?_
  refine GL.val (v := (.bool (decide ((chk W2 H2 m) ≠ 0)))) (Ex.neq rfl rfl) (by decide) ?_
  refine GL.nil ?_
  refine GE.thenN ?_
  refine GC.cond rfl (fun _ => ?_) (fun hq11 => by exfalso; have hq11 := of_decide_eq_false hq11; omega)
  refine GC.seq ?_
  refine GC.region ?_
  refine GL.val (v := (.agg #[(.int .i64 0), (.int .i64 0), (.slice none 0 0)])) (Ex.build (vs := []) rfl (by first | rfl | kernel_rfl)) (by decide) ?_
  refine GL.val (v := (.int .i64 (chk W2 H2 m))) (Ex.move rfl) (by decide) ?_
  refine GL.step (Stp.storeL (i := 0) (L1 := [⟨bq5, [(.int .i64 0), (.int .i64 0), (.slice none 0 0)], 32, true⟩, ⟨bq4, [(.int .i64 Y)], 3, true⟩, ⟨bq3, [(.int .i64 X)], 3, true⟩, ⟨bq2, [(.int .i64 W2), (.int .i64 H2), (.slice ad2 m cap2)], 32, true⟩, ⟨bq1, [(.int .i64 W), (.int .i64 H), (.slice ad n cap)], 32, true⟩]) rfl rfl rfl T.sz32 rfl rfl rfl rfl) (fun _ _ => ?_)
  refine GL.val (v := (.int .i64 (chk W2 H2 m))) (Ex.assign rfl) (by decide) ?_
  refine GL.nil ?_
  refine GE.thenN ?_
  refine GC.ret ?_
  refine GE.thenR ?_
  refine GC.ret2 rfl (Rv.cellA rfl T.ag32 T.sz32 (L := _) (i := 0) rfl (vs := [(.int .i64 0), (.int .i64 0), (.slice none 0 0)]) rfl rfl) (Rv.tmp rfl) (fun wN HN => ?_)
  exact HN.ret () trivial rfl (List.nil_sublist _) rfl

set_option maxRecDepth 100000 in
set_option maxHeartbeats 1000000 in
theorem min4 (bs : Nat) (p q r s : Int) (w : World) (h1 : w.heap[bs]? = some (.cells #[.int .i64 p, .int .i64 q, .int .i64 r, .int .i64 s] 3 (0, 0))) :
    Calls Try.prog 50 #[(.slice (some ⟨bs, 0, none⟩) 4 4)] w (Ret w (fun _ : Unit => True) (fun _ => .int .i64 (min (min (min p q) r) s)) (fun _ => [])) := by
  refine enter (M := None) (L := [⟨bs, [(.int .i64 p), (.int .i64 q), (.int .i64 r), (.int .i64 s)], 3, false⟩]) (n := 25) (l := [(0, (.slice (some ⟨bs, 0, none⟩) 4 4))]) Try.func50 rfl rfl (Args.cons rfl (Args.nil _)) (Hp.reads (Has.cons h1 (Has.nil _)) rfl) ?_
  refine GC.seq ?_
  refine GC.region ?_
  refine GL.val (v := (.int .i64 0)) (Ex.assign rfl) (by decide) ?_
  refine GL.nil ?_
  refine GE.thenN ?_
  refine GC.seq ?_
  refine GC.seq ?_
  refine GC.region ?_
  refine GL.val (v := (.slice (some ⟨bs, 0, none⟩) 4 4)) (Ex.move rfl) (by decide) ?_
  refine GL.val (v := (.int .i64 4)) (Ex.len rfl Try.underlying38) (by decide) ?_
  refine GL.val (v := (.bool false)) (Ex.cast (Ex.lss rfl rfl) rfl) (by decide) ?_
  refine GL.nil ?_
  refine GE.thenN ?_
  refine GC.cond rfl (fun hq1 => by cases hq1) (fun _ => ?_)
  refine GC.skip ?_
  refine GE.thenN ?_
  refine GC.seq ?_
  refine GC.region ?_
  refine GL.val (v := (.slice (some ⟨bs, 0, none⟩) 4 4)) (Ex.move rfl) (by decide) ?_
  refine GL.val (v := (.pointer (some ⟨bs, 0, none⟩))) (Ex.cast (Ex.indexAddr rfl rfl Try.underlying38 T.sz3 (by omega) (by omega)) rfl) (by decide) ?_
  refine GL.val (v := (.int .i64 p)) (Ex.load rfl T.ag3 (i := 0) rfl rfl) (by decide) ?_
  refine GL.val (v := (.int .i64 p)) (Ex.assign rfl) (by decide) ?_
  refine GL.nil ?_
  refine GE.thenN ?_
  refine GC.seq ?_
  refine GC.seq ?_
  refine GC.region ?_
  refine GL.val (v := (.int .i64 1)) (Ex.assign rfl) (by decide) ?_
  refine GL.nil ?_
  refine GE.thenN ?_
  refine GC.block ?_
  refine GC.unroll 4 ?_
  refine GE.round ?_
  refine GC.seq ?_
  refine GC.seq ?_
  refine GC.region ?_
  refine GL.val (v := (.int .i64 1)) (Ex.move rfl) (by decide) ?_
  refine GL.val (v := (.slice (some ⟨bs, 0, none⟩) 4 4)) (Ex.move rfl) (by decide) ?_
  refine GL.val (v := (.int .i64 4)) (Ex.len rfl Try.underlying38) (by decide) ?_
  refine GL.val (v := (.bool true)) (Ex.cast (Ex.lss rfl rfl) rfl) (by decide) ?_
  refine GL.nil ?_
  refine GE.thenN ?_
  refine GC.cond rfl (fun _ => ?_) (fun hq2 => by cases hq2)
  refine GC.skip ?_
  refine GE.thenN ?_
  refine GC.seq ?_
  refine GC.block ?_
  refine GC.region ?_
  refine GL.val (v := (.int .i64 p)) (Ex.move rfl) (by decide) ?_
  refine GL.val (v := (.slice (some ⟨bs, 0, none⟩) 4 4)) (Ex.move rfl) (by decide) ?_
  refine GL.val (v := (.int .i64 1)) (Ex.move rfl) (by decide) ?_
  refine GL.val (v := (.pointer (some ⟨bs, 1, none⟩))) (Ex.cast (Ex.indexAddr rfl rfl Try.underlying38 T.sz3 (by omega) (by omega)) rfl) (by decide) ?_
  refine GL.val (v := (.int .i64 q)) (Ex.load rfl T.ag3 (i := 0) rfl rfl) (by decide) ?_
  refine GL.val (v := (.int .i64 (min p q))) (Ex.minI rfl rfl (Z := min p q) (min64 _ _)) (by decide) ?_
  refine GL.val (v := (.int .i64 (min p q))) (Ex.assign rfl) (by decide) ?_
  refine GL.nil ?_
  refine GE.blockN ?_
  refine GE.thenN ?_
  refine GC.region ?_
  refine GL.val (v := (.int .i64 1)) (Ex.move rfl) (by decide) ?_
  refine GL.val (v := (.int .i64 2)) (Ex.add rfl rfl (Z := 2) (by decide)) (by decide) ?_
  refine GL.val (v := (.int .i64 2)) (Ex.assign rfl) (by decide) ?_
  refine GL.nil ?_
  refine GE.thenN ?_
  refine GE.round ?_
  refine GC.seq ?_
  refine GC.seq ?_
  refine GC.region ?_
  refine GL.val (v := (.int .i64 2)) (Ex.move rfl) (by decide) ?_
  refine GL.val (v := (.slice (some ⟨bs, 0, none⟩) 4 4)) (Ex.move rfl) (by decide) ?_
  refine GL.val (v := (.int .i64 4)) (Ex.len rfl Try.underlying38) (by decide) ?_
  refine GL.val (v := (.bool true)) (Ex.cast (Ex.lss rfl rfl) rfl) (by decide) ?_
  refine GL.nil ?_
  refine GE.thenN ?_
  refine GC.cond rfl (fun _ => ?_) (fun hq3 => by cases hq3)
  refine GC.skip ?_
  refine GE.thenN ?_
  refine GC.seq ?_
  refine GC.block ?_
  refine GC.region ?_
  refine GL.val (v := (.int .i64 (min p q))) (Ex.move rfl) (by decide) ?_
  refine GL.val (v := (.slice (some ⟨bs, 0, none⟩) 4 4)) (Ex.move rfl) (by decide) ?_
  refine GL.val (v := (.int .i64 2)) (Ex.move rfl) (by decide) ?_
  refine GL.val (v := (.pointer (some ⟨bs, 2, none⟩))) (Ex.cast (Ex.indexAddr rfl rfl Try.underlying38 T.sz3 (by omega) (by omega)) rfl) (by decide) ?_
  refine GL.val (v := (.int .i64 r)) (Ex.load rfl T.ag3 (i := 0) rfl rfl) (by decide) ?_
  refine GL.val (v := (.int .i64 (min (min p q) r))) (Ex.minI rfl rfl (Z := min (min p q) r) (min64 _ _)) (by decide) ?_
  refine GL.val (v := (.int .i64 (min (min p q) r))) (Ex.assign rfl) (by decide) ?_
  refine GL.nil ?_
  refine GE.blockN ?_
  refine GE.thenN ?_
  refine GC.region ?_
  refine GL.val (v := (.int .i64 2)) (Ex.move rfl) (by decide) ?_
  refine GL.val (v := (.int .i64 3)) (Ex.add rfl rfl (Z := 3) (by decide)) (by decide) ?_
  refine GL.val (v := (.int .i64 3)) (Ex.assign rfl) (by decide) ?_
  refine GL.nil ?_
  refine GE.thenN ?_
  refine GE.round ?_
  refine GC.seq ?_
  refine GC.seq ?_
  refine GC.region ?_
  refine GL.val (v := (.int .i64 3)) (Ex.move rfl) (by decide) ?_
  refine GL.val (v := (.slice (some ⟨bs, 0, none⟩) 4 4)) (Ex.move rfl) (by decide) ?_
  refine GL.val (v := (.int .i64 4)) (Ex.len rfl Try.underlying38) (by decide) ?_
  refine GL.val (v := (.bool true)) (Ex.cast (Ex.lss rfl rfl) rfl) (by decide) ?_
  refine GL.nil ?_
  refine GE.thenN ?_
  refine GC.cond rfl (fun _ => ?_) (fun hq4 => by cases hq4)
  refine GC.skip ?_
  refine GE.thenN ?_
  refine GC.seq ?_
  refine GC.block ?_
  refine GC.region ?_
  refine GL.val (v := (.int .i64 (min (min p q) r))) (Ex.move rfl) (by decide) ?_
  refine GL.val (v := (.slice (some ⟨bs, 0, none⟩) 4 4)) (Ex.move rfl) (by decide) ?_
  refine GL.val (v := (.int .i64 3)) (Ex.move rfl) (by decide) ?_
  refine GL.val (v := (.pointer (some ⟨bs, 3, none⟩))) (Ex.cast (Ex.indexAddr rfl rfl Try.underlying38 T.sz3 (by omega) (by omega)) rfl) (by decide) ?_
  refine GL.val (v := (.int .i64 s)) (Ex.load rfl T.ag3 (i := 0) rfl rfl) (by decide) ?_
  refine GL.val (v := (.int .i64 (min (min (min p q) r) s))) (Ex.minI rfl rfl (Z := min (min (min p q) r) s) (min64 _ _)) (by decide) ?_
  refine GL.val (v := (.int .i64 (min (min (min p q) r) s))) (Ex.assign rfl) (by decide) ?_
  refine GL.nil ?_
  refine GE.blockN ?_
  refine GE.thenN ?_
  refine GC.region ?_
  refine GL.val (v := (.int .i64 3)) (Ex.move rfl) (by decide) ?_
  refine GL.val (v := (.int .i64 4)) (Ex.add rfl rfl (Z := 4) (by decide)) (by decide) ?_
  refine GL.val (v := (.int .i64 4)) (Ex.assign rfl) (by decide) ?_
  refine GL.nil ?_
  refine GE.thenN ?_
  refine GE.round ?_
  refine GC.seq ?_
  refine GC.seq ?_
  refine GC.region ?_
  refine GL.val (v := (.int .i64 4)) (Ex.move rfl) (by decide) ?_
  refine GL.val (v := (.slice (some ⟨bs, 0, none⟩) 4 4)) (Ex.move rfl) (by decide) ?_
  refine GL.val (v := (.int .i64 4)) (Ex.len rfl Try.underlying38) (by decide) ?_
  refine GL.val (v := (.bool false)) (Ex.cast (Ex.lss rfl rfl) rfl) (by decide) ?_
  refine GL.nil ?_
  refine GE.thenN ?_
  refine GC.cond rfl (fun hq5 => by cases hq5) (fun _ => ?_)
  refine GC.exit ?_
  refine GE.thenE ?_
  refine GE.thenE ?_
  refine GE.blockE ?_
  refine GE.thenN ?_
  refine GC.seq ?_
  refine GC.region ?_
  refine GL.val (v := (.int .i64 (min (min (min p q) r) s))) (Ex.move rfl) (by decide) ?_
  refine GL.val (v := (.int .i64 (min (min (min p q) r) s))) (Ex.assign rfl) (by decide) ?_
  refine GL.nil ?_
  refine GE.thenN ?_
  refine GC.ret ?_
  refine GC.ret1 rfl (Rv.tmp rfl) (fun wN HN => ?_)
  exact HN.ret () trivial rfl (List.nil_sublist _) rfl

set_option maxRecDepth 100000 in
set_option maxHeartbeats 1000000 in
theorem max4 (bs : Nat) (p q r s : Int) (w : World) (h1 : w.heap[bs]? = some (.cells #[.int .i64 p, .int .i64 q, .int .i64 r, .int .i64 s] 3 (0, 0))) :
    Calls Try.prog 51 #[(.slice (some ⟨bs, 0, none⟩) 4 4)] w (Ret w (fun _ : Unit => True) (fun _ => .int .i64 (max (max (max p q) r) s)) (fun _ => [])) := by
  refine enter (M := None) (L := [⟨bs, [(.int .i64 p), (.int .i64 q), (.int .i64 r), (.int .i64 s)], 3, false⟩]) (n := 25) (l := [(0, (.slice (some ⟨bs, 0, none⟩) 4 4))]) Try.func51 rfl rfl (Args.cons rfl (Args.nil _)) (Hp.reads (Has.cons h1 (Has.nil _)) rfl) ?_
  refine GC.seq ?_
  refine GC.region ?_
  refine GL.val (v := (.int .i64 0)) (Ex.assign rfl) (by decide) ?_
  refine GL.nil ?_
  refine GE.thenN ?_
  refine GC.seq ?_
  refine GC.seq ?_
  refine GC.region ?_
  refine GL.val (v := (.slice (some ⟨bs, 0, none⟩) 4 4)) (Ex.move rfl) (by decide) ?_
  refine GL.val (v := (.int .i64 4)) (Ex.len rfl Try.underlying38) (by decide) ?_
  refine GL.val (v := (.bool false)) (Ex.cast (Ex.lss rfl rfl) rfl) (by decide) ?_
  refine GL.nil ?_
  refine GE.thenN ?_
  refine GC.cond rfl (fun hq1 => by cases hq1) (fun _ => ?_)
  refine GC.skip ?_
  refine GE.thenN ?_
  refine GC.seq ?_
  refine GC.region ?_
  refine GL.val (v := (.slice (some ⟨bs, 0, none⟩) 4 4)) (Ex.move rfl) (by decide) ?_
  refine GL.val (v := (.pointer (some ⟨bs, 0, none⟩))) (Ex.cast (Ex.indexAddr rfl rfl Try.underlying38 T.sz3 (by omega) (by omega)) rfl) (by decide) ?_
  refine GL.val (v := (.int .i64 p)) (Ex.load rfl T.ag3 (i := 0) rfl rfl) (by decide) ?_
  refine GL.val (v := (.int .i64 p)) (Ex.assign rfl) (by decide) ?_
  refine GL.nil ?_
  refine GE.thenN ?_
  refine GC.seq ?_
  refine GC.seq ?_
  refine GC.region ?_
  refine GL.val (v := (.int .i64 1)) (Ex.assign rfl) (by decide) ?_
  refine GL.nil ?_
  refine GE.thenN ?_
  refine GC.block ?_
  refine GC.unroll 4 ?_
  refine GE.round ?_
  refine GC.seq ?_
  refine GC.seq ?_
  refine GC.region ?_
  refine GL.val (v := (.int .i64 1)) (Ex.move rfl) (by decide) ?_
  refine GL.val (v := (.slice (some ⟨bs, 0, none⟩) 4 4)) (Ex.move rfl) (by decide) ?_
  refine GL.val (v := (.int .i64 4)) (Ex.len rfl Try.underlying38) (by decide) ?_
  refine GL.val (v := (.bool true)) (Ex.cast (Ex.lss rfl rfl) rfl) (by decide) ?_
  refine GL.nil ?_
  refine GE.thenN ?_
  refine GC.cond rfl (fun _ => ?_) (fun hq2 => by cases hq2)
  refine GC.skip ?_
  refine GE.thenN ?_
  refine GC.seq ?_
  refine GC.block ?_
  refine GC.region ?_
  refine GL.val (v := (.int .i64 p)) (Ex.move rfl) (by decide) ?_
  refine GL.val (v := (.slice (some ⟨bs, 0, none⟩) 4 4)) (Ex.move rfl) (by decide) ?_
  refine GL.val (v := (.int .i64 1)) (Ex.move rfl) (by decide) ?_
  refine GL.val (v := (.pointer (some ⟨bs, 1, none⟩))) (Ex.cast (Ex.indexAddr rfl rfl Try.underlying38 T.sz3 (by omega) (by omega)) rfl) (by decide) ?_
  refine GL.val (v := (.int .i64 q)) (Ex.load rfl T.ag3 (i := 0) rfl rfl) (by decide) ?_
  refine GL.val (v := (.int .i64 (max p q))) (Ex.maxI rfl rfl (Z := max p q) (max64 _ _)) (by decide) ?_
  refine GL.val (v := (.int .i64 (max p q))) (Ex.assign rfl) (by decide) ?_
  refine GL.nil ?_
  refine GE.blockN ?_
  refine GE.thenN ?_
  refine GC.region ?_
  refine GL.val (v := (.int .i64 1)) (Ex.move rfl) (by decide) ?_
  refine GL.val (v := (.int .i64 2)) (Ex.add rfl rfl (Z := 2) (by decide)) (by decide) ?_
  refine GL.val (v := (.int .i64 2)) (Ex.assign rfl) (by decide) ?_
  refine GL.nil ?_
  refine GE.thenN ?_
  refine GE.round ?_
  refine GC.seq ?_
  refine GC.seq ?_
  refine GC.region ?_
  refine GL.val (v := (.int .i64 2)) (Ex.move rfl) (by decide) ?_
  refine GL.val (v := (.slice (some ⟨bs, 0, none⟩) 4 4)) (Ex.move rfl) (by decide) ?_
  refine GL.val (v := (.int .i64 4)) (Ex.len rfl Try.underlying38) (by decide) ?_
  refine GL.val (v := (.bool true)) (Ex.cast (Ex.lss rfl rfl) rfl) (by decide) ?_
  refine GL.nil ?_
  refine GE.thenN ?_
  refine GC.cond rfl (fun _ => ?_) (fun hq3 => by cases hq3)
  refine GC.skip ?_
  refine GE.thenN ?_
  refine GC.seq ?_
  refine GC.block ?_
  refine GC.region ?_
  refine GL.val (v := (.int .i64 (max p q))) (Ex.move rfl) (by decide) ?_
  refine GL.val (v := (.slice (some ⟨bs, 0, none⟩) 4 4)) (Ex.move rfl) (by decide) ?_
  refine GL.val (v := (.int .i64 2)) (Ex.move rfl) (by decide) ?_
  refine GL.val (v := (.pointer (some ⟨bs, 2, none⟩))) (Ex.cast (Ex.indexAddr rfl rfl Try.underlying38 T.sz3 (by omega) (by omega)) rfl) (by decide) ?_
  refine GL.val (v := (.int .i64 r)) (Ex.load rfl T.ag3 (i := 0) rfl rfl) (by decide) ?_
  refine GL.val (v := (.int .i64 (max (max p q) r))) (Ex.maxI rfl rfl (Z := max (max p q) r) (max64 _ _)) (by decide) ?_
  refine GL.val (v := (.int .i64 (max (max p q) r))) (Ex.assign rfl) (by decide) ?_
  refine GL.nil ?_
  refine GE.blockN ?_
  refine GE.thenN ?_
  refine GC.region ?_
  refine GL.val (v := (.int .i64 2)) (Ex.move rfl) (by decide) ?_
  refine GL.val (v := (.int .i64 3)) (Ex.add rfl rfl (Z := 3) (by decide)) (by decide) ?_
  refine GL.val (v := (.int .i64 3)) (Ex.assign rfl) (by decide) ?_
  refine GL.nil ?_
  refine GE.thenN ?_
  refine GE.round ?_
  refine GC.seq ?_
  refine GC.seq ?_
  refine GC.region ?_
  refine GL.val (v := (.int .i64 3)) (Ex.move rfl) (by decide) ?_
  refine GL.val (v := (.slice (some ⟨bs, 0, none⟩) 4 4)) (Ex.move rfl) (by decide) ?_
  refine GL.val (v := (.int .i64 4)) (Ex.len rfl Try.underlying38) (by decide) ?_
  refine GL.val (v := (.bool true)) (Ex.cast (Ex.lss rfl rfl) rfl) (by decide) ?_
  refine GL.nil ?_
  refine GE.thenN ?_
  refine GC.cond rfl (fun _ => ?_) (fun hq4 => by cases hq4)
  refine GC.skip ?_
  refine GE.thenN ?_
  refine GC.seq ?_
  refine GC.block ?_
  refine GC.region ?_
  refine GL.val (v := (.int .i64 (max (max p q) r))) (Ex.move rfl) (by decide) ?_
  refine GL.val (v := (.slice (some ⟨bs, 0, none⟩) 4 4)) (Ex.move rfl) (by decide) ?_
  refine GL.val (v := (.int .i64 3)) (Ex.move rfl) (by decide) ?_
  refine GL.val (v := (.pointer (some ⟨bs, 3, none⟩))) (Ex.cast (Ex.indexAddr rfl rfl Try.underlying38 T.sz3 (by omega) (by omega)) rfl) (by decide) ?_
  refine GL.val (v := (.int .i64 s)) (Ex.load rfl T.ag3 (i := 0) rfl rfl) (by decide) ?_
  refine GL.val (v := (.int .i64 (max (max (max p q) r) s))) (Ex.maxI rfl rfl (Z := max (max (max p q) r) s) (max64 _ _)) (by decide) ?_
  refine GL.val (v := (.int .i64 (max (max (max p q) r) s))) (Ex.assign rfl) (by decide) ?_
  refine GL.nil ?_
  refine GE.blockN ?_
  refine GE.thenN ?_
  refine GC.region ?_
  refine GL.val (v := (.int .i64 3)) (Ex.move rfl) (by decide) ?_
  refine GL.val (v := (.int .i64 4)) (Ex.add rfl rfl (Z := 4) (by decide)) (by decide) ?_
  refine GL.val (v := (.int .i64 4)) (Ex.assign rfl) (by decide) ?_
  refine GL.nil ?_
  refine GE.thenN ?_
  refine GE.round ?_
  refine GC.seq ?_
  refine GC.seq ?_
  refine GC.region ?_
  refine GL.val (v := (.int .i64 4)) (Ex.move rfl) (by decide) ?_
  refine GL.val (v := (.slice (some ⟨bs, 0, none⟩) 4 4)) (Ex.move rfl) (by decide) ?_
  refine GL.val (v := (.int .i64 4)) (Ex.len rfl Try.underlying38) (by decide) ?_
  refine GL.val (v := (.bool false)) (Ex.cast (Ex.lss rfl rfl) rfl) (by decide) ?_
  refine GL.nil ?_
  refine GE.thenN ?_
  refine GC.cond rfl (fun hq5 => by cases hq5) (fun _ => ?_)
  refine GC.exit ?_
  refine GE.thenE ?_
  refine GE.thenE ?_
  refine GE.blockE ?_
  refine GE.thenN ?_
  refine GC.seq ?_
  refine GC.region ?_
  refine GL.val (v := (.int .i64 (max (max (max p q) r) s))) (Ex.move rfl) (by decide) ?_
  refine GL.val (v := (.int .i64 (max (max (max p q) r) s))) (Ex.assign rfl) (by decide) ?_
  refine GL.nil ?_
  refine GE.thenN ?_
  refine GC.ret ?_
  refine GC.ret1 rfl (Rv.tmp rfl) (fun wN HN => ?_)
  exact HN.ret () trivial rfl (List.nil_sublist _) rfl

set_option maxRecDepth 100000 in
set_option maxHeartbeats 1000000 in
theorem rest (i n : Int) (w : World) (hn : 1 ≤ n ∧ n ≤ 2048) :
    Calls Try.prog 45 #[(.int .i64 i), (.int .i64 n)] w (Ret w (fun _ : Unit => True) (fun _ => .int .i64 (rst i n)) (fun _ => [])) := by
  have hb := tmod_bd i hn.1
  refine enter (M := None) (L := []) (n := 12) (l := [(0, (.int .i64 i)), (1, (.int .i64 n))]) Try.func45 rfl rfl (Args.cons rfl (Args.cons rfl (Args.nil _))) (Hp.start _ _) ?_
  refine GC.seq ?_
  refine GC.region ?_
  refine GL.val (v := (.int .i64 0)) (Ex.assign rfl) (by decide) ?_
  refine GL.nil ?_
  refine GE.thenN ?_
  refine GC.seq ?_
  refine GC.region ?_
  refine GL.val (v := (.int .i64 i)) (Ex.move rfl) (by decide) ?_
  refine GL.val (v := (.int .i64 n)) (Ex.move rfl) (by decide) ?_
  refine GL.val (v := (.int .i64 (i.tmod n))) (Ex.rem rfl rfl (Z := i.tmod n) (by omega) rfl) (by decide) ?_
  refine GL.val (v := (.int .i64 n)) (Ex.move rfl) (by decide) ?_
  refine GL.val (v := (.int .i64 ((i.tmod n) + n))) (Ex.add rfl rfl (Z := (i.tmod n) + n) (w64 (by omega))) (by decide) ?_
  refine GL.val (v := (.int .i64 n)) (Ex.move rfl) (by decide) ?_
  refine GL.val (v := (.int .i64 ((i.tmod n + n).tmod n))) (Ex.rem rfl rfl (Z := (i.tmod n + n).tmod n) (by omega) rfl) (by decide) ?_
  refine GL.val (v := (.int .i64 ((i.tmod n + n).tmod n))) (Ex.assign rfl) (by decide) ?_
  refine GL.nil ?_
  refine GE.thenN ?_
  refine GC.ret ?_
  refine GC.ret1 rfl (Rv.tmp rfl) (fun wN HN => ?_)
  exact HN.ret () trivial rfl (List.nil_sublist _) rfl

set_option maxRecDepth 100000 in
set_option maxHeartbeats 1000000 in
theorem border (k n i : Int) (w : World) :
    Calls Try.prog 14 #[(.int .i64 k), (.int .i64 n), (.int .i64 i)] w (Ret w (fun _ : Unit => True) (fun _ => .tuple #[.int .i64 (bord k n i).1, .int .i64 (bord k n i).2]) (fun _ => [])) := by
  refine enter (M := None) (L := []) (n := 52) (l := [(0, (.int .i64 k)), (1, (.int .i64 n)), (2, (.int .i64 i))]) Try.func14 rfl rfl (Args.cons rfl (Args.cons rfl (Args.cons rfl (Args.nil _)))) (Hp.start _ _) ?_
  refine GC.seq ?_
  refine GC.region ?_
  refine GL.val (v := (.int .i64 0)) (Ex.assign rfl) (by decide) ?_
  refine GL.val (v := (.int .i64 0)) (Ex.assign rfl) (by decide) ?_
  refine GL.nil ?_
  refine GE.thenN ?_
  refine GC.seq ?_
  refine GC.block ?_
  refine GC.seq ?_
  refine GC.region ?_
  refine GL.val (v := (.int .i64 k)) (Ex.move rfl) (by decide) ?_
  by_cases hq1 : k < 1
  · refine GL.val (v := (.bool true)) (Ex.cast (Ex.lss rfl rfl) (congrArg Value.bool (decide_eq_true hq1))) (by decide) ?_
    refine GL.val (v := (.bool true)) (Ex.move rfl) (by decide) ?_
    refine GL.skipG (tj := 12) rfl rfl rfl (by decide) ?_
    refine GL.skipG (tj := 12) rfl rfl rfl (by decide) ?_
    refine GL.val (v := (.bool true)) (Ex.pickT rfl rfl) (by decide) ?_
    refine GL.val (v := (.bool true)) (Ex.assign rfl) (by decide) ?_
    refine GL.nil ?_
    refine GE.thenN ?_
    refine GC.cond rfl (fun _ => ?_) (fun hq2 => by cases hq2)
    refine GC.seq ?_
    refine GC.region ?_
    refine GL.val (v := (.int .i64 0)) (Ex.assign rfl) (by decide) ?_
    refine GL.val (v := (.int .i64 53)) (Ex.assign rfl) (by decide) ?_
    refine GL.nil ?_
    refine GE.thenN ?_
    refine GC.ret ?_
    refine GE.blockR ?_
    refine GE.thenR ?_
    refine GC.ret2 rfl (Rv.tmp rfl) (Rv.tmp rfl) (fun wN HN => ?_)
    exact HN.ret () trivial (by simp only [bord]; (repeat (first | rfl | (rw [if_pos (by omega)]) | (rw [if_neg (by omega)])))) (List.nil_sublist _) rfl
  · refine GL.val (v := (.bool false)) (Ex.cast (Ex.lss rfl rfl) (congrArg Value.bool (decide_eq_false hq1))) (by decide) ?_
    refine GL.val (v := (.bool false)) (Ex.move rfl) (by decide) ?_
    refine GL.stepG (tj := 12) rfl rfl (Ex.wp (v := (.int .i64 k)) (Ex.move rfl) (by decide)) (fun _ _ => ?_)
    refine GL.stepG (tj := 12) rfl rfl (Ex.wp (v := (.bool (decide (3 < k)))) (Ex.gtr rfl rfl) (by decide)) (fun _ _ => ?_)
    refine GL.val (v := (.bool (decide (3 < k)))) (Ex.pickF rfl rfl) (by decide) ?_
    refine GL.val (v := (.bool (decide (3 < k)))) (Ex.assign rfl) (by decide) ?_
    refine GL.nil ?_
    refine GE.thenN ?_
    refine GC.cond rfl (fun hq3 => ?_) (fun hq3 => ?_)
    · replace hq3 := of_decide_eq_true hq3
      refine GC.seq ?_
      refine GC.region ?_
      refine GL.val (v := (.int .i64 0)) (Ex.assign rfl) (by decide) ?_
      refine GL.val (v := (.int .i64 53)) (Ex.assign rfl) (by decide) ?_
      refine GL.nil ?_
      refine GE.thenN ?_
      refine GC.ret ?_
      refine GE.blockR ?_
      refine GE.thenR ?_
      refine GC.ret2 rfl (Rv.tmp rfl) (Rv.tmp rfl) (fun wN HN => ?_)
      exact HN.ret () trivial (by simp only [bord]; (repeat (first | rfl | (rw [if_pos (by omega)]) | (rw [if_neg (by omega)])))) (List.nil_sublist _) rfl
    · replace hq3 := of_decide_eq_false hq3
      refine GC.seq ?_
      refine GC.region ?_
      refine GL.val (v := (.int .i64 n)) (Ex.move rfl) (by decide) ?_
      by_cases hq4 : n < 1
      · refine GL.val (v := (.bool true)) (Ex.cast (Ex.lss rfl rfl) (congrArg Value.bool (decide_eq_true hq4))) (by decide) ?_
        refine GL.val (v := (.bool true)) (Ex.move rfl) (by decide) ?_
        refine GL.skipG (tj := 19) rfl rfl rfl (by decide) ?_
        refine GL.skipG (tj := 19) rfl rfl rfl (by decide) ?_
        refine GL.val (v := (.bool true)) (Ex.pickT rfl rfl) (by decide) ?_
        refine GL.val (v := (.bool true)) (Ex.assign rfl) (by decide) ?_
        refine GL.nil ?_
        refine GE.thenN ?_
        refine GC.cond rfl (fun _ => ?_) (fun hq5 => by cases hq5)
        refine GC.seq ?_
        refine GC.region ?_
        refine GL.val (v := (.int .i64 0)) (Ex.assign rfl) (by decide) ?_
        refine GL.val (v := (.int .i64 50)) (Ex.assign rfl) (by decide) ?_
        refine GL.nil ?_
        refine GE.thenN ?_
        refine GC.ret ?_
        refine GE.blockR ?_
        refine GE.thenR ?_
        refine GC.ret2 rfl (Rv.tmp rfl) (Rv.tmp rfl) (fun wN HN => ?_)
        exact HN.ret () trivial (by simp only [bord]; (repeat (first | rfl | (rw [if_pos (by omega)]) | (rw [if_neg (by omega)])))) (List.nil_sublist _) rfl
      · refine GL.val (v := (.bool false)) (Ex.cast (Ex.lss rfl rfl) (congrArg Value.bool (decide_eq_false hq4))) (by decide) ?_
        refine GL.val (v := (.bool false)) (Ex.move rfl) (by decide) ?_
        refine GL.stepG (tj := 19) rfl rfl (Ex.wp (v := (.int .i64 n)) (Ex.move rfl) (by decide)) (fun _ _ => ?_)
        refine GL.stepG (tj := 19) rfl rfl (Ex.wp (v := (.bool (decide (1024 < n)))) (Ex.gtr rfl rfl) (by decide)) (fun _ _ => ?_)
        refine GL.val (v := (.bool (decide (1024 < n)))) (Ex.pickF rfl rfl) (by decide) ?_
        refine GL.val (v := (.bool (decide (1024 < n)))) (Ex.assign rfl) (by decide) ?_
        refine GL.nil ?_
        refine GE.thenN ?_
        refine GC.cond rfl (fun hq6 => ?_) (fun hq6 => ?_)
        · replace hq6 := of_decide_eq_true hq6
          refine GC.seq ?_
          refine GC.region ?_
          refine GL.val (v := (.int .i64 0)) (Ex.assign rfl) (by decide) ?_
          refine GL.val (v := (.int .i64 50)) (Ex.assign rfl) (by decide) ?_
          refine GL.nil ?_
          refine GE.thenN ?_
          refine GC.ret ?_
          refine GE.blockR ?_
          refine GE.thenR ?_
          refine GC.ret2 rfl (Rv.tmp rfl) (Rv.tmp rfl) (fun wN HN => ?_)
          exact HN.ret () trivial (by simp only [bord]; (repeat (first | rfl | (rw [if_pos (by omega)]) | (rw [if_neg (by omega)])))) (List.nil_sublist _) rfl
        · replace hq6 := of_decide_eq_false hq6
          refine GC.seq ?_
          refine GC.region ?_
          refine GL.val (v := (.int .i64 k)) (Ex.move rfl) (by decide) ?_
          refine GL.val (v := (.bool (decide (k = 1)))) (Ex.eql rfl rfl) (by decide) ?_
          refine GL.val (v := (.bool (decide (k = 1)))) (Ex.assign rfl) (by decide) ?_
          refine GL.nil ?_
          refine GE.thenN ?_
          refine GC.cond rfl (fun hq7 => ?_) (fun hq7 => ?_)
          · replace hq7 := of_decide_eq_true hq7
            refine GC.seq ?_
            refine GC.region ?_
            refine GL.val (v := (.int .i64 i)) (Ex.move rfl) (by decide) ?_
            refine GL.val (v := (.int .i64 (max i 0))) (Ex.maxI rfl rfl (Z := max i 0) (max64 _ _)) (by decide) ?_
            refine GL.val (v := (.int .i64 n)) (Ex.move rfl) (by decide) ?_
            refine GL.val (v := (.int .i64 (n - 1))) (Ex.sub' rfl rfl (Z := n - 1) (w64 (by omega))) (by decide) ?_
            refine GL.val (v := (.int .i64 (min (max i 0) (n - 1)))) (Ex.minI rfl rfl (Z := min (max i 0) (n - 1)) (min64 _ _)) (by decide) ?_
            refine GL.val (v := (.int .i64 (min (max i 0) (n - 1)))) (Ex.assign rfl) (by decide) ?_
            refine GL.val (v := (.int .i64 0)) (Ex.assign rfl) (by decide) ?_
            refine GL.nil ?_
            refine GE.thenN ?_
            refine GC.ret ?_
            refine GE.blockR ?_
            refine GE.thenR ?_
            refine GC.ret2 rfl (Rv.tmp rfl) (Rv.tmp rfl) (fun wN HN => ?_)
            exact HN.ret () trivial (by simp only [bord]; (repeat (first | rfl | (rw [if_pos (by omega)]) | (rw [if_neg (by omega)])))) (List.nil_sublist _) rfl
          · replace hq7 := of_decide_eq_false hq7
            refine GC.seq ?_
            refine GC.region ?_
            refine GL.val (v := (.int .i64 k)) (Ex.move rfl) (by decide) ?_
            refine GL.val (v := (.bool (decide (k = 3)))) (Ex.eql rfl rfl) (by decide) ?_
            refine GL.val (v := (.bool (decide (k = 3)))) (Ex.assign rfl) (by decide) ?_
            refine GL.nil ?_
            refine GE.thenN ?_
            refine GC.cond rfl (fun hq8 => ?_) (fun hq8 => ?_)
            · replace hq8 := of_decide_eq_true hq8
              refine GC.seq ?_
              refine GC.region ?_
              refine GL.val (v := (.int .i64 i)) (Ex.move rfl) (by decide) ?_
              refine GL.val (v := (.int .i64 n)) (Ex.move rfl) (by decide) ?_
              refine GL.step (Stp.callR (σ := Unit) (p := fun rz => True) (v := fun rz => (.int .i64 (rst i n))) (N := fun rz => []) (vs := [(.int .i64 i), (.int .i64 n)]) rfl rfl T.own45 (by decide) (fun wc hw => rest i n wc (by omega))) (fun xq9 hq10 => ?_)
              refine GL.val (v := (.int .i64 (rst i n))) (Ex.assign rfl) (by decide) ?_
              refine GL.val (v := (.int .i64 0)) (Ex.assign rfl) (by decide) ?_
              refine GL.nil ?_
              refine GE.thenN ?_
              refine GC.ret ?_
              refine GE.blockR ?_
              refine GE.thenR ?_
              refine GC.ret2 rfl (Rv.tmp rfl) (Rv.tmp rfl) (fun wN HN => ?_)
              exact HN.ret () trivial (by simp only [bord]; (repeat (first | rfl | (rw [if_pos (by omega)]) | (rw [if_neg (by omega)])))) (List.nil_sublist _) rfl
            · replace hq8 := of_decide_eq_false hq8
              refine GC.seq ?_
              refine GC.region ?_
              refine GL.val (v := (.int .i64 n)) (Ex.move rfl) (by decide) ?_
              refine GL.val (v := (.bool (decide (n = 1)))) (Ex.eql rfl rfl) (by decide) ?_
              refine GL.val (v := (.bool (decide (n = 1)))) (Ex.assign rfl) (by decide) ?_
              refine GL.nil ?_
              refine GE.thenN ?_
              refine GC.cond rfl (fun hq11 => ?_) (fun hq11 => ?_)
              · replace hq11 := of_decide_eq_true hq11
                refine GC.seq ?_
                refine GC.region ?_
                refine GL.val (v := (.int .i64 0)) (Ex.assign rfl) (by decide) ?_
                refine GL.val (v := (.int .i64 0)) (Ex.assign rfl) (by decide) ?_
                refine GL.nil ?_
                refine GE.thenN ?_
                refine GC.ret ?_
                refine GE.blockR ?_
                refine GE.thenR ?_
                refine GC.ret2 rfl (Rv.tmp rfl) (Rv.tmp rfl) (fun wN HN => ?_)
                exact HN.ret () trivial (by simp only [bord]; (repeat (first | rfl | (rw [if_pos (by omega)]) | (rw [if_neg (by omega)])))) (List.nil_sublist _) rfl
              · replace hq11 := of_decide_eq_false hq11
                refine GC.skip ?_
                refine GE.blockN ?_
                refine GE.thenN ?_
                refine GC.seq ?_
                have hb := rst_bd i (show 1 ≤ 2 * (n - 1) by omega)
                refine GC.region ?_
                refine GL.val (v := (.int .i64 i)) (Ex.move rfl) (by decide) ?_
                refine GL.val (v := (.int .i64 n)) (Ex.move rfl) (by decide) ?_
                refine GL.val (v := (.int .i64 (n - 1))) (Ex.sub' rfl rfl (Z := n - 1) (w64 (by omega))) (by decide) ?_
                refine GL.val (v := (.int .i64 (2 * (n - 1)))) (Ex.mul rfl rfl (Z := 2 * (n - 1)) (w64 (by omega))) (by decide) ?_
                refine GL.step (Stp.callR (σ := Unit) (p := fun rz => True) (v := fun rz => (.int .i64 (rst i (2 * (n - 1))))) (N := fun rz => []) (vs := [(.int .i64 i), (.int .i64 (2 * (n - 1)))]) rfl rfl T.own45 (by decide) (fun wc hw => rest i (2 * (n - 1)) wc (by omega))) (fun xq12 hq13 => ?_)
                refine GL.val (v := (.int .i64 (rst i (2 * (n - 1))))) (Ex.assign rfl) (by decide) ?_
                refine GL.nil ?_
                refine GE.thenN ?_
                refine GC.seq ?_
                refine GC.region ?_
                refine GL.val (v := (.int .i64 (rst i (2 * (n - 1))))) (Ex.move rfl) (by decide) ?_
                refine GL.val (v := (.int .i64 n)) (Ex.move rfl) (by decide) ?_
                refine GL.val (v := (.int .i64 (n - 1))) (Ex.sub' rfl rfl (Z := n - 1) (w64 (by omega))) (by decide) ?_
                refine GL.val (v := (.int .i64 (2 * (n - 1)))) (Ex.mul rfl rfl (Z := 2 * (n - 1)) (w64 (by omega))) (by decide) ?_
                refine GL.val (v := (.int .i64 (rst i (2 * (n - 1))))) (Ex.move rfl) (by decide) ?_
                refine GL.val (v := (.int .i64 ((2 * (n - 1)) - (rst i (2 * (n - 1)))))) (Ex.sub' rfl rfl (Z := (2 * (n - 1)) - (rst i (2 * (n - 1)))) (w64 (by omega))) (by decide) ?_
                refine GL.val (v := (.int .i64 (min (rst i (2 * (n - 1))) ((2 * (n - 1)) - (rst i (2 * (n - 1))))))) (Ex.minI rfl rfl (Z := min (rst i (2 * (n - 1))) ((2 * (n - 1)) - (rst i (2 * (n - 1))))) (min64 _ _)) (by decide) ?_
                refine GL.val (v := (.int .i64 (min (rst i (2 * (n - 1))) ((2 * (n - 1)) - (rst i (2 * (n - 1))))))) (Ex.assign rfl) (by decide) ?_
                refine GL.val (v := (.int .i64 0)) (Ex.assign rfl) (by decide) ?_
                refine GL.nil ?_
                refine GE.thenN ?_
                refine GC.ret ?_
                refine GC.ret2 rfl (Rv.tmp rfl) (Rv.tmp rfl) (fun wN HN => ?_)
                exact HN.ret () trivial (by simp only [bord]; (repeat (first | rfl | (rw [if_pos (by omega)]) | (rw [if_neg (by omega)])))) (List.nil_sublist _) rfl

set_option maxRecDepth 100000 in
set_option maxHeartbeats 1000000 in
theorem newC (x y bs : Nat) (s : Int) (w : World) (h1 : w.heap[bs]? = some (.cells #[(.int .u32 s)] 72 (0, 0))) :
    Calls Try.prog 73 #[(.int .i64 ((x : Int))), (.int .i64 ((y : Int))), (.pointer (some ⟨bs, 0, none⟩))] w (Ret w (fun _ : Unit => True) (fun _ => .int .u32 s) (fun _ => [])) := by
  refine enter (M := None) (L := [⟨bs, [(.int .u32 s)], 72, false⟩]) (n := 7) (l := [(0, (.int .i64 ((x : Int)))), (1, (.int .i64 ((y : Int)))), (2, (.pointer (some ⟨bs, 0, none⟩)))]) Try.func73 rfl rfl (Args.cons rfl (Args.cons rfl (Args.cons rfl (Args.nil _)))) (Hp.reads (Has.cons h1 (Has.nil _)) rfl) ?_
  refine GC.seq ?_
  refine GC.region ?_
  refine GL.val (v := (.int .u32 0)) (Ex.assign rfl) (by decide) ?_
  refine GL.nil ?_
  refine GE.thenN ?_
  refine GC.seq ?_
  refine GC.region ?_
  refine GL.val (v := (.int .u32 s)) (Ex.load rfl T.ag72 (i := 0) rfl rfl) (by decide) ?_
  refine GL.val (v := (.int .u32 s)) (Ex.assign rfl) (by decide) ?_
  refine GL.nil ?_
  refine GE.thenN ?_
  refine GC.ret ?_
  refine GC.ret1 rfl (Rv.tmp rfl) (fun wN HN => ?_)
  exact HN.ret () trivial (by first | rfl | (congr 1; done)) (List.nil_sublist _) rfl

set_option maxRecDepth 100000 in
set_option maxHeartbeats 1000000 in
theorem new_ok (W H : Nat) (s : Int) (w : World) (hok : okP W H) :
    Calls Try.prog 37 #[(.int .i64 ((W : Int))), (.int .i64 ((H : Int))), (.int .u32 s)] w (Ret w (fun _ : Nat => True) (fun r => .tuple #[.agg #[.int .i64 ((W : Nat) : Int), .int .i64 ((H : Nat) : Int), .slice (some ⟨r, 0, none⟩) (W * H) (W * H)], .int .i64 0]) (fun r => [⟨r, (tab W (fun _ _ => s) (W * H)).map u32, 72, true⟩])) := by
  refine enter (M := None) (L := []) (n := 18) (l := [(0, (.int .i64 ((W : Int)))), (1, (.int .i64 ((H : Int)))), (2, (.int .u32 s))]) Try.func37 rfl rfl (Args.cons rfl (Args.cons rfl (Args.cons rfl (Args.nil _)))) (Hp.start _ _) ?_
  refine GC.seq ?_
  refine GC.region ?_
  refine GL.step (Stp.box (cs := [(.int .u32 s)]) rfl rfl (by decide)) (fun bq1 _ => ?_)
  refine GL.step (Stp.alloc T.zr32 (by decide)) (fun bq2 _ => ?_)
  refine GL.val (v := (.int .i64 0)) (Ex.assign rfl) (by decide) ?_
  refine GL.nil ?_
  refine GE.thenN ?_
  refine GC.seq ?_
  refine GC.seq ?_
  refine GC.region ?_
  refine GL.val (v := (.int .i64 ((W : Int)))) (Ex.move rfl) (by decide) ?_
  refine GL.val (v := (.int .i64 ((H : Int)))) (Ex.move rfl) (by decide) ?_
  refine GL.step (Stp.callR (σ := Unit) (p := fun rz => True) (v := fun rz => (.bool (sizeB ((W : Int)) ((H : Int))))) (N := fun rz => []) (vs := [(.int .i64 ((W : Int))), (.int .i64 ((H : Int)))]) rfl rfl T.own52 (by decide) (fun wc hw => size ((W : Int)) ((H : Int)) wc)) (fun xq3 hq4 => ?_)
  refine GL.val (v := (.bool (!(sizeB ((W : Int)) ((H : Int)))))) (Ex.not rfl) (by decide) ?_
  refine GL.nil ?_
  refine GE.thenN ?_
  refine GC.cond rfl (fun hq5 => ?_) (fun hq5 => ?_)
  · exfalso; rw [sizeB_ok hok] at hq5; cases hq5
  · refine GC.skip ?_
    refine GE.thenN ?_
    refine GC.seq ?_
    refine GC.region ?_
    refine GL.val (v := (.int .i64 ((W : Int)))) (Ex.move rfl) (by decide) ?_
    refine GL.val (v := (.int .i64 ((H : Int)))) (Ex.move rfl) (by decide) ?_
    refine GL.val (v := (.func (.func 73) #[] #[(.pointer (some ⟨bq1, 0, none⟩))])) (Ex.func (cs := [(.pointer (some ⟨bq1, 0, none⟩))]) rfl (fun _ hF => hF.evals _ _ rfl)) (by decide) ?_
    refine GL.val (v := (.agg #[(.int .i64 ((W : Int))), (.int .i64 ((H : Int))), (.func (.func 73) #[] #[(.pointer (some ⟨bq1, 0, none⟩))])])) (Ex.build (vs := [(0, (.int .i64 ((W : Int)))), (1, (.int .i64 ((H : Int)))), (2, (.func (.func 73) #[] #[(.pointer (some ⟨bq1, 0, none⟩))]))]) rfl (by first | rfl | kernel_rfl)) (by decide) ?_
    refine GL.step (Stp.callR (σ := Nat) (p := fun rz => True) (v := fun rz => (.agg #[(.int .i64 (((W : Nat) : Int))), (.int .i64 (((H : Nat) : Int))), (.slice (some ⟨rz, 0, none⟩) ((W) * (H)) ((W) * (H)))])) (N := fun rz => [⟨rz, (tab (W) (fun _ _ => s) ((W) * (H))).map u32, 72, true⟩]) (vs := [(.agg #[(.int .i64 ((W : Int))), (.int .i64 ((H : Int))), (.func (.func 73) #[] #[(.pointer (some ⟨bq1, 0, none⟩))])])]) rfl rfl T.own55 (by decide) (fun wc hw => made (W) (H) (73) (#[(.pointer (some ⟨bq1, 0, none⟩))]) (fun _ _ => s) wc ⟨T.own73, fun x y _ _ w3 hk3 => newC x y bq1 s w3 ((Has.cons (o := true) (hw.get (i := 1) rfl) (Has.nil _)).later hk3 _ List.mem_cons_self)⟩ hok.2.2.1 hok.2.2.2.1 hok.2.2.2.2)) (fun xq6 hq7 => ?_)
    refine GL.step (Stp.storeL (i := 1) (L1 := [⟨xq6, (tab (W) (fun _ _ => s) ((W) * (H))).map u32, 72, true⟩, ⟨bq2, [(.int .i64 (((W : Nat) : Int))), (.int .i64 (((H : Nat) : Int))), (.slice (some ⟨xq6, 0, none⟩) ((W) * (H)) ((W) * (H)))], 32, true⟩, ⟨bq1, [(.int .u32 s)], 72, true⟩]) rfl rfl rfl T.sz32 rfl rfl rfl rfl) (fun _ _ => ?_)
    refine GL.val (v := (.int .i64 0)) (Ex.assign rfl) (by decide) ?_
    refine GL.nil ?_
    refine GE.thenN ?_
    refine GC.ret ?_
    refine GC.ret2 rfl (Rv.cellA rfl T.ag32 T.sz32 (L := _) (i := 1) rfl (vs := [(.int .i64 (((W : Nat) : Int))), (.int .i64 (((H : Nat) : Int))), (.slice (some ⟨xq6, 0, none⟩) ((W) * (H)) ((W) * (H)))]) rfl rfl) (Rv.tmp rfl) (fun wN HN => ?_)
    exact HN.ret (xq6) trivial rfl (List.Sublist.cons_cons _ (List.Sublist.cons _ (List.Sublist.cons _ (List.nil_sublist _)))) rfl

set_option maxRecDepth 100000 in
set_option maxHeartbeats 1000000 in
theorem new_inv (W H s : Int) (w : World) (hs : sizeB W H = false) :
    Calls Try.prog 37 #[(.int .i64 W), (.int .i64 H), (.int .u32 s)] w (Ret w (fun _ : Unit => True) (fun _ => .tuple #[(.agg #[.int .i64 0, .int .i64 0, .slice none 0 0]), .int .i64 (50)]) (fun _ => [])) := by
  refine enter (M := None) (L := []) (n := 18) (l := [(0, (.int .i64 W)), (1, (.int .i64 H)), (2, (.int .u32 s))]) Try.func37 rfl rfl (Args.cons rfl (Args.cons rfl (Args.cons rfl (Args.nil _)))) (Hp.start _ _) ?_
  refine GC.seq ?_
  refine GC.region ?_
  refine GL.step (Stp.box (cs := [(.int .u32 s)]) rfl rfl (by decide)) (fun bq1 _ => ?_)
  refine GL.step (Stp.alloc T.zr32 (by decide)) (fun bq2 _ => ?_)
  refine GL.val (v := (.int .i64 0)) (Ex.assign rfl) (by decide) ?_
  refine GL.nil ?_
  refine GE.thenN ?_
  refine GC.seq ?_
  refine GC.seq ?_
  refine GC.region ?_
  refine GL.val (v := (.int .i64 W)) (Ex.move rfl) (by decide) ?_
  refine GL.val (v := (.int .i64 H)) (Ex.move rfl) (by decide) ?_
  refine GL.step (Stp.callR (σ := Unit) (p := fun rz => True) (v := fun rz => (.bool (sizeB W H))) (N := fun rz => []) (vs := [(.int .i64 W), (.int .i64 H)]) rfl rfl T.own52 (by decide) (fun wc hw => size W H wc)) (fun xq3 hq4 => ?_)
  refine GL.val (v := (.bool (!(sizeB W H)))) (Ex.not rfl) (by decide) ?_
  refine GL.nil ?_
  refine GE.thenN ?_
  refine GC.cond rfl (fun hq5 => ?_) (fun hq5 => ?_)
  · refine GC.seq ?_
    refine GC.region ?_
    refine GL.val (v := (.agg #[(.int .i64 0), (.int .i64 0), (.slice none 0 0)])) (Ex.build (vs := []) rfl (by first | rfl | kernel_rfl)) (by decide) ?_
    refine GL.step (Stp.storeL (i := 0) (L1 := [⟨bq2, [(.int .i64 0), (.int .i64 0), (.slice none 0 0)], 32, true⟩, ⟨bq1, [(.int .u32 s)], 72, true⟩]) rfl rfl rfl T.sz32 rfl rfl rfl rfl) (fun _ _ => ?_)
    refine GL.val (v := (.int .i64 50)) (Ex.assign rfl) (by decide) ?_
    refine GL.nil ?_
    refine GE.thenN ?_
    refine GC.ret ?_
    refine GE.thenR ?_
    refine GC.ret2 rfl (Rv.cellA rfl T.ag32 T.sz32 (L := _) (i := 0) rfl (vs := [(.int .i64 0), (.int .i64 0), (.slice none 0 0)]) rfl rfl) (Rv.tmp rfl) (fun wN HN => ?_)
    exact HN.ret () trivial rfl (List.nil_sublist _) rfl
  · exfalso; rw [hs] at hq5; cases hq5

set_option maxRecDepth 100000 in
set_option maxHeartbeats 1000000 in
theorem get_in (W H n cap b o X Y : Nat) (xs : List Int) (w : World) (hok : okP W H) (hn : n = W * H) (hx : xs.length = n) (hr : Rd w b o (xs.map u32)) (hX : X < W) (hY : Y < H) :
    Calls Try.prog 39 #[(.agg #[(.int .i64 ((W : Int))), (.int .i64 ((H : Int))), (.slice (some ⟨b, o, none⟩) n cap)]), (.int .i64 ((X : Int))), (.int .i64 ((Y : Int)))] w (Ret w (fun _ : Unit => True) (fun _ => .tuple #[.int .u32 (smp xs W X Y), .int .i64 0]) (fun _ => [])) := by
  refine enter (M := None) (L := []) (n := 37) (l := [(0, (.agg #[(.int .i64 ((W : Int))), (.int .i64 ((H : Int))), (.slice (some ⟨b, o, none⟩) n cap)])), (1, (.int .i64 ((X : Int)))), (2, (.int .i64 ((Y : Int))))]) Try.func39 rfl rfl (Args.cons rfl (Args.cons rfl (Args.cons rfl (Args.nil _)))) (Hp.start _ _) ?_
  refine GC.seq ?_
  refine GC.region ?_
  refine GL.step (Stp.box (cs := [(.int .i64 ((W : Int))), (.int .i64 ((H : Int))), (.slice (some ⟨b, o, none⟩) n cap)]) rfl rfl (by decide)) (fun bq1 _ => ?_)
  refine GL.val (v := (.int .u32 0)) (Ex.assign rfl) (by decide) ?_
  refine GL.val (v := (.int .i64 0)) (Ex.assign rfl) (by decide) ?_
  refine GL.nil ?_
  refine GE.thenN ?_
  refine GC.seq ?_
  refine GC.seq ?_
  refine GC.region ?_
  refine GL.val (v := (.agg #[(.int .i64 ((W : Int))), (.int .i64 ((H : Int))), (.slice (some ⟨b, o, none⟩) n cap)])) (Ex.loadA rfl T.ag32 T.sz32 (i := 0) rfl (vs := [(.int .i64 ((W : Int))), (.int .i64 ((H : Int))), (.slice (some ⟨b, o, none⟩) n cap)]) rfl rfl) (by decide) ?_
  refine GL.step (Stp.callR (σ := Unit) (p := fun rz => True) (v := fun rz => (.int .i64 0)) (N := fun rz => []) (vs := [(.agg #[(.int .i64 ((W : Int))), (.int .i64 ((H : Int))), (.slice (some ⟨b, o, none⟩) n cap)])]) rfl rfl T.own36 (by decide) (fun wc hw => (check_ok W H (some ⟨b, o, none⟩) n cap wc hok hn))) (fun xq2 hq3 => ?_)
  refine GL.val (v := (.int .i64 0)) (Ex.assign rfl) (by decide) ?_
  refine GL.nil ?_
  refine GE.thenN ?_
  refine GC.seq ?_
  refine GC.region ?_
  refine GL.val (v := (.int .i64 0)) (Ex.move rfl) (by decide) ?_
  refine GL.val (v := (.bool false)) (Ex.cast (Ex.neq rfl rfl) rfl) (by decide) ?_
  refine GL.nil ?_
  refine GE.thenN ?_
  refine GC.cond rfl (fun hq4 => by cases hq4) (fun _ => ?_)
  refine GC.skip ?_
  refine GE.thenN ?_
  refine GC.seq ?_
  refine GC.seq ?_
  refine GC.region ?_
  refine GL.val (v := (.int .i64 ((X : Int)))) (Ex.move rfl) (by decide) ?_
  refine GL.val (v := (.bool false)) (Ex.cast (Ex.lss rfl rfl) (congrArg Value.bool (decide_eq_false (by omega)))) (by decide) ?_
  refine GL.val (v := (.bool false)) (Ex.move rfl) (by decide) ?_
  refine GL.stepG (tj := 16) rfl rfl (Ex.wp (v := (.int .i64 ((Y : Int)))) (Ex.move rfl) (by decide)) (fun _ _ => ?_)
  refine GL.stepG (tj := 16) rfl rfl (Ex.wp (v := (.bool false)) (Ex.cast (Ex.lss rfl rfl) (congrArg Value.bool (decide_eq_false (by omega)))) (by decide)) (fun _ _ => ?_)
  refine GL.val (v := (.bool false)) (Ex.pickF rfl rfl) (by decide) ?_
  refine GL.val (v := (.bool false)) (Ex.move rfl) (by decide) ?_
  refine GL.stepG (tj := 20) rfl rfl (Ex.wp (v := (.int .i64 ((X : Int)))) (Ex.move rfl) (by decide)) (fun _ _ => ?_)
  refine GL.stepG (tj := 20) rfl rfl (Ex.wp (v := (.pointer (some ⟨bq1, 0, none⟩))) (Ex.cast (Ex.fieldAddr rfl Try.underlying32 rfl T.sz3 (by decide)) rfl) (by decide)) (fun _ _ => ?_)
  refine GL.stepG (tj := 20) rfl rfl (Ex.wp (v := (.int .i64 ((W : Int)))) (Ex.load rfl T.ag3 (i := 0) rfl rfl) (by decide)) (fun _ _ => ?_)
  refine GL.stepG (tj := 20) rfl rfl (Ex.wp (v := (.bool false)) (Ex.cast (Ex.geq rfl rfl) (congrArg Value.bool (decide_eq_false (by omega)))) (by decide)) (fun _ _ => ?_)
  refine GL.val (v := (.bool false)) (Ex.pickF rfl rfl) (by decide) ?_
  refine GL.val (v := (.bool false)) (Ex.move rfl) (by decide) ?_
  refine GL.stepG (tj := 26) rfl rfl (Ex.wp (v := (.int .i64 ((Y : Int)))) (Ex.move rfl) (by decide)) (fun _ _ => ?_)
  refine GL.stepG (tj := 26) rfl rfl (Ex.wp (v := (.pointer (some ⟨bq1, 1, none⟩))) (Ex.cast (Ex.fieldAddr rfl Try.underlying32 rfl T.sz3 (by decide)) rfl) (by decide)) (fun _ _ => ?_)
  refine GL.stepG (tj := 26) rfl rfl (Ex.wp (v := (.int .i64 ((H : Int)))) (Ex.load rfl T.ag3 (i := 0) rfl rfl) (by decide)) (fun _ _ => ?_)
  refine GL.stepG (tj := 26) rfl rfl (Ex.wp (v := (.bool false)) (Ex.cast (Ex.geq rfl rfl) (congrArg Value.bool (decide_eq_false (by omega)))) (by decide)) (fun _ _ => ?_)
  refine GL.val (v := (.bool false)) (Ex.pickF rfl rfl) (by decide) ?_
  refine GL.nil ?_
  refine GE.thenN ?_
  refine GC.cond rfl (fun hq5 => by cases hq5) (fun _ => ?_)
  refine GC.skip ?_
  refine GE.thenN ?_
  refine GC.seq ?_
  refine GC.region ?_
  refine GL.val (v := (.agg #[(.int .i64 ((W : Int))), (.int .i64 ((H : Int))), (.slice (some ⟨b, o, none⟩) n cap)])) (Ex.loadA rfl T.ag32 T.sz32 (i := 0) rfl (vs := [(.int .i64 ((W : Int))), (.int .i64 ((H : Int))), (.slice (some ⟨b, o, none⟩) n cap)]) rfl rfl) (by decide) ?_
  refine GL.step (Stp.callR (σ := Nat) (p := fun rz => True) (v := fun rz => (.func (.func 75) #[] #[(.pointer (some ⟨rz, 0, none⟩))])) (N := fun rz => [⟨rz, [(.int .i64 ((W : Int))), (.int .i64 ((H : Int))), (.slice (some ⟨b, o, none⟩) n cap)], 32, true⟩]) (vs := [(.agg #[(.int .i64 ((W : Int))), (.int .i64 ((H : Int))), (.slice (some ⟨b, o, none⟩) n cap)])]) rfl rfl T.own53 (by decide) (fun wc hw => of W H n cap b o wc)) (fun xq6 hq7 => ?_)
  refine GL.val (v := (.int .i64 ((X : Int)))) (Ex.move rfl) (by decide) ?_
  refine GL.val (v := (.int .i64 ((Y : Int)))) (Ex.move rfl) (by decide) ?_
  refine GL.step (Stp.callR (σ := Unit) (p := fun rz => True) (v := fun rz => (.int .u32 (smp xs W X Y))) (N := fun rz => []) (vs := [(.int .i64 ((X : Int))), (.int .i64 ((Y : Int)))]) rfl rfl T.own75 (by decide) (fun wc hw => (of_fb W H n cap b o xq6 true xs w hok hn hx hr).2 X Y hX hY wc hw.1 (Has.cons (hw.get (i := 0) rfl) (Has.nil _)))) (fun xq8 hq9 => ?_)
  refine GL.val (v := (.int .u32 (smp xs W X Y))) (Ex.assign rfl) (by decide) ?_
  refine GL.val (v := (.int .i64 0)) (Ex.assign rfl) (by decide) ?_
  refine GL.nil ?_
  refine GE.thenN ?_
  refine GC.ret ?_
  refine GC.ret2 rfl (Rv.tmp rfl) (Rv.tmp rfl) (fun wN HN => ?_)
  exact HN.ret () trivial rfl (List.nil_sublist _) rfl

set_option maxRecDepth 100000 in
set_option maxHeartbeats 1000000 in
theorem get_inv (W H : Int) (ad : Option Addr) (n cap : Nat) (X Y : Int) (w : World) (hc : chk W H n ≠ 0) :
    Calls Try.prog 39 #[(.agg #[(.int .i64 W), (.int .i64 H), (.slice ad n cap)]), (.int .i64 X), (.int .i64 Y)] w (Ret w (fun _ : Unit => True) (fun _ => .tuple #[.int .u32 0, .int .i64 (chk W H n)]) (fun _ => [])) := by
  refine enter (M := None) (L := []) (n := 37) (l := [(0, (.agg #[(.int .i64 W), (.int .i64 H), (.slice ad n cap)])), (1, (.int .i64 X)), (2, (.int .i64 Y))]) Try.func39 rfl rfl (Args.cons rfl (Args.cons rfl (Args.cons rfl (Args.nil _)))) (Hp.start _ _) ?_
  refine GC.seq ?_
  refine GC.region ?_
  refine GL.step (Stp.box (cs := [(.int .i64 W), (.int .i64 H), (.slice ad n cap)]) rfl rfl (by decide)) (fun bq1 _ => ?_)
  refine GL.val (v := (.int .u32 0)) (Ex.assign rfl) (by decide) ?_
  refine GL.val (v := (.int .i64 0)) (Ex.assign rfl) (by decide) ?_
  refine GL.nil ?_
  refine GE.thenN ?_
  refine GC.seq ?_
  refine GC.seq ?_
  refine GC.region ?_
  refine GL.val (v := (.agg #[(.int .i64 W), (.int .i64 H), (.slice ad n cap)])) (Ex.loadA rfl T.ag32 T.sz32 (i := 0) rfl (vs := [(.int .i64 W), (.int .i64 H), (.slice ad n cap)]) rfl rfl) (by decide) ?_
  refine GL.step (Stp.callR (σ := Unit) (p := fun rz => True) (v := fun rz => (.int .i64 (chk W H n))) (N := fun rz => []) (vs := [(.agg #[(.int .i64 W), (.int .i64 H), (.slice ad n cap)])]) rfl rfl T.own36 (by decide) (fun wc hw => check W H ad n cap wc)) (fun xq2 hq3 => ?_)
  refine GL.val (v := (.int .i64 (chk W H n))) (Ex.assign rfl) (by decide) ?_
  refine GL.nil ?_
  refine GE.thenN ?_
  refine GC.seq ?_
  refine GC.region ?_
  refine GL.val (v := (.int .i64 (chk W H n))) (Ex.move rfl) (by decide) ?_
  refine GL.val (v := (.bool (decide ((chk W H n) ≠ 0)))) (Ex.neq rfl rfl) (by decide) ?_
  refine GL.nil ?_
  refine GE.thenN ?_
  refine GC.cond rfl (fun _ => ?_) (fun hq4 => by exfalso; have hq4 := of_decide_eq_false hq4; omega)
  refine GC.seq ?_
  refine GC.region ?_
  refine GL.val (v := (.int .i64 (chk W H n))) (Ex.move rfl) (by decide) ?_
  refine GL.val (v := (.int .u32 0)) (Ex.assign rfl) (by decide) ?_
  refine GL.val (v := (.int .i64 (chk W H n))) (Ex.assign rfl) (by decide) ?_
  refine GL.nil ?_
  refine GE.thenN ?_
  refine GC.ret ?_
  refine GE.thenR ?_
  refine GC.ret2 rfl (Rv.tmp rfl) (Rv.tmp rfl) (fun wN HN => ?_)
  exact HN.ret () trivial rfl (List.nil_sublist _) rfl

set_option maxRecDepth 100000 in
set_option maxHeartbeats 1000000 in
theorem get_out (W H n cap : Nat) (ad : Option Addr) (X Y : Int) (w : World) (hok : okP W H) (hn : n = W * H) (hR : ¬ (0 ≤ X ∧ X < W ∧ 0 ≤ Y ∧ Y < H)) :
    Calls Try.prog 39 #[(.agg #[(.int .i64 ((W : Int))), (.int .i64 ((H : Int))), (.slice ad n cap)]), (.int .i64 X), (.int .i64 Y)] w (Ret w (fun _ : Unit => True) (fun _ => .tuple #[.int .u32 0, .int .i64 (52)]) (fun _ => [])) := by
  refine enter (M := None) (L := []) (n := 37) (l := [(0, (.agg #[(.int .i64 ((W : Int))), (.int .i64 ((H : Int))), (.slice ad n cap)])), (1, (.int .i64 X)), (2, (.int .i64 Y))]) Try.func39 rfl rfl (Args.cons rfl (Args.cons rfl (Args.cons rfl (Args.nil _)))) (Hp.start _ _) ?_
  refine GC.seq ?_
  refine GC.region ?_
  refine GL.step (Stp.box (cs := [(.int .i64 ((W : Int))), (.int .i64 ((H : Int))), (.slice ad n cap)]) rfl rfl (by decide)) (fun bq1 _ => ?_)
  refine GL.val (v := (.int .u32 0)) (Ex.assign rfl) (by decide) ?_
  refine GL.val (v := (.int .i64 0)) (Ex.assign rfl) (by decide) ?_
  refine GL.nil ?_
  refine GE.thenN ?_
  refine GC.seq ?_
  refine GC.seq ?_
  refine GC.region ?_
  refine GL.val (v := (.agg #[(.int .i64 ((W : Int))), (.int .i64 ((H : Int))), (.slice ad n cap)])) (Ex.loadA rfl T.ag32 T.sz32 (i := 0) rfl (vs := [(.int .i64 ((W : Int))), (.int .i64 ((H : Int))), (.slice ad n cap)]) rfl rfl) (by decide) ?_
  refine GL.step (Stp.callR (σ := Unit) (p := fun rz => True) (v := fun rz => (.int .i64 0)) (N := fun rz => []) (vs := [(.agg #[(.int .i64 ((W : Int))), (.int .i64 ((H : Int))), (.slice ad n cap)])]) rfl rfl T.own36 (by decide) (fun wc hw => (check_ok W H ad n cap wc hok hn))) (fun xq2 hq3 => ?_)
  refine GL.val (v := (.int .i64 0)) (Ex.assign rfl) (by decide) ?_
  refine GL.nil ?_
  refine GE.thenN ?_
  refine GC.seq ?_
  refine GC.region ?_
  refine GL.val (v := (.int .i64 0)) (Ex.move rfl) (by decide) ?_
  refine GL.val (v := (.bool false)) (Ex.cast (Ex.neq rfl rfl) rfl) (by decide) ?_
  refine GL.nil ?_
  refine GE.thenN ?_
  refine GC.cond rfl (fun hq4 => by cases hq4) (fun _ => ?_)
  refine GC.skip ?_
  refine GE.thenN ?_
  refine GC.seq ?_
  refine GC.seq ?_
  refine GC.region ?_
  refine GL.val (v := (.int .i64 X)) (Ex.move rfl) (by decide) ?_
  by_cases hq5 : X < 0
  · refine GL.val (v := (.bool true)) (Ex.cast (Ex.lss rfl rfl) (congrArg Value.bool (decide_eq_true hq5))) (by decide) ?_
    refine GL.val (v := (.bool true)) (Ex.move rfl) (by decide) ?_
    refine GL.skipG (tj := 16) rfl rfl rfl (by decide) ?_
    refine GL.skipG (tj := 16) rfl rfl rfl (by decide) ?_
    refine GL.val (v := (.bool true)) (Ex.pickT rfl rfl) (by decide) ?_
    refine GL.val (v := (.bool true)) (Ex.move rfl) (by decide) ?_
    refine GL.skipG (tj := 20) rfl rfl rfl (by decide) ?_
    refine GL.skipG (tj := 20) rfl rfl rfl (by decide) ?_
    refine GL.skipG (tj := 20) rfl rfl rfl (by decide) ?_
    refine GL.skipG (tj := 20) rfl rfl rfl (by decide) ?_
    refine GL.val (v := (.bool true)) (Ex.pickT rfl rfl) (by decide) ?_
    refine GL.val (v := (.bool true)) (Ex.move rfl) (by decide) ?_
    refine GL.skipG (tj := 26) rfl rfl rfl (by decide) ?_
    refine GL.skipG (tj := 26) rfl rfl rfl (by decide) ?_
    refine GL.skipG (tj := 26) rfl rfl rfl (by decide) ?_
    refine GL.skipG (tj := 26) rfl rfl rfl (by decide) ?_
    refine GL.val (v := (.bool true)) (Ex.pickT rfl rfl) (by decide) ?_
    refine GL.nil ?_
    refine GE.thenN ?_
    refine GC.cond rfl (fun _ => ?_) (fun hq6 => by cases hq6)
    refine GC.seq ?_
    refine GC.region ?_
    refine GL.val (v := (.int .u32 0)) (Ex.assign rfl) (by decide) ?_
    refine GL.val (v := (.int .i64 52)) (Ex.assign rfl) (by decide) ?_
    refine GL.nil ?_
    refine GE.thenN ?_
    refine GC.ret ?_
    refine GE.thenR ?_
    refine GC.ret2 rfl (Rv.tmp rfl) (Rv.tmp rfl) (fun wN HN => ?_)
    exact HN.ret () trivial rfl (List.nil_sublist _) rfl
  · refine GL.val (v := (.bool false)) (Ex.cast (Ex.lss rfl rfl) (congrArg Value.bool (decide_eq_false hq5))) (by decide) ?_
    refine GL.val (v := (.bool false)) (Ex.move rfl) (by decide) ?_
    refine GL.stepG (tj := 16) rfl rfl (Ex.wp (v := (.int .i64 Y)) (Ex.move rfl) (by decide)) (fun _ _ => ?_)
    by_cases hq7 : Y < 0
    · refine GL.stepG (tj := 16) rfl rfl (Ex.wp (v := (.bool true)) (Ex.cast (Ex.lss rfl rfl) (congrArg Value.bool (decide_eq_true hq7))) (by decide)) (fun _ _ => ?_)
      refine GL.val (v := (.bool true)) (Ex.pickF rfl rfl) (by decide) ?_
      refine GL.val (v := (.bool true)) (Ex.move rfl) (by decide) ?_
      refine GL.skipG (tj := 20) rfl rfl rfl (by decide) ?_
      refine GL.skipG (tj := 20) rfl rfl rfl (by decide) ?_
      refine GL.skipG (tj := 20) rfl rfl rfl (by decide) ?_
      refine GL.skipG (tj := 20) rfl rfl rfl (by decide) ?_
      refine GL.val (v := (.bool true)) (Ex.pickT rfl rfl) (by decide) ?_
      refine GL.val (v := (.bool true)) (Ex.move rfl) (by decide) ?_
      refine GL.skipG (tj := 26) rfl rfl rfl (by decide) ?_
      refine GL.skipG (tj := 26) rfl rfl rfl (by decide) ?_
      refine GL.skipG (tj := 26) rfl rfl rfl (by decide) ?_
      refine GL.skipG (tj := 26) rfl rfl rfl (by decide) ?_
      refine GL.val (v := (.bool true)) (Ex.pickT rfl rfl) (by decide) ?_
      refine GL.nil ?_
      refine GE.thenN ?_
      refine GC.cond rfl (fun _ => ?_) (fun hq8 => by cases hq8)
      refine GC.seq ?_
      refine GC.region ?_
      refine GL.val (v := (.int .u32 0)) (Ex.assign rfl) (by decide) ?_
      refine GL.val (v := (.int .i64 52)) (Ex.assign rfl) (by decide) ?_
      refine GL.nil ?_
      refine GE.thenN ?_
      refine GC.ret ?_
      refine GE.thenR ?_
      refine GC.ret2 rfl (Rv.tmp rfl) (Rv.tmp rfl) (fun wN HN => ?_)
      exact HN.ret () trivial rfl (List.nil_sublist _) rfl
    · refine GL.stepG (tj := 16) rfl rfl (Ex.wp (v := (.bool false)) (Ex.cast (Ex.lss rfl rfl) (congrArg Value.bool (decide_eq_false hq7))) (by decide)) (fun _ _ => ?_)
      refine GL.val (v := (.bool false)) (Ex.pickF rfl rfl) (by decide) ?_
      refine GL.val (v := (.bool false)) (Ex.move rfl) (by decide) ?_
      refine GL.stepG (tj := 20) rfl rfl (Ex.wp (v := (.int .i64 X)) (Ex.move rfl) (by decide)) (fun _ _ => ?_)
      refine GL.stepG (tj := 20) rfl rfl (Ex.wp (v := (.pointer (some ⟨bq1, 0, none⟩))) (Ex.cast (Ex.fieldAddr rfl Try.underlying32 rfl T.sz3 (by decide)) rfl) (by decide)) (fun _ _ => ?_)
      refine GL.stepG (tj := 20) rfl rfl (Ex.wp (v := (.int .i64 ((W : Int)))) (Ex.load rfl T.ag3 (i := 0) rfl rfl) (by decide)) (fun _ _ => ?_)
      by_cases hq9 : ((W : Int)) ≤ X
      · refine GL.stepG (tj := 20) rfl rfl (Ex.wp (v := (.bool true)) (Ex.cast (Ex.geq rfl rfl) (congrArg Value.bool (decide_eq_true hq9))) (by decide)) (fun _ _ => ?_)
        refine GL.val (v := (.bool true)) (Ex.pickF rfl rfl) (by decide) ?_
        refine GL.val (v := (.bool true)) (Ex.move rfl) (by decide) ?_
        refine GL.skipG (tj := 26) rfl rfl rfl (by decide) ?_
        refine GL.skipG (tj := 26) rfl rfl rfl (by decide) ?_
        refine GL.skipG (tj := 26) rfl rfl rfl (by decide) ?_
        refine GL.skipG (tj := 26) rfl rfl rfl (by decide) ?_
        refine GL.val (v := (.bool true)) (Ex.pickT rfl rfl) (by decide) ?_
        refine GL.nil ?_
        refine GE.thenN ?_
        refine GC.cond rfl (fun _ => ?_) (fun hq10 => by cases hq10)
        refine GC.seq ?_
        refine GC.region ?_
        refine GL.val (v := (.int .u32 0)) (Ex.assign rfl) (by decide) ?_
        refine GL.val (v := (.int .i64 52)) (Ex.assign rfl) (by decide) ?_
        refine GL.nil ?_
        refine GE.thenN ?_
        refine GC.ret ?_
        refine GE.thenR ?_
        refine GC.ret2 rfl (Rv.tmp rfl) (Rv.tmp rfl) (fun wN HN => ?_)
        exact HN.ret () trivial rfl (List.nil_sublist _) rfl
      · refine GL.stepG (tj := 20) rfl rfl (Ex.wp (v := (.bool false)) (Ex.cast (Ex.geq rfl rfl) (congrArg Value.bool (decide_eq_false hq9))) (by decide)) (fun _ _ => ?_)
        refine GL.val (v := (.bool false)) (Ex.pickF rfl rfl) (by decide) ?_
        refine GL.val (v := (.bool false)) (Ex.move rfl) (by decide) ?_
        refine GL.stepG (tj := 26) rfl rfl (Ex.wp (v := (.int .i64 Y)) (Ex.move rfl) (by decide)) (fun _ _ => ?_)
        refine GL.stepG (tj := 26) rfl rfl (Ex.wp (v := (.pointer (some ⟨bq1, 1, none⟩))) (Ex.cast (Ex.fieldAddr rfl Try.underlying32 rfl T.sz3 (by decide)) rfl) (by decide)) (fun _ _ => ?_)
        refine GL.stepG (tj := 26) rfl rfl (Ex.wp (v := (.int .i64 ((H : Int)))) (Ex.load rfl T.ag3 (i := 0) rfl rfl) (by decide)) (fun _ _ => ?_)
        refine GL.stepG (tj := 26) rfl rfl (Ex.wp (v := (.bool (decide (((H : Int)) ≤ Y)))) (Ex.geq rfl rfl) (by decide)) (fun _ _ => ?_)
        refine GL.val (v := (.bool (decide (((H : Int)) ≤ Y)))) (Ex.pickF rfl rfl) (by decide) ?_
        refine GL.nil ?_
        refine GE.thenN ?_
        refine GC.cond rfl (fun hq11 => ?_) (fun hq11 => ?_)
        · replace hq11 := of_decide_eq_true hq11
          refine GC.seq ?_
          refine GC.region ?_
          refine GL.val (v := (.int .u32 0)) (Ex.assign rfl) (by decide) ?_
          refine GL.val (v := (.int .i64 52)) (Ex.assign rfl) (by decide) ?_
          refine GL.nil ?_
          refine GE.thenN ?_
          refine GC.ret ?_
          refine GE.thenR ?_
          refine GC.ret2 rfl (Rv.tmp rfl) (Rv.tmp rfl) (fun wN HN => ?_)
          exact HN.ret () trivial rfl (List.nil_sublist _) rfl
        · replace hq11 := of_decide_eq_false hq11
          exfalso; exact hR (by omega)

set_option maxRecDepth 100000 in
set_option maxHeartbeats 1000000 in
theorem extC (x y W H n cap b o Lf Tp bk bp bl bt bf : Nat) (k : Int) (fid : FuncId) (caps : Array Value) (g : Nat → Nat → Int) (w : World) (h1 : w.heap[bk]? = some (.cells #[(.int .i64 k)] 3 (0, 0))) (h2 : w.heap[bp]? = some (.cells #[(.int .i64 ((W : Int))), (.int .i64 ((H : Int))), (.slice (some ⟨b, o, none⟩) n cap)] 32 (0, 0))) (h3 : w.heap[bl]? = some (.cells #[(.int .i64 ((Lf : Int)))] 3 (0, 0))) (h4 : w.heap[bt]? = some (.cells #[(.int .i64 ((Tp : Int)))] 3 (0, 0))) (h5 : w.heap[bf]? = some (.cells #[(.func (.func fid) #[] caps)] 88 (0, 0)))
    (hf : Fn2 Try.prog w fid caps W H g) (hk : 1 ≤ k ∧ k ≤ 3) (hW : 1 ≤ W ∧ W ≤ 1024) (hH : 1 ≤ H ∧ H ≤ 1024) (hx : x ≤ 1024) (hy : y ≤ 1024) (hl : Lf ≤ 1024) (ht : Tp ≤ 1024) :
    Calls Try.prog 54 #[(.int .i64 ((x : Int))), (.int .i64 ((y : Int))), (.pointer (some ⟨bk, 0, none⟩)), (.pointer (some ⟨bp, 0, none⟩)), (.pointer (some ⟨bl, 0, none⟩)), (.pointer (some ⟨bt, 0, none⟩)), (.pointer (some ⟨bf, 0, none⟩))] w (Ret w (fun _ : Unit => True) (fun _ => .int .u32 (g (bord k W ((x : Int) - Lf)).1.toNat (bord k H ((y : Int) - Tp)).1.toNat)) (fun _ => [])) := by
  have hb1 := bord_ok (i := (x : Int) - Lf) hk.1 hk.2 (by omega : (1 : Int) ≤ W) (by omega)
  have hb2 := bord_ok (i := (y : Int) - Tp) hk.1 hk.2 (by omega : (1 : Int) ≤ H) (by omega)
  refine enter (M := None) (L := [⟨bk, [(.int .i64 k)], 3, false⟩, ⟨bp, [(.int .i64 ((W : Int))), (.int .i64 ((H : Int))), (.slice (some ⟨b, o, none⟩) n cap)], 32, false⟩, ⟨bl, [(.int .i64 ((Lf : Int)))], 3, false⟩, ⟨bt, [(.int .i64 ((Tp : Int)))], 3, false⟩, ⟨bf, [(.func (.func fid) #[] caps)], 88, false⟩]) (n := 38) (l := [(0, (.int .i64 ((x : Int)))), (1, (.int .i64 ((y : Int)))), (2, (.pointer (some ⟨bk, 0, none⟩))), (3, (.pointer (some ⟨bp, 0, none⟩))), (4, (.pointer (some ⟨bl, 0, none⟩))), (5, (.pointer (some ⟨bt, 0, none⟩))), (6, (.pointer (some ⟨bf, 0, none⟩)))]) Try.func54 rfl rfl (Args.cons rfl (Args.cons rfl (Args.cons rfl (Args.cons rfl (Args.cons rfl (Args.cons rfl (Args.cons rfl (Args.nil _)))))))) (Hp.reads (Has.cons h1 (Has.cons h2 (Has.cons h3 (Has.cons h4 (Has.cons h5 (Has.nil _)))))) rfl) ?_
  refine GC.seq ?_
  refine GC.region ?_
  refine GL.val (v := (.int .u32 0)) (Ex.assign rfl) (by decide) ?_
  refine GL.nil ?_
  refine GE.thenN ?_
  refine GC.seq ?_
  refine GC.region ?_
  refine GL.val (v := (.int .i64 k)) (Ex.load rfl T.ag3 (i := 0) rfl rfl) (by decide) ?_
  refine GL.val (v := (.pointer (some ⟨bp, 0, none⟩))) (Ex.cast (Ex.fieldAddr rfl Try.underlying32 rfl T.sz3 (by decide)) rfl) (by decide) ?_
  refine GL.val (v := (.int .i64 ((W : Int)))) (Ex.load rfl T.ag3 (i := 1) rfl rfl) (by decide) ?_
  refine GL.val (v := (.int .i64 ((x : Int)))) (Ex.move rfl) (by decide) ?_
  refine GL.val (v := (.int .i64 ((Lf : Int)))) (Ex.load rfl T.ag3 (i := 2) rfl rfl) (by decide) ?_
  refine GL.val (v := (.int .i64 (((x : Int)) - ((Lf : Int))))) (Ex.sub' rfl rfl (Z := ((x : Int)) - ((Lf : Int))) (w64 (by omega))) (by decide) ?_
  refine GL.step (Stp.callR (σ := Unit) (p := fun rz => True) (v := fun rz => (.tuple #[(.int .i64 ((bord k ((W : Int)) (((x : Int)) - ((Lf : Int)))).1)), (.int .i64 ((bord k ((W : Int)) (((x : Int)) - ((Lf : Int)))).2))])) (N := fun rz => []) (vs := [(.int .i64 k), (.int .i64 ((W : Int))), (.int .i64 (((x : Int)) - ((Lf : Int))))]) rfl rfl T.own14 (by decide) (fun wc hw => border k ((W : Int)) (((x : Int)) - ((Lf : Int))) wc)) (fun xq1 hq2 => ?_)
  refine GL.val (v := (.tuple #[(.int .i64 ((bord k ((W : Int)) (((x : Int)) - ((Lf : Int)))).1)), (.int .i64 ((bord k ((W : Int)) (((x : Int)) - ((Lf : Int)))).2))])) (Ex.move rfl) (by decide) ?_
  refine GL.val (v := (.int .i64 ((bord k ((W : Int)) (((x : Int)) - ((Lf : Int)))).1))) (Ex.extract rfl rfl) (by decide) ?_
  refine GL.val (v := (.int .i64 ((bord k ((W : Int)) (((x : Int)) - ((Lf : Int)))).2))) (Ex.extract rfl rfl) (by decide) ?_
  refine GL.val (v := (.int .i64 ((bord k ((W : Int)) (((x : Int)) - ((Lf : Int)))).1))) (Ex.assign rfl) (by decide) ?_
  refine GL.val (v := (.int .i64 ((bord k ((W : Int)) (((x : Int)) - ((Lf : Int)))).2))) (Ex.assign rfl) (by decide) ?_
  refine GL.nil ?_
  refine GE.thenN ?_
  refine GC.seq ?_
  refine GC.region ?_
  refine GL.val (v := (.int .i64 k)) (Ex.load rfl T.ag3 (i := 0) rfl rfl) (by decide) ?_
  refine GL.val (v := (.pointer (some ⟨bp, 1, none⟩))) (Ex.cast (Ex.fieldAddr rfl Try.underlying32 rfl T.sz3 (by decide)) rfl) (by decide) ?_
  refine GL.val (v := (.int .i64 ((H : Int)))) (Ex.load rfl T.ag3 (i := 1) rfl rfl) (by decide) ?_
  refine GL.val (v := (.int .i64 ((y : Int)))) (Ex.move rfl) (by decide) ?_
  refine GL.val (v := (.int .i64 ((Tp : Int)))) (Ex.load rfl T.ag3 (i := 3) rfl rfl) (by decide) ?_
  refine GL.val (v := (.int .i64 (((y : Int)) - ((Tp : Int))))) (Ex.sub' rfl rfl (Z := ((y : Int)) - ((Tp : Int))) (w64 (by omega))) (by decide) ?_
  refine GL.step (Stp.callR (σ := Unit) (p := fun rz => True) (v := fun rz => (.tuple #[(.int .i64 ((bord k ((H : Int)) (((y : Int)) - ((Tp : Int)))).1)), (.int .i64 ((bord k ((H : Int)) (((y : Int)) - ((Tp : Int)))).2))])) (N := fun rz => []) (vs := [(.int .i64 k), (.int .i64 ((H : Int))), (.int .i64 (((y : Int)) - ((Tp : Int))))]) rfl rfl T.own14 (by decide) (fun wc hw => border k ((H : Int)) (((y : Int)) - ((Tp : Int))) wc)) (fun xq3 hq4 => ?_)
  refine GL.val (v := (.tuple #[(.int .i64 ((bord k ((H : Int)) (((y : Int)) - ((Tp : Int)))).1)), (.int .i64 ((bord k ((H : Int)) (((y : Int)) - ((Tp : Int)))).2))])) (Ex.move rfl) (by decide) ?_
  refine GL.val (v := (.int .i64 ((bord k ((H : Int)) (((y : Int)) - ((Tp : Int)))).1))) (Ex.extract rfl rfl) (by decide) ?_
  refine GL.val (v := (.int .i64 ((bord k ((H : Int)) (((y : Int)) - ((Tp : Int)))).2))) (Ex.extract rfl rfl) (by decide) ?_
  refine GL.val (v := (.int .i64 ((bord k ((H : Int)) (((y : Int)) - ((Tp : Int)))).1))) (Ex.assign rfl) (by decide) ?_
  refine GL.val (v := (.int .i64 ((bord k ((H : Int)) (((y : Int)) - ((Tp : Int)))).2))) (Ex.assign rfl) (by decide) ?_
  refine GL.nil ?_
  refine GE.thenN ?_
  refine GC.seq ?_
  refine GC.region ?_
  refine GL.val (v := (.func (.func fid) #[] caps)) (Ex.load rfl T.ag88 (i := 4) rfl rfl) (by decide) ?_
  refine GL.val (v := (.int .i64 ((bord k ((W : Int)) (((x : Int)) - ((Lf : Int)))).1))) (Ex.move rfl) (by decide) ?_
  refine GL.val (v := (.int .i64 ((bord k ((H : Int)) (((y : Int)) - ((Tp : Int)))).1))) (Ex.move rfl) (by decide) ?_
  refine GL.step (Stp.callR (σ := Unit) (p := fun rz => True) (v := fun rz => (.int .u32 (g (bord k W ((x : Int) - Lf)).1.toNat (bord k H ((y : Int) - Tp)).1.toNat))) (N := fun rz => []) (vs := [(.int .i64 ((bord k ((W : Int)) (((x : Int)) - ((Lf : Int)))).1)), (.int .i64 ((bord k ((H : Int)) (((y : Int)) - ((Tp : Int)))).1))]) rfl rfl hf.1 (by decide) (fun wc hw => by have h := hf.2 (bord k W ((x : Int) - Lf)).1.toNat (bord k H ((y : Int) - Tp)).1.toNat (by omega) (by omega) wc hw.1; rw [Int.toNat_of_nonneg hb1.2.1, Int.toNat_of_nonneg hb2.2.1] at h; exact h)) (fun xq5 hq6 => ?_)
  refine GL.val (v := (.int .u32 (g (bord k W ((x : Int) - Lf)).1.toNat (bord k H ((y : Int) - Tp)).1.toNat))) (Ex.assign rfl) (by decide) ?_
  refine GL.nil ?_
  refine GE.thenN ?_
  refine GC.ret ?_
  refine GC.ret1 rfl (Rv.tmp rfl) (fun wN HN => ?_)
  exact HN.ret () trivial (by first | rfl | (congr 1; done)) (List.nil_sublist _) rfl

set_option maxRecDepth 100000 in
set_option maxHeartbeats 1000000 in
theorem extend (W H n cap b o Lf Tp Rg Bt : Nat) (xs : List Int) (k : Int) (w : World) (hok : okP W H) (hn : n = W * H) (hx : xs.length = n) (hr : Rd w b o (xs.map u32)) (hkk : 1 ≤ k ∧ k ≤ 3) (hl : Lf ≤ 1024 ∧ Tp ≤ 1024 ∧ Rg ≤ 1024 ∧ Bt ≤ 1024) (hok2 : okP (Lf + W + Rg) (Tp + H + Bt)) :
    Calls Try.prog 19 #[(.agg #[(.int .i64 ((W : Int))), (.int .i64 ((H : Int))), (.slice (some ⟨b, o, none⟩) n cap)]), (.int .i64 k), (.int .i64 ((Lf : Int))), (.int .i64 ((Tp : Int))), (.int .i64 ((Rg : Int))), (.int .i64 ((Bt : Int)))] w (Ret w (fun _ : Nat => True) (fun r => .tuple #[.agg #[.int .i64 ((Lf + W + Rg : Nat) : Int), .int .i64 ((Tp + H + Bt : Nat) : Int), .slice (some ⟨r, 0, none⟩) ((Lf + W + Rg) * (Tp + H + Bt)) ((Lf + W + Rg) * (Tp + H + Bt))], .int .i64 0]) (fun r => [⟨r, (tab (Lf + W + Rg) (fun x y => smp xs W (bord k W ((x : Int) - Lf)).1.toNat (bord k H ((y : Int) - Tp)).1.toNat) ((Lf + W + Rg) * (Tp + H + Bt))).map u32, 72, true⟩])) := by
  obtain ⟨q1, q2, q3, q4, _⟩ := id hok
  obtain ⟨r1, r2, r3, r4, _⟩ := id hok2
  have hsz := sizeB_ok hok2
  refine enter (M := None) (L := []) (n := 80) (l := [(0, (.agg #[(.int .i64 ((W : Int))), (.int .i64 ((H : Int))), (.slice (some ⟨b, o, none⟩) n cap)])), (1, (.int .i64 k)), (2, (.int .i64 ((Lf : Int)))), (3, (.int .i64 ((Tp : Int)))), (4, (.int .i64 ((Rg : Int)))), (5, (.int .i64 ((Bt : Int))))]) Try.func19 rfl rfl (Args.cons rfl (Args.cons rfl (Args.cons rfl (Args.cons rfl (Args.cons rfl (Args.cons rfl (Args.nil _))))))) (Hp.start _ _) ?_
  refine GC.seq ?_
  refine GC.region ?_
  refine GL.step (Stp.box (cs := [(.int .i64 ((W : Int))), (.int .i64 ((H : Int))), (.slice (some ⟨b, o, none⟩) n cap)]) rfl rfl (by decide)) (fun bq1 _ => ?_)
  refine GL.step (Stp.box (cs := [(.int .i64 k)]) rfl rfl (by decide)) (fun bq2 _ => ?_)
  refine GL.step (Stp.box (cs := [(.int .i64 ((Lf : Int)))]) rfl rfl (by decide)) (fun bq3 _ => ?_)
  refine GL.step (Stp.box (cs := [(.int .i64 ((Tp : Int)))]) rfl rfl (by decide)) (fun bq4 _ => ?_)
  refine GL.step (Stp.alloc T.zr32 (by decide)) (fun bq5 _ => ?_)
  refine GL.val (v := (.int .i64 0)) (Ex.assign rfl) (by decide) ?_
  refine GL.nil ?_
  refine GE.thenN ?_
  refine GC.seq ?_
  refine GC.seq ?_
  refine GC.region ?_
  refine GL.val (v := (.agg #[(.int .i64 ((W : Int))), (.int .i64 ((H : Int))), (.slice (some ⟨b, o, none⟩) n cap)])) (Ex.loadA rfl T.ag32 T.sz32 (i := 4) rfl (vs := [(.int .i64 ((W : Int))), (.int .i64 ((H : Int))), (.slice (some ⟨b, o, none⟩) n cap)]) rfl rfl) (by decide) ?_
  refine GL.step (Stp.callR (σ := Unit) (p := fun rz => True) (v := fun rz => (.int .i64 0)) (N := fun rz => []) (vs := [(.agg #[(.int .i64 ((W : Int))), (.int .i64 ((H : Int))), (.slice (some ⟨b, o, none⟩) n cap)])]) rfl rfl T.own36 (by decide) (fun wc hw => (check_ok W H (some ⟨b, o, none⟩) n cap wc hok hn))) (fun xq6 hq7 => ?_)
  refine GL.val (v := (.int .i64 0)) (Ex.assign rfl) (by decide) ?_
  refine GL.nil ?_
  refine GE.thenN ?_
  refine GC.seq ?_
  refine GC.region ?_
  refine GL.val (v := (.int .i64 0)) (Ex.move rfl) (by decide) ?_
  refine GL.val (v := (.bool false)) (Ex.cast (Ex.neq rfl rfl) rfl) (by decide) ?_
  refine GL.nil ?_
  refine GE.thenN ?_
  refine GC.cond rfl (fun hq8 => by cases hq8) (fun _ => ?_)
  refine GC.skip ?_
  refine GE.thenN ?_
  refine GC.seq ?_
  refine GC.seq ?_
  refine GC.region ?_
  refine GL.val (v := (.int .i64 k)) (Ex.load rfl T.ag3 (i := 3) rfl rfl) (by decide) ?_
  refine GL.step (Stp.callR (σ := Unit) (p := fun rz => True) (v := fun rz => (.tuple #[(.int .i64 ((bord k 1 0).1)), (.int .i64 ((bord k 1 0).2))])) (N := fun rz => []) (vs := [(.int .i64 k), (.int .i64 1), (.int .i64 0)]) rfl rfl T.own14 (by decide) (fun wc hw => border k 1 0 wc)) (fun xq9 hq10 => ?_)
  refine GL.val (v := (.tuple #[(.int .i64 ((bord k 1 0).1)), (.int .i64 ((bord k 1 0).2))])) (Ex.move rfl) (by decide) ?_
  refine GL.val (v := (.int .i64 ((bord k 1 0).1))) (Ex.extract rfl rfl) (by decide) ?_
  refine GL.val (v := (.int .i64 ((bord k 1 0).2))) (Ex.extract rfl rfl) (by decide) ?_
  refine GL.val (v := (.int .i64 ((bord k 1 0).1))) (Ex.assign rfl) (by decide) ?_
  refine GL.val (v := (.int .i64 ((bord k 1 0).2))) (Ex.assign rfl) (by decide) ?_
  refine GL.nil ?_
  refine GE.thenN ?_
  refine GC.seq ?_
  refine GC.region ?_
  refine GL.val (v := (.int .i64 ((bord k 1 0).2))) (Ex.move rfl) (by decide) ?_
  refine GL.val (v := (.bool (decide (((bord k 1 0).2) ≠ 0)))) (Ex.neq rfl rfl) (by decide) ?_
  refine GL.nil ?_
  refine GE.thenN ?_
  refine GC.cond rfl (fun hq11 => by exfalso; have hq11 := of_decide_eq_true hq11; have := (bord_ok (i := 0) hkk.1 hkk.2 (by omega : (1 : Int) ≤ 1) (by omega)).1; omega) (fun _ => ?_)
  refine GC.skip ?_
  refine GE.thenN ?_
  refine GC.seq ?_
  refine GC.region ?_
  refine GL.val (v := (.int .i64 ((Lf : Int)))) (Ex.load rfl T.ag3 (i := 2) rfl rfl) (by decide) ?_
  refine GL.val (v := (.int .i64 ((Tp : Int)))) (Ex.load rfl T.ag3 (i := 1) rfl rfl) (by decide) ?_
  refine GL.val (v := (.int .i64 ((Rg : Int)))) (Ex.move rfl) (by decide) ?_
  refine GL.val (v := (.int .i64 ((Bt : Int)))) (Ex.move rfl) (by decide) ?_
  refine GL.step (Stp.buildSlice (cs := [(.int .i64 ((Lf : Int))), (.int .i64 ((Tp : Int))), (.int .i64 ((Rg : Int))), (.int .i64 ((Bt : Int)))]) (vs := [(0, (.int .i64 ((Lf : Int)))), (1, (.int .i64 ((Tp : Int)))), (2, (.int .i64 ((Rg : Int)))), (3, (.int .i64 ((Bt : Int))))]) Try.underlying38 T.zr3 T.sz3 rfl (by decide) (by decide) (by first | rfl | kernel_rfl) (by decide)) (fun bq12 _ => ?_)
  refine GL.val (v := (.slice (some ⟨bq12, 0, none⟩) 4 4)) (Ex.assign rfl) (by decide) ?_
  refine GL.nil ?_
  refine GE.thenN ?_
  refine GC.seq ?_
  refine GC.seq ?_
  refine GC.region ?_
  refine GL.val (v := (.slice (some ⟨bq12, 0, none⟩) 4 4)) (Ex.move rfl) (by decide) ?_
  refine GL.step (Stp.callR (σ := Unit) (p := fun rz => True) (v := fun rz => (.int .i64 (min (min (min ((Lf : Int)) ((Tp : Int))) ((Rg : Int))) ((Bt : Int))))) (N := fun rz => []) (vs := [(.slice (some ⟨bq12, 0, none⟩) 4 4)]) rfl rfl T.own50 (by decide) (fun wc hw => min4 bq12 ((Lf : Int)) ((Tp : Int)) ((Rg : Int)) ((Bt : Int)) wc (hw.get (i := 0) rfl))) (fun xq13 hq14 => ?_)
  refine GL.val (v := (.bool (decide ((min (min (min ((Lf : Int)) ((Tp : Int))) ((Rg : Int))) ((Bt : Int))) < 0)))) (Ex.lss rfl rfl) (by decide) ?_
  refine GL.nil ?_
  refine GE.thenN ?_
  refine GC.cond rfl (fun hq15 => by exfalso; have hq15 := of_decide_eq_true hq15; omega) (fun _ => ?_)
  refine GC.skip ?_
  refine GE.thenN ?_
  refine GC.seq ?_
  refine GC.seq ?_
  refine GC.region ?_
  refine GL.val (v := (.slice (some ⟨bq12, 0, none⟩) 4 4)) (Ex.move rfl) (by decide) ?_
  refine GL.step (Stp.callR (σ := Unit) (p := fun rz => True) (v := fun rz => (.int .i64 (max (max (max ((Lf : Int)) ((Tp : Int))) ((Rg : Int))) ((Bt : Int))))) (N := fun rz => []) (vs := [(.slice (some ⟨bq12, 0, none⟩) 4 4)]) rfl rfl T.own51 (by decide) (fun wc hw => max4 bq12 ((Lf : Int)) ((Tp : Int)) ((Rg : Int)) ((Bt : Int)) wc (hw.get (i := 0) rfl))) (fun xq16 hq17 => ?_)
  refine GL.val (v := (.bool false)) (Ex.cast (Ex.gtr rfl rfl) (congrArg Value.bool (decide_eq_false (by omega)))) (by decide) ?_
  refine GL.val (v := (.bool false)) (Ex.move rfl) (by decide) ?_
  refine GL.stepG (tj := 46) rfl rfl (Ex.wp (v := (.int .i64 ((Lf : Int)))) (Ex.load rfl T.ag3 (i := 3) rfl rfl) (by decide)) (fun _ _ => ?_)
  refine GL.stepG (tj := 46) rfl rfl (Ex.wp (v := (.pointer (some ⟨bq1, 0, none⟩))) (Ex.cast (Ex.fieldAddr rfl Try.underlying32 rfl T.sz3 (by decide)) rfl) (by decide)) (fun _ _ => ?_)
  refine GL.stepG (tj := 46) rfl rfl (Ex.wp (v := (.int .i64 ((W : Int)))) (Ex.load rfl T.ag3 (i := 5) rfl rfl) (by decide)) (fun _ _ => ?_)
  refine GL.stepG (tj := 46) rfl rfl (Ex.wp (v := (.int .i64 (((Lf + W : Nat) : Int)))) (Ex.add rfl rfl (Z := ((Lf + W : Nat) : Int)) (by rw [w64 (by omega)]; omega)) (by decide)) (fun _ _ => ?_)
  refine GL.stepG (tj := 46) rfl rfl (Ex.wp (v := (.int .i64 ((Rg : Int)))) (Ex.move rfl) (by decide)) (fun _ _ => ?_)
  refine GL.stepG (tj := 46) rfl rfl (Ex.wp (v := (.int .i64 (((Lf + W + Rg : Nat) : Int)))) (Ex.add rfl rfl (Z := ((Lf + W + Rg : Nat) : Int)) (by rw [w64 (by omega)]; omega)) (by decide)) (fun _ _ => ?_)
  refine GL.stepG (tj := 46) rfl rfl (Ex.wp (v := (.int .i64 ((Tp : Int)))) (Ex.load rfl T.ag3 (i := 2) rfl rfl) (by decide)) (fun _ _ => ?_)
  refine GL.stepG (tj := 46) rfl rfl (Ex.wp (v := (.pointer (some ⟨bq1, 1, none⟩))) (Ex.cast (Ex.fieldAddr rfl Try.underlying32 rfl T.sz3 (by decide)) rfl) (by decide)) (fun _ _ => ?_)
  refine GL.stepG (tj := 46) rfl rfl (Ex.wp (v := (.int .i64 ((H : Int)))) (Ex.load rfl T.ag3 (i := 5) rfl rfl) (by decide)) (fun _ _ => ?_)
  refine GL.stepG (tj := 46) rfl rfl (Ex.wp (v := (.int .i64 (((Tp + H : Nat) : Int)))) (Ex.add rfl rfl (Z := ((Tp + H : Nat) : Int)) (by rw [w64 (by omega)]; omega)) (by decide)) (fun _ _ => ?_)
  refine GL.stepG (tj := 46) rfl rfl (Ex.wp (v := (.int .i64 ((Bt : Int)))) (Ex.move rfl) (by decide)) (fun _ _ => ?_)
  refine GL.stepG (tj := 46) rfl rfl (Ex.wp (v := (.int .i64 (((Tp + H + Bt : Nat) : Int)))) (Ex.add rfl rfl (Z := ((Tp + H + Bt : Nat) : Int)) (by rw [w64 (by omega)]; omega)) (by decide)) (fun _ _ => ?_)
  refine GL.stepG (tj := 46) rfl rfl (Stp.callR (σ := Unit) (p := fun rz => True) (v := fun rz => (.bool (sizeB (((Lf + W + Rg : Nat) : Int)) (((Tp + H + Bt : Nat) : Int))))) (N := fun rz => []) (vs := [(.int .i64 (((Lf + W + Rg : Nat) : Int))), (.int .i64 (((Tp + H + Bt : Nat) : Int)))]) rfl rfl T.own52 (by decide) (fun wc hw => size (((Lf + W + Rg : Nat) : Int)) (((Tp + H + Bt : Nat) : Int)) wc)) (fun xq18 hq19 => ?_)
  refine GL.stepG (tj := 46) rfl rfl (Ex.wp (v := (.bool (!(sizeB (((Lf + W + Rg : Nat) : Int)) (((Tp + H + Bt : Nat) : Int)))))) (Ex.not rfl) (by decide)) (fun _ _ => ?_)
  refine GL.val (v := (.bool (!(sizeB (((Lf + W + Rg : Nat) : Int)) (((Tp + H + Bt : Nat) : Int)))))) (Ex.pickF rfl rfl) (by decide) ?_
  refine GL.nil ?_
  refine GE.thenN ?_
  refine GC.cond rfl (fun hq20 => by exfalso; rw [hsz] at hq20; cases hq20) (fun _ => ?_)
  refine GC.skip ?_
  refine GE.thenN ?_
  refine GC.seq ?_
  refine GC.region ?_
  refine GL.val (v := (.agg #[(.int .i64 ((W : Int))), (.int .i64 ((H : Int))), (.slice (some ⟨b, o, none⟩) n cap)])) (Ex.loadA rfl T.ag32 T.sz32 (i := 5) rfl (vs := [(.int .i64 ((W : Int))), (.int .i64 ((H : Int))), (.slice (some ⟨b, o, none⟩) n cap)]) rfl rfl) (by decide) ?_
  refine GL.step (Stp.callR (σ := Nat) (p := fun rz => True) (v := fun rz => (.func (.func 75) #[] #[(.pointer (some ⟨rz, 0, none⟩))])) (N := fun rz => [⟨rz, [(.int .i64 ((W : Int))), (.int .i64 ((H : Int))), (.slice (some ⟨b, o, none⟩) n cap)], 32, true⟩]) (vs := [(.agg #[(.int .i64 ((W : Int))), (.int .i64 ((H : Int))), (.slice (some ⟨b, o, none⟩) n cap)])]) rfl rfl T.own53 (by decide) (fun wc hw => of W H n cap b o wc)) (fun xq21 hq22 => ?_)
  refine GL.step (Stp.alloc T.zr88 (by decide)) (fun bq23 _ => ?_)
  refine GL.step (Stp.storeL (i := 0) (L1 := [⟨bq23, [(.func (.func 75) #[] #[(.pointer (some ⟨xq21, 0, none⟩))])], 88, true⟩, ⟨xq21, [(.int .i64 ((W : Int))), (.int .i64 ((H : Int))), (.slice (some ⟨b, o, none⟩) n cap)], 32, true⟩, ⟨bq12, [(.int .i64 ((Lf : Int))), (.int .i64 ((Tp : Int))), (.int .i64 ((Rg : Int))), (.int .i64 ((Bt : Int)))], 3, true⟩, ⟨bq5, [(.int .i64 0), (.int .i64 0), (.slice none 0 0)], 32, true⟩, ⟨bq4, [(.int .i64 ((Tp : Int)))], 3, true⟩, ⟨bq3, [(.int .i64 ((Lf : Int)))], 3, true⟩, ⟨bq2, [(.int .i64 k)], 3, true⟩, ⟨bq1, [(.int .i64 ((W : Int))), (.int .i64 ((H : Int))), (.slice (some ⟨b, o, none⟩) n cap)], 32, true⟩]) rfl rfl rfl T.sz88 rfl rfl rfl rfl) (fun _ _ => ?_)
  refine GL.nil ?_
  refine GE.thenN ?_
  refine GC.seq ?_
  refine GC.region ?_
  refine GL.val (v := (.int .i64 ((Lf : Int)))) (Ex.load rfl T.ag3 (i := 5) rfl rfl) (by decide) ?_
  refine GL.val (v := (.pointer (some ⟨bq1, 0, none⟩))) (Ex.cast (Ex.fieldAddr rfl Try.underlying32 rfl T.sz3 (by decide)) rfl) (by decide) ?_
  refine GL.val (v := (.int .i64 ((W : Int)))) (Ex.load rfl T.ag3 (i := 7) rfl rfl) (by decide) ?_
  refine GL.val (v := (.int .i64 (((Lf + W : Nat) : Int)))) (Ex.add rfl rfl (Z := ((Lf + W : Nat) : Int)) (by rw [w64 (by omega)]; omega)) (by decide) ?_
  refine GL.val (v := (.int .i64 ((Rg : Int)))) (Ex.move rfl) (by decide) ?_
  refine GL.val (v := (.int .i64 (((Lf + W + Rg : Nat) : Int)))) (Ex.add rfl rfl (Z := ((Lf + W + Rg : Nat) : Int)) (by rw [w64 (by omega)]; omega)) (by decide) ?_
  refine GL.val (v := (.int .i64 ((Tp : Int)))) (Ex.load rfl T.ag3 (i := 4) rfl rfl) (by decide) ?_
  refine GL.val (v := (.pointer (some ⟨bq1, 1, none⟩))) (Ex.cast (Ex.fieldAddr rfl Try.underlying32 rfl T.sz3 (by decide)) rfl) (by decide) ?_
  refine GL.val (v := (.int .i64 ((H : Int)))) (Ex.load rfl T.ag3 (i := 7) rfl rfl) (by decide) ?_
  refine GL.val (v := (.int .i64 (((Tp + H : Nat) : Int)))) (Ex.add rfl rfl (Z := ((Tp + H : Nat) : Int)) (by rw [w64 (by omega)]; omega)) (by decide) ?_
  refine GL.val (v := (.int .i64 ((Bt : Int)))) (Ex.move rfl) (by decide) ?_
  refine GL.val (v := (.int .i64 (((Tp + H + Bt : Nat) : Int)))) (Ex.add rfl rfl (Z := ((Tp + H + Bt : Nat) : Int)) (by rw [w64 (by omega)]; omega)) (by decide) ?_
  refine GL.val (v := (.func (.func 54) #[] #[(.pointer (some ⟨bq2, 0, none⟩)), (.pointer (some ⟨bq1, 0, none⟩)), (.pointer (some ⟨bq3, 0, none⟩)), (.pointer (some ⟨bq4, 0, none⟩)), (.pointer (some ⟨bq23, 0, none⟩))])) (Ex.func (cs := [(.pointer (some ⟨bq2, 0, none⟩)), (.pointer (some ⟨bq1, 0, none⟩)), (.pointer (some ⟨bq3, 0, none⟩)), (.pointer (some ⟨bq4, 0, none⟩)), (.pointer (some ⟨bq23, 0, none⟩))]) rfl (fun _ hF => hF.evals _ _ rfl)) (by decide) ?_
  refine GL.val (v := (.agg #[(.int .i64 (((Lf + W + Rg : Nat) : Int))), (.int .i64 (((Tp + H + Bt : Nat) : Int))), (.func (.func 54) #[] #[(.pointer (some ⟨bq2, 0, none⟩)), (.pointer (some ⟨bq1, 0, none⟩)), (.pointer (some ⟨bq3, 0, none⟩)), (.pointer (some ⟨bq4, 0, none⟩)), (.pointer (some ⟨bq23, 0, none⟩))])])) (Ex.build (vs := [(0, (.int .i64 (((Lf + W + Rg : Nat) : Int)))), (1, (.int .i64 (((Tp + H + Bt : Nat) : Int)))), (2, (.func (.func 54) #[] #[(.pointer (some ⟨bq2, 0, none⟩)), (.pointer (some ⟨bq1, 0, none⟩)), (.pointer (some ⟨bq3, 0, none⟩)), (.pointer (some ⟨bq4, 0, none⟩)), (.pointer (some ⟨bq23, 0, none⟩))]))]) rfl (by first | rfl | kernel_rfl)) (by decide) ?_
  refine GL.step (Stp.callR (σ := Nat) (p := fun rz => True) (v := fun rz => (.agg #[(.int .i64 (((Lf + W + Rg : Nat) : Int))), (.int .i64 (((Tp + H + Bt : Nat) : Int))), (.slice (some ⟨rz, 0, none⟩) ((Lf + W + Rg) * (Tp + H + Bt)) ((Lf + W + Rg) * (Tp + H + Bt)))])) (N := fun rz => [⟨rz, (tab (Lf + W + Rg) (fun x y => smp xs W (bord k W ((x : Int) - Lf)).1.toNat (bord k H ((y : Int) - Tp)).1.toNat) ((Lf + W + Rg) * (Tp + H + Bt))).map u32, 72, true⟩]) (vs := [(.agg #[(.int .i64 (((Lf + W + Rg : Nat) : Int))), (.int .i64 (((Tp + H + Bt : Nat) : Int))), (.func (.func 54) #[] #[(.pointer (some ⟨bq2, 0, none⟩)), (.pointer (some ⟨bq1, 0, none⟩)), (.pointer (some ⟨bq3, 0, none⟩)), (.pointer (some ⟨bq4, 0, none⟩)), (.pointer (some ⟨bq23, 0, none⟩))])])]) rfl rfl T.own55 (by decide) (fun wc hw => made (Lf + W + Rg) (Tp + H + Bt) (54) (#[(.pointer (some ⟨bq2, 0, none⟩)), (.pointer (some ⟨bq1, 0, none⟩)), (.pointer (some ⟨bq3, 0, none⟩)), (.pointer (some ⟨bq4, 0, none⟩)), (.pointer (some ⟨bq23, 0, none⟩))]) (fun x y => smp xs W (bord k W ((x : Int) - Lf)).1.toNat (bord k H ((y : Int) - Tp)).1.toNat) wc ⟨T.own54, fun x y hx' hy' w3 hk3 => extC x y W H n cap b o Lf Tp bq2 bq1 bq3 bq4 bq23 k 75 #[.pointer (some ⟨xq21, 0, none⟩)] (smp xs W) w3 ((Has.cons (o := true) (hw.get (i := 6) rfl) (Has.nil _)).later hk3 _ List.mem_cons_self) ((Has.cons (o := true) (hw.get (i := 7) rfl) (Has.nil _)).later hk3 _ List.mem_cons_self) ((Has.cons (o := true) (hw.get (i := 5) rfl) (Has.nil _)).later hk3 _ List.mem_cons_self) ((Has.cons (o := true) (hw.get (i := 4) rfl) (Has.nil _)).later hk3 _ List.mem_cons_self) ((Has.cons (o := true) (hw.get (i := 0) rfl) (Has.nil _)).later hk3 _ List.mem_cons_self) ((of_fb W H n cap b o xq21 true xs w hok hn hx hr).fn2 (hw.1.two hk3) ((Has.cons (hw.get (i := 1) rfl) (Has.nil _)).later hk3)) hkk ⟨q1, q3⟩ ⟨q2, q4⟩ (by omega) (by omega) hl.1 hl.2.1⟩ hok2.2.2.1 hok2.2.2.2.1 hok2.2.2.2.2)) (fun xq24 hq25 => ?_)
  refine GL.step (Stp.storeL (i := 4) (L1 := [⟨xq24, (tab (Lf + W + Rg) (fun x y => smp xs W (bord k W ((x : Int) - Lf)).1.toNat (bord k H ((y : Int) - Tp)).1.toNat) ((Lf + W + Rg) * (Tp + H + Bt))).map u32, 72, true⟩, ⟨bq23, [(.func (.func 75) #[] #[(.pointer (some ⟨xq21, 0, none⟩))])], 88, true⟩, ⟨xq21, [(.int .i64 ((W : Int))), (.int .i64 ((H : Int))), (.slice (some ⟨b, o, none⟩) n cap)], 32, true⟩, ⟨bq12, [(.int .i64 ((Lf : Int))), (.int .i64 ((Tp : Int))), (.int .i64 ((Rg : Int))), (.int .i64 ((Bt : Int)))], 3, true⟩, ⟨bq5, [(.int .i64 (((Lf + W + Rg : Nat) : Int))), (.int .i64 (((Tp + H + Bt : Nat) : Int))), (.slice (some ⟨xq24, 0, none⟩) ((Lf + W + Rg) * (Tp + H + Bt)) ((Lf + W + Rg) * (Tp + H + Bt)))], 32, true⟩, ⟨bq4, [(.int .i64 ((Tp : Int)))], 3, true⟩, ⟨bq3, [(.int .i64 ((Lf : Int)))], 3, true⟩, ⟨bq2, [(.int .i64 k)], 3, true⟩, ⟨bq1, [(.int .i64 ((W : Int))), (.int .i64 ((H : Int))), (.slice (some ⟨b, o, none⟩) n cap)], 32, true⟩]) rfl rfl rfl T.sz32 rfl rfl rfl rfl) (fun _ _ => ?_)
  refine GL.val (v := (.int .i64 0)) (Ex.assign rfl) (by decide) ?_
  refine GL.nil ?_
  refine GE.thenN ?_
  refine GC.ret ?_
  refine GC.ret2 rfl (Rv.cellA rfl T.ag32 T.sz32 (L := _) (i := 4) rfl (vs := [(.int .i64 (((Lf + W + Rg : Nat) : Int))), (.int .i64 (((Tp + H + Bt : Nat) : Int))), (.slice (some ⟨xq24, 0, none⟩) ((Lf + W + Rg) * (Tp + H + Bt)) ((Lf + W + Rg) * (Tp + H + Bt)))]) rfl rfl) (Rv.tmp rfl) (fun wN HN => ?_)
  exact HN.ret (xq24) trivial rfl (List.Sublist.cons_cons _ (List.Sublist.cons _ (List.Sublist.cons _ (List.Sublist.cons _ (List.Sublist.cons _ (List.Sublist.cons _ (List.Sublist.cons _ (List.Sublist.cons _ (List.Sublist.cons _ (List.nil_sublist _)))))))))) rfl

set_option maxRecDepth 100000 in
set_option maxHeartbeats 1000000 in
theorem extend_inv (W H : Int) (ad : Option Addr) (n cap : Nat) (k l1 t1 r1 u1 : Int) (w : World) (hc : chk W H n ≠ 0) :
    Calls Try.prog 19 #[(.agg #[(.int .i64 W), (.int .i64 H), (.slice ad n cap)]), (.int .i64 k), (.int .i64 l1), (.int .i64 t1), (.int .i64 r1), (.int .i64 u1)] w (Ret w (fun _ : Unit => True) (fun _ => .tuple #[(.agg #[.int .i64 0, .int .i64 0, .slice none 0 0]), .int .i64 (chk W H n)]) (fun _ => [])) := by
  refine enter (M := None) (L := []) (n := 80) (l := [(0, (.agg #[(.int .i64 W), (.int .i64 H), (.slice ad n cap)])), (1, (.int .i64 k)), (2, (.int .i64 l1)), (3, (.int .i64 t1)), (4, (.int .i64 r1)), (5, (.int .i64 u1))]) Try.func19 rfl rfl (Args.cons rfl (Args.cons rfl (Args.cons rfl (Args.cons rfl (Args.cons rfl (Args.cons rfl (Args.nil _))))))) (Hp.start _ _) ?_
  refine GC.seq ?_
  refine GC.region ?_
  refine GL.step (Stp.box (cs := [(.int .i64 W), (.int .i64 H), (.slice ad n cap)]) rfl rfl (by decide)) (fun bq1 _ => ?_)
  refine GL.step (Stp.box (cs := [(.int .i64 k)]) rfl rfl (by decide)) (fun bq2 _ => ?_)
  refine GL.step (Stp.box (cs := [(.int .i64 l1)]) rfl rfl (by decide)) (fun bq3 _ => ?_)
  refine GL.step (Stp.box (cs := [(.int .i64 t1)]) rfl rfl (by decide)) (fun bq4 _ => ?_)
  refine GL.step (Stp.alloc T.zr32 (by decide)) (fun bq5 _ => ?_)
  refine GL.val (v := (.int .i64 0)) (Ex.assign rfl) (by decide) ?_
  refine GL.nil ?_
  refine GE.thenN ?_
  refine GC.seq ?_
  refine GC.seq ?_
  refine GC.region ?_
  refine GL.val (v := (.agg #[(.int .i64 W), (.int .i64 H), (.slice ad n cap)])) (Ex.loadA rfl T.ag32 T.sz32 (i := 4) rfl (vs := [(.int .i64 W), (.int .i64 H), (.slice ad n cap)]) rfl rfl) (by decide) ?_
  refine GL.step (Stp.callR (σ := Unit) (p := fun rz => True) (v := fun rz => (.int .i64 (chk W H n))) (N := fun rz => []) (vs := [(.agg #[(.int .i64 W), (.int .i64 H), (.slice ad n cap)])]) rfl rfl T.own36 (by decide) (fun wc hw => check W H ad n cap wc)) (fun xq6 hq7 => ?_)
  refine GL.val (v := (.int .i64 (chk W H n))) (Ex.assign rfl) (by decide) ?_
  refine GL.nil ?_
  refine GE.thenN ?_
  refine GC.seq ?_
  refine GC.region ?_
  refine GL.val (v := (.int .i64 (chk W H n))) (Ex.move rfl) (by decide) ?_
  refine GL.val (v := (.bool (decide ((chk W H n) ≠ 0)))) (Ex.neq rfl rfl) (by decide) ?_
  refine GL.nil ?_
  refine GE.thenN ?_
  refine GC.cond rfl (fun _ => ?_) (fun hq8 => by exfalso; have hq8 := of_decide_eq_false hq8; omega)
  refine GC.seq ?_
  refine GC.region ?_
  refine GL.val (v := (.agg #[(.int .i64 0), (.int .i64 0), (.slice none 0 0)])) (Ex.build (vs := []) rfl (by first | rfl | kernel_rfl)) (by decide) ?_
  refine GL.val (v := (.int .i64 (chk W H n))) (Ex.move rfl) (by decide) ?_
  refine GL.step (Stp.storeL (i := 0) (L1 := [⟨bq5, [(.int .i64 0), (.int .i64 0), (.slice none 0 0)], 32, true⟩, ⟨bq4, [(.int .i64 t1)], 3, true⟩, ⟨bq3, [(.int .i64 l1)], 3, true⟩, ⟨bq2, [(.int .i64 k)], 3, true⟩, ⟨bq1, [(.int .i64 W), (.int .i64 H), (.slice ad n cap)], 32, true⟩]) rfl rfl rfl T.sz32 rfl rfl rfl rfl) (fun _ _ => ?_)
  refine GL.val (v := (.int .i64 (chk W H n))) (Ex.assign rfl) (by decide) ?_
  refine GL.nil ?_
  refine GE.thenN ?_
  refine GC.ret ?_
  refine GE.thenR ?_
  refine GC.ret2 rfl (Rv.cellA rfl T.ag32 T.sz32 (L := _) (i := 0) rfl (vs := [(.int .i64 0), (.int .i64 0), (.slice none 0 0)]) rfl rfl) (Rv.tmp rfl) (fun wN HN => ?_)
  exact HN.ret () trivial rfl (List.nil_sublist _) rfl

set_option maxRecDepth 100000 in
set_option maxHeartbeats 1000000 in
theorem extend_k (W H : Int) (ad : Option Addr) (n cap : Nat) (k l1 t1 r1 u1 : Int) (w : World) (hc : chk W H n = 0) (hk : (bord k 1 0).2 ≠ 0) :
    Calls Try.prog 19 #[(.agg #[(.int .i64 W), (.int .i64 H), (.slice ad n cap)]), (.int .i64 k), (.int .i64 l1), (.int .i64 t1), (.int .i64 r1), (.int .i64 u1)] w (Ret w (fun _ : Unit => True) (fun _ => .tuple #[(.agg #[.int .i64 0, .int .i64 0, .slice none 0 0]), .int .i64 ((bord k 1 0).2)]) (fun _ => [])) := by
  refine enter (M := None) (L := []) (n := 80) (l := [(0, (.agg #[(.int .i64 W), (.int .i64 H), (.slice ad n cap)])), (1, (.int .i64 k)), (2, (.int .i64 l1)), (3, (.int .i64 t1)), (4, (.int .i64 r1)), (5, (.int .i64 u1))]) Try.func19 rfl rfl (Args.cons rfl (Args.cons rfl (Args.cons rfl (Args.cons rfl (Args.cons rfl (Args.cons rfl (Args.nil _))))))) (Hp.start _ _) ?_
  refine GC.seq ?_
  refine GC.region ?_
  refine GL.step (Stp.box (cs := [(.int .i64 W), (.int .i64 H), (.slice ad n cap)]) rfl rfl (by decide)) (fun bq1 _ => ?_)
  refine GL.step (Stp.box (cs := [(.int .i64 k)]) rfl rfl (by decide)) (fun bq2 _ => ?_)
  refine GL.step (Stp.box (cs := [(.int .i64 l1)]) rfl rfl (by decide)) (fun bq3 _ => ?_)
  refine GL.step (Stp.box (cs := [(.int .i64 t1)]) rfl rfl (by decide)) (fun bq4 _ => ?_)
  refine GL.step (Stp.alloc T.zr32 (by decide)) (fun bq5 _ => ?_)
  refine GL.val (v := (.int .i64 0)) (Ex.assign rfl) (by decide) ?_
  refine GL.nil ?_
  refine GE.thenN ?_
  refine GC.seq ?_
  refine GC.seq ?_
  refine GC.region ?_
  refine GL.val (v := (.agg #[(.int .i64 W), (.int .i64 H), (.slice ad n cap)])) (Ex.loadA rfl T.ag32 T.sz32 (i := 4) rfl (vs := [(.int .i64 W), (.int .i64 H), (.slice ad n cap)]) rfl rfl) (by decide) ?_
  refine GL.step (Stp.callR (σ := Unit) (p := fun rz => True) (v := fun rz => (.int .i64 (chk W H n))) (N := fun rz => []) (vs := [(.agg #[(.int .i64 W), (.int .i64 H), (.slice ad n cap)])]) rfl rfl T.own36 (by decide) (fun wc hw => check W H ad n cap wc)) (fun xq6 hq7 => ?_)
  refine GL.val (v := (.int .i64 (chk W H n))) (Ex.assign rfl) (by decide) ?_
  refine GL.nil ?_
  refine GE.thenN ?_
  refine GC.seq ?_
  refine GC.region ?_
  refine GL.val (v := (.int .i64 (chk W H n))) (Ex.move rfl) (by decide) ?_
  refine GL.val (v := (.bool (decide ((chk W H n) ≠ 0)))) (Ex.neq rfl rfl) (by decide) ?_
  refine GL.nil ?_
  refine GE.thenN ?_
  refine GC.cond rfl (fun hq8 => by exfalso; have hq8 := of_decide_eq_true hq8; omega) (fun _ => ?_)
  refine GC.skip ?_
  refine GE.thenN ?_
  refine GC.seq ?_
  refine GC.seq ?_
  refine GC.region ?_
  refine GL.val (v := (.int .i64 k)) (Ex.load rfl T.ag3 (i := 3) rfl rfl) (by decide) ?_
  refine GL.step (Stp.callR (σ := Unit) (p := fun rz => True) (v := fun rz => (.tuple #[(.int .i64 ((bord k 1 0).1)), (.int .i64 ((bord k 1 0).2))])) (N := fun rz => []) (vs := [(.int .i64 k), (.int .i64 1), (.int .i64 0)]) rfl rfl T.own14 (by decide) (fun wc hw => border k 1 0 wc)) (fun xq9 hq10 => ?_)
  refine GL.val (v := (.tuple #[(.int .i64 ((bord k 1 0).1)), (.int .i64 ((bord k 1 0).2))])) (Ex.move rfl) (by decide) ?_
  refine GL.val (v := (.int .i64 ((bord k 1 0).1))) (Ex.extract rfl rfl) (by decide) ?_
  refine GL.val (v := (.int .i64 ((bord k 1 0).2))) (Ex.extract rfl rfl) (by decide) ?_
  refine GL.val (v := (.int .i64 ((bord k 1 0).1))) (Ex.assign rfl) (by decide) ?_
  refine GL.val (v := (.int .i64 ((bord k 1 0).2))) (Ex.assign rfl) (by decide) ?_
  refine GL.nil ?_
  refine GE.thenN ?_
  refine GC.seq ?_
  refine GC.region ?_
  refine GL.val (v := (.int .i64 ((bord k 1 0).2))) (Ex.move rfl) (by decide) ?_
  refine GL.val (v := (.bool (decide (((bord k 1 0).2) ≠ 0)))) (Ex.neq rfl rfl) (by decide) ?_
  refine GL.nil ?_
  refine GE.thenN ?_
  refine GC.cond rfl (fun _ => ?_) (fun hq11 => by exfalso; have hq11 := of_decide_eq_false hq11; omega)
  refine GC.seq ?_
  refine GC.region ?_
  refine GL.val (v := (.agg #[(.int .i64 0), (.int .i64 0), (.slice none 0 0)])) (Ex.build (vs := []) rfl (by first | rfl | kernel_rfl)) (by decide) ?_
  refine GL.val (v := (.int .i64 ((bord k 1 0).2))) (Ex.move rfl) (by decide) ?_
  refine GL.step (Stp.storeL (i := 0) (L1 := [⟨bq5, [(.int .i64 0), (.int .i64 0), (.slice none 0 0)], 32, true⟩, ⟨bq4, [(.int .i64 t1)], 3, true⟩, ⟨bq3, [(.int .i64 l1)], 3, true⟩, ⟨bq2, [(.int .i64 k)], 3, true⟩, ⟨bq1, [(.int .i64 W), (.int .i64 H), (.slice ad n cap)], 32, true⟩]) rfl rfl rfl T.sz32 rfl rfl rfl rfl) (fun _ _ => ?_)
  refine GL.val (v := (.int .i64 ((bord k 1 0).2))) (Ex.assign rfl) (by decide) ?_
  refine GL.nil ?_
  refine GE.thenN ?_
  refine GC.ret ?_
  refine GE.thenR ?_
  refine GC.ret2 rfl (Rv.cellA rfl T.ag32 T.sz32 (L := _) (i := 0) rfl (vs := [(.int .i64 0), (.int .i64 0), (.slice none 0 0)]) rfl rfl) (Rv.tmp rfl) (fun wN HN => ?_)
  exact HN.ret () trivial rfl (List.nil_sublist _) rfl

set_option maxRecDepth 100000 in
set_option maxHeartbeats 1000000 in
theorem extend_neg (W H : Int) (ad : Option Addr) (n cap : Nat) (k l1 t1 r1 u1 : Int) (w : World) (hc : chk W H n = 0) (hk : (bord k 1 0).2 = 0) (hm : l1 < 0 ∨ t1 < 0 ∨ r1 < 0 ∨ u1 < 0) :
    Calls Try.prog 19 #[(.agg #[(.int .i64 W), (.int .i64 H), (.slice ad n cap)]), (.int .i64 k), (.int .i64 l1), (.int .i64 t1), (.int .i64 r1), (.int .i64 u1)] w (Ret w (fun _ : Unit => True) (fun _ => .tuple #[(.agg #[.int .i64 0, .int .i64 0, .slice none 0 0]), .int .i64 (52)]) (fun _ => [])) := by
  refine enter (M := None) (L := []) (n := 80) (l := [(0, (.agg #[(.int .i64 W), (.int .i64 H), (.slice ad n cap)])), (1, (.int .i64 k)), (2, (.int .i64 l1)), (3, (.int .i64 t1)), (4, (.int .i64 r1)), (5, (.int .i64 u1))]) Try.func19 rfl rfl (Args.cons rfl (Args.cons rfl (Args.cons rfl (Args.cons rfl (Args.cons rfl (Args.cons rfl (Args.nil _))))))) (Hp.start _ _) ?_
  refine GC.seq ?_
  refine GC.region ?_
  refine GL.step (Stp.box (cs := [(.int .i64 W), (.int .i64 H), (.slice ad n cap)]) rfl rfl (by decide)) (fun bq1 _ => ?_)
  refine GL.step (Stp.box (cs := [(.int .i64 k)]) rfl rfl (by decide)) (fun bq2 _ => ?_)
  refine GL.step (Stp.box (cs := [(.int .i64 l1)]) rfl rfl (by decide)) (fun bq3 _ => ?_)
  refine GL.step (Stp.box (cs := [(.int .i64 t1)]) rfl rfl (by decide)) (fun bq4 _ => ?_)
  refine GL.step (Stp.alloc T.zr32 (by decide)) (fun bq5 _ => ?_)
  refine GL.val (v := (.int .i64 0)) (Ex.assign rfl) (by decide) ?_
  refine GL.nil ?_
  refine GE.thenN ?_
  refine GC.seq ?_
  refine GC.seq ?_
  refine GC.region ?_
  refine GL.val (v := (.agg #[(.int .i64 W), (.int .i64 H), (.slice ad n cap)])) (Ex.loadA rfl T.ag32 T.sz32 (i := 4) rfl (vs := [(.int .i64 W), (.int .i64 H), (.slice ad n cap)]) rfl rfl) (by decide) ?_
  refine GL.step (Stp.callR (σ := Unit) (p := fun rz => True) (v := fun rz => (.int .i64 (chk W H n))) (N := fun rz => []) (vs := [(.agg #[(.int .i64 W), (.int .i64 H), (.slice ad n cap)])]) rfl rfl T.own36 (by decide) (fun wc hw => check W H ad n cap wc)) (fun xq6 hq7 => ?_)
  refine GL.val (v := (.int .i64 (chk W H n))) (Ex.assign rfl) (by decide) ?_
  refine GL.nil ?_
  refine GE.thenN ?_
  refine GC.seq ?_
  refine GC.region ?_
  refine GL.val (v := (.int .i64 (chk W H n))) (Ex.move rfl) (by decide) ?_
  refine GL.val (v := (.bool (decide ((chk W H n) ≠ 0)))) (Ex.neq rfl rfl) (by decide) ?_
  refine GL.nil ?_
  refine GE.thenN ?_
  refine GC.cond rfl (fun hq8 => by exfalso; have hq8 := of_decide_eq_true hq8; omega) (fun _ => ?_)
  refine GC.skip ?_
  refine GE.thenN ?_
  refine GC.seq ?_
  refine GC.seq ?_
  refine GC.region ?_
  refine GL.val (v := (.int .i64 k)) (Ex.load rfl T.ag3 (i := 3) rfl rfl) (by decide) ?_
  refine GL.step (Stp.callR (σ := Unit) (p := fun rz => True) (v := fun rz => (.tuple #[(.int .i64 ((bord k 1 0).1)), (.int .i64 ((bord k 1 0).2))])) (N := fun rz => []) (vs := [(.int .i64 k), (.int .i64 1), (.int .i64 0)]) rfl rfl T.own14 (by decide) (fun wc hw => border k 1 0 wc)) (fun xq9 hq10 => ?_)
  refine GL.val (v := (.tuple #[(.int .i64 ((bord k 1 0).1)), (.int .i64 ((bord k 1 0).2))])) (Ex.move rfl) (by decide) ?_
  refine GL.val (v := (.int .i64 ((bord k 1 0).1))) (Ex.extract rfl rfl) (by decide) ?_
  refine GL.val (v := (.int .i64 ((bord k 1 0).2))) (Ex.extract rfl rfl) (by decide) ?_
  refine GL.val (v := (.int .i64 ((bord k 1 0).1))) (Ex.assign rfl) (by decide) ?_
  refine GL.val (v := (.int .i64 ((bord k 1 0).2))) (Ex.assign rfl) (by decide) ?_
  refine GL.nil ?_
  refine GE.thenN ?_
  refine GC.seq ?_
  refine GC.region ?_
  refine GL.val (v := (.int .i64 ((bord k 1 0).2))) (Ex.move rfl) (by decide) ?_
  refine GL.val (v := (.bool (decide (((bord k 1 0).2) ≠ 0)))) (Ex.neq rfl rfl) (by decide) ?_
  refine GL.nil ?_
  refine GE.thenN ?_
  refine GC.cond rfl (fun hq11 => by exfalso; have hq11 := of_decide_eq_true hq11; omega) (fun _ => ?_)
  refine GC.skip ?_
  refine GE.thenN ?_
  refine GC.seq ?_
  refine GC.region ?_
  refine GL.val (v := (.int .i64 l1)) (Ex.load rfl T.ag3 (i := 2) rfl rfl) (by decide) ?_
  refine GL.val (v := (.int .i64 t1)) (Ex.load rfl T.ag3 (i := 1) rfl rfl) (by decide) ?_
  refine GL.val (v := (.int .i64 r1)) (Ex.move rfl) (by decide) ?_
  refine GL.val (v := (.int .i64 u1)) (Ex.move rfl) (by decide) ?_
  refine GL.step (Stp.buildSlice (cs := [(.int .i64 l1), (.int .i64 t1), (.int .i64 r1), (.int .i64 u1)]) (vs := [(0, (.int .i64 l1)), (1, (.int .i64 t1)), (2, (.int .i64 r1)), (3, (.int .i64 u1))]) Try.underlying38 T.zr3 T.sz3 rfl (by decide) (by decide) (by first | rfl | kernel_rfl) (by decide)) (fun bq12 _ => ?_)
  refine GL.val (v := (.slice (some ⟨bq12, 0, none⟩) 4 4)) (Ex.assign rfl) (by decide) ?_
  refine GL.nil ?_
  refine GE.thenN ?_
  refine GC.seq ?_
  refine GC.seq ?_
  refine GC.region ?_
  refine GL.val (v := (.slice (some ⟨bq12, 0, none⟩) 4 4)) (Ex.move rfl) (by decide) ?_
  refine GL.step (Stp.callR (σ := Unit) (p := fun rz => True) (v := fun rz => (.int .i64 (min (min (min l1 t1) r1) u1))) (N := fun rz => []) (vs := [(.slice (some ⟨bq12, 0, none⟩) 4 4)]) rfl rfl T.own50 (by decide) (fun wc hw => min4 bq12 l1 t1 r1 u1 wc (hw.get (i := 0) rfl))) (fun xq13 hq14 => ?_)
  refine GL.val (v := (.bool (decide ((min (min (min l1 t1) r1) u1) < 0)))) (Ex.lss rfl rfl) (by decide) ?_
  refine GL.nil ?_
  refine GE.thenN ?_
  refine GC.cond rfl (fun _ => ?_) (fun hq15 => by exfalso; have hq15 := of_decide_eq_false hq15; omega)
  refine GC.seq ?_
  refine GC.region ?_
  refine GL.val (v := (.agg #[(.int .i64 0), (.int .i64 0), (.slice none 0 0)])) (Ex.build (vs := []) rfl (by first | rfl | kernel_rfl)) (by decide) ?_
  refine GL.step (Stp.storeL (i := 1) (L1 := [⟨bq12, [(.int .i64 l1), (.int .i64 t1), (.int .i64 r1), (.int .i64 u1)], 3, true⟩, ⟨bq5, [(.int .i64 0), (.int .i64 0), (.slice none 0 0)], 32, true⟩, ⟨bq4, [(.int .i64 t1)], 3, true⟩, ⟨bq3, [(.int .i64 l1)], 3, true⟩, ⟨bq2, [(.int .i64 k)], 3, true⟩, ⟨bq1, [(.int .i64 W), (.int .i64 H), (.slice ad n cap)], 32, true⟩]) rfl rfl rfl T.sz32 rfl rfl rfl rfl) (fun _ _ => ?_)
  refine GL.val (v := (.int .i64 52)) (Ex.assign rfl) (by decide) ?_
  refine GL.nil ?_
  refine GE.thenN ?_
  refine GC.ret ?_
  refine GE.thenR ?_
  refine GC.ret2 rfl (Rv.cellA rfl T.ag32 T.sz32 (L := _) (i := 1) rfl (vs := [(.int .i64 0), (.int .i64 0), (.slice none 0 0)]) rfl rfl) (Rv.tmp rfl) (fun wN HN => ?_)
  exact HN.ret () trivial rfl (List.nil_sublist _) rfl

set_option maxRecDepth 100000 in
set_option maxHeartbeats 1000000 in
theorem extend_big (W H : Int) (ad : Option Addr) (n cap : Nat) (k l1 t1 r1 u1 : Int) (w : World) (hW : 1 ≤ W ∧ W ≤ 1024) (hH : 1 ≤ H ∧ H ≤ 1024) (hc : chk W H n = 0) (hk : (bord k 1 0).2 = 0) (hm : 0 ≤ l1 ∧ 0 ≤ t1 ∧ 0 ≤ r1 ∧ 0 ≤ u1) (hz : (l1 ≤ 1024 ∧ t1 ≤ 1024 ∧ r1 ≤ 1024 ∧ u1 ≤ 1024) → sizeB (l1 + W + r1) (t1 + H + u1) = false) :
    Calls Try.prog 19 #[(.agg #[(.int .i64 W), (.int .i64 H), (.slice ad n cap)]), (.int .i64 k), (.int .i64 l1), (.int .i64 t1), (.int .i64 r1), (.int .i64 u1)] w (Ret w (fun _ : Unit => True) (fun _ => .tuple #[(.agg #[.int .i64 0, .int .i64 0, .slice none 0 0]), .int .i64 (50)]) (fun _ => [])) := by
  refine enter (M := None) (L := []) (n := 80) (l := [(0, (.agg #[(.int .i64 W), (.int .i64 H), (.slice ad n cap)])), (1, (.int .i64 k)), (2, (.int .i64 l1)), (3, (.int .i64 t1)), (4, (.int .i64 r1)), (5, (.int .i64 u1))]) Try.func19 rfl rfl (Args.cons rfl (Args.cons rfl (Args.cons rfl (Args.cons rfl (Args.cons rfl (Args.cons rfl (Args.nil _))))))) (Hp.start _ _) ?_
  refine GC.seq ?_
  refine GC.region ?_
  refine GL.step (Stp.box (cs := [(.int .i64 W), (.int .i64 H), (.slice ad n cap)]) rfl rfl (by decide)) (fun bq1 _ => ?_)
  refine GL.step (Stp.box (cs := [(.int .i64 k)]) rfl rfl (by decide)) (fun bq2 _ => ?_)
  refine GL.step (Stp.box (cs := [(.int .i64 l1)]) rfl rfl (by decide)) (fun bq3 _ => ?_)
  refine GL.step (Stp.box (cs := [(.int .i64 t1)]) rfl rfl (by decide)) (fun bq4 _ => ?_)
  refine GL.step (Stp.alloc T.zr32 (by decide)) (fun bq5 _ => ?_)
  refine GL.val (v := (.int .i64 0)) (Ex.assign rfl) (by decide) ?_
  refine GL.nil ?_
  refine GE.thenN ?_
  refine GC.seq ?_
  refine GC.seq ?_
  refine GC.region ?_
  refine GL.val (v := (.agg #[(.int .i64 W), (.int .i64 H), (.slice ad n cap)])) (Ex.loadA rfl T.ag32 T.sz32 (i := 4) rfl (vs := [(.int .i64 W), (.int .i64 H), (.slice ad n cap)]) rfl rfl) (by decide) ?_
  refine GL.step (Stp.callR (σ := Unit) (p := fun rz => True) (v := fun rz => (.int .i64 (chk W H n))) (N := fun rz => []) (vs := [(.agg #[(.int .i64 W), (.int .i64 H), (.slice ad n cap)])]) rfl rfl T.own36 (by decide) (fun wc hw => check W H ad n cap wc)) (fun xq6 hq7 => ?_)
  refine GL.val (v := (.int .i64 (chk W H n))) (Ex.assign rfl) (by decide) ?_
  refine GL.nil ?_
  refine GE.thenN ?_
  refine GC.seq ?_
  refine GC.region ?_
  refine GL.val (v := (.int .i64 (chk W H n))) (Ex.move rfl) (by decide) ?_
  refine GL.val (v := (.bool (decide ((chk W H n) ≠ 0)))) (Ex.neq rfl rfl) (by decide) ?_
  refine GL.nil ?_
  refine GE.thenN ?_
  refine GC.cond rfl (fun hq8 => by exfalso; have hq8 := of_decide_eq_true hq8; omega) (fun _ => ?_)
  refine GC.skip ?_
  refine GE.thenN ?_
  refine GC.seq ?_
  refine GC.seq ?_
  refine GC.region ?_
  refine GL.val (v := (.int .i64 k)) (Ex.load rfl T.ag3 (i := 3) rfl rfl) (by decide) ?_
  refine GL.step (Stp.callR (σ := Unit) (p := fun rz => True) (v := fun rz => (.tuple #[(.int .i64 ((bord k 1 0).1)), (.int .i64 ((bord k 1 0).2))])) (N := fun rz => []) (vs := [(.int .i64 k), (.int .i64 1), (.int .i64 0)]) rfl rfl T.own14 (by decide) (fun wc hw => border k 1 0 wc)) (fun xq9 hq10 => ?_)
  refine GL.val (v := (.tuple #[(.int .i64 ((bord k 1 0).1)), (.int .i64 ((bord k 1 0).2))])) (Ex.move rfl) (by decide) ?_
  refine GL.val (v := (.int .i64 ((bord k 1 0).1))) (Ex.extract rfl rfl) (by decide) ?_
  refine GL.val (v := (.int .i64 ((bord k 1 0).2))) (Ex.extract rfl rfl) (by decide) ?_
  refine GL.val (v := (.int .i64 ((bord k 1 0).1))) (Ex.assign rfl) (by decide) ?_
  refine GL.val (v := (.int .i64 ((bord k 1 0).2))) (Ex.assign rfl) (by decide) ?_
  refine GL.nil ?_
  refine GE.thenN ?_
  refine GC.seq ?_
  refine GC.region ?_
  refine GL.val (v := (.int .i64 ((bord k 1 0).2))) (Ex.move rfl) (by decide) ?_
  refine GL.val (v := (.bool (decide (((bord k 1 0).2) ≠ 0)))) (Ex.neq rfl rfl) (by decide) ?_
  refine GL.nil ?_
  refine GE.thenN ?_
  refine GC.cond rfl (fun hq11 => by exfalso; have hq11 := of_decide_eq_true hq11; omega) (fun _ => ?_)
  refine GC.skip ?_
  refine GE.thenN ?_
  refine GC.seq ?_
  refine GC.region ?_
  refine GL.val (v := (.int .i64 l1)) (Ex.load rfl T.ag3 (i := 2) rfl rfl) (by decide) ?_
  refine GL.val (v := (.int .i64 t1)) (Ex.load rfl T.ag3 (i := 1) rfl rfl) (by decide) ?_
  refine GL.val (v := (.int .i64 r1)) (Ex.move rfl) (by decide) ?_
  refine GL.val (v := (.int .i64 u1)) (Ex.move rfl) (by decide) ?_
  refine GL.step (Stp.buildSlice (cs := [(.int .i64 l1), (.int .i64 t1), (.int .i64 r1), (.int .i64 u1)]) (vs := [(0, (.int .i64 l1)), (1, (.int .i64 t1)), (2, (.int .i64 r1)), (3, (.int .i64 u1))]) Try.underlying38 T.zr3 T.sz3 rfl (by decide) (by decide) (by first | rfl | kernel_rfl) (by decide)) (fun bq12 _ => ?_)
  refine GL.val (v := (.slice (some ⟨bq12, 0, none⟩) 4 4)) (Ex.assign rfl) (by decide) ?_
  refine GL.nil ?_
  refine GE.thenN ?_
  refine GC.seq ?_
  refine GC.seq ?_
  refine GC.region ?_
  refine GL.val (v := (.slice (some ⟨bq12, 0, none⟩) 4 4)) (Ex.move rfl) (by decide) ?_
  refine GL.step (Stp.callR (σ := Unit) (p := fun rz => True) (v := fun rz => (.int .i64 (min (min (min l1 t1) r1) u1))) (N := fun rz => []) (vs := [(.slice (some ⟨bq12, 0, none⟩) 4 4)]) rfl rfl T.own50 (by decide) (fun wc hw => min4 bq12 l1 t1 r1 u1 wc (hw.get (i := 0) rfl))) (fun xq13 hq14 => ?_)
  refine GL.val (v := (.bool (decide ((min (min (min l1 t1) r1) u1) < 0)))) (Ex.lss rfl rfl) (by decide) ?_
  refine GL.nil ?_
  refine GE.thenN ?_
  refine GC.cond rfl (fun hq15 => by exfalso; have hq15 := of_decide_eq_true hq15; omega) (fun _ => ?_)
  refine GC.skip ?_
  refine GE.thenN ?_
  refine GC.seq ?_
  refine GC.seq ?_
  refine GC.region ?_
  refine GL.val (v := (.slice (some ⟨bq12, 0, none⟩) 4 4)) (Ex.move rfl) (by decide) ?_
  refine GL.step (Stp.callR (σ := Unit) (p := fun rz => True) (v := fun rz => (.int .i64 (max (max (max l1 t1) r1) u1))) (N := fun rz => []) (vs := [(.slice (some ⟨bq12, 0, none⟩) 4 4)]) rfl rfl T.own51 (by decide) (fun wc hw => max4 bq12 l1 t1 r1 u1 wc (hw.get (i := 0) rfl))) (fun xq16 hq17 => ?_)
  by_cases hq18 : 1024 < (max (max (max l1 t1) r1) u1)
  · refine GL.val (v := (.bool true)) (Ex.cast (Ex.gtr rfl rfl) (congrArg Value.bool (decide_eq_true hq18))) (by decide) ?_
    refine GL.val (v := (.bool true)) (Ex.move rfl) (by decide) ?_
    refine GL.skipG (tj := 46) rfl rfl rfl (by decide) ?_
    refine GL.skipG (tj := 46) rfl rfl rfl (by decide) ?_
    refine GL.skipG (tj := 46) rfl rfl rfl (by decide) ?_
    refine GL.skipG (tj := 46) rfl rfl rfl (by decide) ?_
    refine GL.skipG (tj := 46) rfl rfl rfl (by decide) ?_
    refine GL.skipG (tj := 46) rfl rfl rfl (by decide) ?_
    refine GL.skipG (tj := 46) rfl rfl rfl (by decide) ?_
    refine GL.skipG (tj := 46) rfl rfl rfl (by decide) ?_
    refine GL.skipG (tj := 46) rfl rfl rfl (by decide) ?_
    refine GL.skipG (tj := 46) rfl rfl rfl (by decide) ?_
    refine GL.skipG (tj := 46) rfl rfl rfl (by decide) ?_
    refine GL.skipG (tj := 46) rfl rfl rfl (by decide) ?_
    refine GL.skipG (tj := 46) rfl rfl rfl (by decide) ?_
    refine GL.skipG (tj := 46) rfl rfl rfl (by decide) ?_
    refine GL.val (v := (.bool true)) (Ex.pickT rfl rfl) (by decide) ?_
    refine GL.nil ?_
    refine GE.thenN ?_
    refine GC.cond rfl (fun _ => ?_) (fun hq19 => by cases hq19)
    refine GC.seq ?_
    refine GC.region ?_
    refine GL.val (v := (.agg #[(.int .i64 0), (.int .i64 0), (.slice none 0 0)])) (Ex.build (vs := []) rfl (by first | rfl | kernel_rfl)) (by decide) ?_
    refine GL.step (Stp.storeL (i := 1) (L1 := [⟨bq12, [(.int .i64 l1), (.int .i64 t1), (.int .i64 r1), (.int .i64 u1)], 3, true⟩, ⟨bq5, [(.int .i64 0), (.int .i64 0), (.slice none 0 0)], 32, true⟩, ⟨bq4, [(.int .i64 t1)], 3, true⟩, ⟨bq3, [(.int .i64 l1)], 3, true⟩, ⟨bq2, [(.int .i64 k)], 3, true⟩, ⟨bq1, [(.int .i64 W), (.int .i64 H), (.slice ad n cap)], 32, true⟩]) rfl rfl rfl T.sz32 rfl rfl rfl rfl) (fun _ _ => ?_)
    refine GL.val (v := (.int .i64 50)) (Ex.assign rfl) (by decide) ?_
    refine GL.nil ?_
    refine GE.thenN ?_
    refine GC.ret ?_
    refine GE.thenR ?_
    refine GC.ret2 rfl (Rv.cellA rfl T.ag32 T.sz32 (L := _) (i := 1) rfl (vs := [(.int .i64 0), (.int .i64 0), (.slice none 0 0)]) rfl rfl) (Rv.tmp rfl) (fun wN HN => ?_)
    exact HN.ret () trivial rfl (List.nil_sublist _) rfl
  · refine GL.val (v := (.bool false)) (Ex.cast (Ex.gtr rfl rfl) (congrArg Value.bool (decide_eq_false hq18))) (by decide) ?_
    refine GL.val (v := (.bool false)) (Ex.move rfl) (by decide) ?_
    refine GL.stepG (tj := 46) rfl rfl (Ex.wp (v := (.int .i64 l1)) (Ex.load rfl T.ag3 (i := 3) rfl rfl) (by decide)) (fun _ _ => ?_)
    refine GL.stepG (tj := 46) rfl rfl (Ex.wp (v := (.pointer (some ⟨bq1, 0, none⟩))) (Ex.cast (Ex.fieldAddr rfl Try.underlying32 rfl T.sz3 (by decide)) rfl) (by decide)) (fun _ _ => ?_)
    refine GL.stepG (tj := 46) rfl rfl (Ex.wp (v := (.int .i64 W)) (Ex.load rfl T.ag3 (i := 5) rfl rfl) (by decide)) (fun _ _ => ?_)
    refine GL.stepG (tj := 46) rfl rfl (Ex.wp (v := (.int .i64 (l1 + W))) (Ex.add rfl rfl (Z := l1 + W) (w64 (by omega))) (by decide)) (fun _ _ => ?_)
    refine GL.stepG (tj := 46) rfl rfl (Ex.wp (v := (.int .i64 r1)) (Ex.move rfl) (by decide)) (fun _ _ => ?_)
    refine GL.stepG (tj := 46) rfl rfl (Ex.wp (v := (.int .i64 ((l1 + W) + r1))) (Ex.add rfl rfl (Z := (l1 + W) + r1) (w64 (by omega))) (by decide)) (fun _ _ => ?_)
    refine GL.stepG (tj := 46) rfl rfl (Ex.wp (v := (.int .i64 t1)) (Ex.load rfl T.ag3 (i := 2) rfl rfl) (by decide)) (fun _ _ => ?_)
    refine GL.stepG (tj := 46) rfl rfl (Ex.wp (v := (.pointer (some ⟨bq1, 1, none⟩))) (Ex.cast (Ex.fieldAddr rfl Try.underlying32 rfl T.sz3 (by decide)) rfl) (by decide)) (fun _ _ => ?_)
    refine GL.stepG (tj := 46) rfl rfl (Ex.wp (v := (.int .i64 H)) (Ex.load rfl T.ag3 (i := 5) rfl rfl) (by decide)) (fun _ _ => ?_)
    refine GL.stepG (tj := 46) rfl rfl (Ex.wp (v := (.int .i64 (t1 + H))) (Ex.add rfl rfl (Z := t1 + H) (w64 (by omega))) (by decide)) (fun _ _ => ?_)
    refine GL.stepG (tj := 46) rfl rfl (Ex.wp (v := (.int .i64 u1)) (Ex.move rfl) (by decide)) (fun _ _ => ?_)
    refine GL.stepG (tj := 46) rfl rfl (Ex.wp (v := (.int .i64 ((t1 + H) + u1))) (Ex.add rfl rfl (Z := (t1 + H) + u1) (w64 (by omega))) (by decide)) (fun _ _ => ?_)
    refine GL.stepG (tj := 46) rfl rfl (Stp.callR (σ := Unit) (p := fun rz => True) (v := fun rz => (.bool (sizeB ((l1 + W) + r1) ((t1 + H) + u1)))) (N := fun rz => []) (vs := [(.int .i64 ((l1 + W) + r1)), (.int .i64 ((t1 + H) + u1))]) rfl rfl T.own52 (by decide) (fun wc hw => size ((l1 + W) + r1) ((t1 + H) + u1) wc)) (fun xq20 hq21 => ?_)
    refine GL.stepG (tj := 46) rfl rfl (Ex.wp (v := (.bool (!(sizeB ((l1 + W) + r1) ((t1 + H) + u1))))) (Ex.not rfl) (by decide)) (fun _ _ => ?_)
    refine GL.val (v := (.bool (!(sizeB ((l1 + W) + r1) ((t1 + H) + u1))))) (Ex.pickF rfl rfl) (by decide) ?_
    refine GL.nil ?_
    refine GE.thenN ?_
    refine GC.cond rfl (fun _ => ?_) (fun hq22 => by exfalso; simp [hz (by omega)] at hq22)
    refine GC.seq ?_
    refine GC.region ?_
    refine GL.val (v := (.agg #[(.int .i64 0), (.int .i64 0), (.slice none 0 0)])) (Ex.build (vs := []) rfl (by first | rfl | kernel_rfl)) (by decide) ?_
    refine GL.step (Stp.storeL (i := 1) (L1 := [⟨bq12, [(.int .i64 l1), (.int .i64 t1), (.int .i64 r1), (.int .i64 u1)], 3, true⟩, ⟨bq5, [(.int .i64 0), (.int .i64 0), (.slice none 0 0)], 32, true⟩, ⟨bq4, [(.int .i64 t1)], 3, true⟩, ⟨bq3, [(.int .i64 l1)], 3, true⟩, ⟨bq2, [(.int .i64 k)], 3, true⟩, ⟨bq1, [(.int .i64 W), (.int .i64 H), (.slice ad n cap)], 32, true⟩]) rfl rfl rfl T.sz32 rfl rfl rfl rfl) (fun _ _ => ?_)
    refine GL.val (v := (.int .i64 50)) (Ex.assign rfl) (by decide) ?_
    refine GL.nil ?_
    refine GE.thenN ?_
    refine GC.ret ?_
    refine GE.thenR ?_
    refine GC.ret2 rfl (Rv.cellA rfl T.ag32 T.sz32 (L := _) (i := 1) rfl (vs := [(.int .i64 0), (.int .i64 0), (.slice none 0 0)]) rfl rfl) (Rv.tmp rfl) (fun wN HN => ?_)
    exact HN.ret () trivial rfl (List.nil_sublist _) rfl

set_option maxRecDepth 100000 in
set_option maxHeartbeats 1000000 in
theorem ref_eq (W1 H1 W2 H2 : Int) (b1 o1 n1 cap1 b2 o2 n2 cap2 : Nat) (xs ys : List Int) (w : World) (hx1 : xs.length = n1) (hx2 : ys.length = n2) (hr1 : Rd w b1 o1 (xs.map u32)) (hr2 : Rd w b2 o2 (ys.map u32)) (hb1 : n1 ≤ 35184372088832) :
    Calls Try.prog 26 #[(.agg #[(.int .i64 W1), (.int .i64 H1), (.slice (some ⟨b1, o1, none⟩) n1 cap1)]), (.agg #[(.int .i64 W2), (.int .i64 H2), (.slice (some ⟨b2, o2, none⟩) n2 cap2)])] w (Ret w (fun _ : Unit => True) (fun _ => .bool (eqB W1 H1 xs W2 H2 ys)) (fun _ => [])) := by
  refine enter (M := None) (L := []) (n := 45) (l := [(0, (.agg #[(.int .i64 W1), (.int .i64 H1), (.slice (some ⟨b1, o1, none⟩) n1 cap1)])), (1, (.agg #[(.int .i64 W2), (.int .i64 H2), (.slice (some ⟨b2, o2, none⟩) n2 cap2)]))]) Try.func26 rfl rfl (Args.cons rfl (Args.cons rfl (Args.nil _))) (Hp.start _ _) ?_
  refine GC.seq ?_
  refine GC.region ?_
  refine GL.step (Stp.box (cs := [(.int .i64 W1), (.int .i64 H1), (.slice (some ⟨b1, o1, none⟩) n1 cap1)]) rfl rfl (by decide)) (fun bq1 _ => ?_)
  refine GL.step (Stp.box (cs := [(.int .i64 W2), (.int .i64 H2), (.slice (some ⟨b2, o2, none⟩) n2 cap2)]) rfl rfl (by decide)) (fun bq2 _ => ?_)
  refine GL.val (v := (.bool false)) (Ex.assign rfl) (by decide) ?_
  refine GL.nil ?_
  refine GE.thenN ?_
  refine GC.seq ?_
  refine GC.seq ?_
  refine GC.region ?_
  refine GL.val (v := (.pointer (some ⟨bq1, 0, none⟩))) (Ex.cast (Ex.fieldAddr rfl Try.underlying32 rfl T.sz3 (by decide)) rfl) (by decide) ?_
  refine GL.val (v := (.int .i64 W1)) (Ex.load rfl T.ag3 (i := 1) rfl rfl) (by decide) ?_
  refine GL.val (v := (.pointer (some ⟨bq2, 0, none⟩))) (Ex.cast (Ex.fieldAddr rfl Try.underlying32 rfl T.sz3 (by decide)) rfl) (by decide) ?_
  refine GL.val (v := (.int .i64 W2)) (Ex.load rfl T.ag3 (i := 0) rfl rfl) (by decide) ?_
  by_cases hq3 : W1 ≠ W2
  · refine GL.val (v := (.bool true)) (Ex.cast (Ex.neq rfl rfl) (congrArg Value.bool (decide_eq_true hq3))) (by decide) ?_
    refine GL.val (v := (.bool true)) (Ex.move rfl) (by decide) ?_
    refine GL.skipG (tj := 11) rfl rfl rfl (by decide) ?_
    refine GL.skipG (tj := 11) rfl rfl rfl (by decide) ?_
    refine GL.skipG (tj := 11) rfl rfl rfl (by decide) ?_
    refine GL.skipG (tj := 11) rfl rfl rfl (by decide) ?_
    refine GL.skipG (tj := 11) rfl rfl rfl (by decide) ?_
    refine GL.val (v := (.bool true)) (Ex.pickT rfl rfl) (by decide) ?_
    refine GL.val (v := (.bool true)) (Ex.move rfl) (by decide) ?_
    refine GL.skipG (tj := 18) rfl rfl rfl (by decide) ?_
    refine GL.skipG (tj := 18) rfl rfl rfl (by decide) ?_
    refine GL.skipG (tj := 18) rfl rfl rfl (by decide) ?_
    refine GL.skipG (tj := 18) rfl rfl rfl (by decide) ?_
    refine GL.skipG (tj := 18) rfl rfl rfl (by decide) ?_
    refine GL.skipG (tj := 18) rfl rfl rfl (by decide) ?_
    refine GL.skipG (tj := 18) rfl rfl rfl (by decide) ?_
    refine GL.val (v := (.bool true)) (Ex.pickT rfl rfl) (by decide) ?_
    refine GL.nil ?_
    refine GE.thenN ?_
    refine GC.cond rfl (fun _ => ?_) (fun hq4 => by cases hq4)
    refine GC.seq ?_
    refine GC.region ?_
    refine GL.val (v := (.bool false)) (Ex.assign rfl) (by decide) ?_
    refine GL.nil ?_
    refine GE.thenN ?_
    refine GC.ret ?_
    refine GE.thenR ?_
    refine GC.ret1 rfl (Rv.tmp rfl) (fun wN HN => ?_)
    exact HN.ret () trivial (by rw [eqB, decide_eq_false (fun h => by have := congrArg List.length h.2.2; omega)]) (List.nil_sublist _) rfl
  · refine GL.val (v := (.bool false)) (Ex.cast (Ex.neq rfl rfl) (congrArg Value.bool (decide_eq_false hq3))) (by decide) ?_
    refine GL.val (v := (.bool false)) (Ex.move rfl) (by decide) ?_
    refine GL.stepG (tj := 11) rfl rfl (Ex.wp (v := (.pointer (some ⟨bq1, 1, none⟩))) (Ex.cast (Ex.fieldAddr rfl Try.underlying32 rfl T.sz3 (by decide)) rfl) (by decide)) (fun _ _ => ?_)
    refine GL.stepG (tj := 11) rfl rfl (Ex.wp (v := (.int .i64 H1)) (Ex.load rfl T.ag3 (i := 1) rfl rfl) (by decide)) (fun _ _ => ?_)
    refine GL.stepG (tj := 11) rfl rfl (Ex.wp (v := (.pointer (some ⟨bq2, 1, none⟩))) (Ex.cast (Ex.fieldAddr rfl Try.underlying32 rfl T.sz3 (by decide)) rfl) (by decide)) (fun _ _ => ?_)
    refine GL.stepG (tj := 11) rfl rfl (Ex.wp (v := (.int .i64 H2)) (Ex.load rfl T.ag3 (i := 0) rfl rfl) (by decide)) (fun _ _ => ?_)
    by_cases hq5 : H1 ≠ H2
    · refine GL.stepG (tj := 11) rfl rfl (Ex.wp (v := (.bool true)) (Ex.cast (Ex.neq rfl rfl) (congrArg Value.bool (decide_eq_true hq5))) (by decide)) (fun _ _ => ?_)
      refine GL.val (v := (.bool true)) (Ex.pickF rfl rfl) (by decide) ?_
      refine GL.val (v := (.bool true)) (Ex.move rfl) (by decide) ?_
      refine GL.skipG (tj := 18) rfl rfl rfl (by decide) ?_
      refine GL.skipG (tj := 18) rfl rfl rfl (by decide) ?_
      refine GL.skipG (tj := 18) rfl rfl rfl (by decide) ?_
      refine GL.skipG (tj := 18) rfl rfl rfl (by decide) ?_
      refine GL.skipG (tj := 18) rfl rfl rfl (by decide) ?_
      refine GL.skipG (tj := 18) rfl rfl rfl (by decide) ?_
      refine GL.skipG (tj := 18) rfl rfl rfl (by decide) ?_
      refine GL.val (v := (.bool true)) (Ex.pickT rfl rfl) (by decide) ?_
      refine GL.nil ?_
      refine GE.thenN ?_
      refine GC.cond rfl (fun _ => ?_) (fun hq6 => by cases hq6)
      refine GC.seq ?_
      refine GC.region ?_
      refine GL.val (v := (.bool false)) (Ex.assign rfl) (by decide) ?_
      refine GL.nil ?_
      refine GE.thenN ?_
      refine GC.ret ?_
      refine GE.thenR ?_
      refine GC.ret1 rfl (Rv.tmp rfl) (fun wN HN => ?_)
      exact HN.ret () trivial (by rw [eqB, decide_eq_false (fun h => by have := congrArg List.length h.2.2; omega)]) (List.nil_sublist _) rfl
    · refine GL.stepG (tj := 11) rfl rfl (Ex.wp (v := (.bool false)) (Ex.cast (Ex.neq rfl rfl) (congrArg Value.bool (decide_eq_false hq5))) (by decide)) (fun _ _ => ?_)
      refine GL.val (v := (.bool false)) (Ex.pickF rfl rfl) (by decide) ?_
      refine GL.val (v := (.bool false)) (Ex.move rfl) (by decide) ?_
      refine GL.stepG (tj := 18) rfl rfl (Ex.wp (v := (.pointer (some ⟨bq1, 2, none⟩))) (Ex.cast (Ex.fieldAddr rfl Try.underlying32 rfl T.sz30 (by decide)) rfl) (by decide)) (fun _ _ => ?_)
      refine GL.stepG (tj := 18) rfl rfl (Ex.wp (v := (.slice (some ⟨b1, o1, none⟩) n1 cap1)) (Ex.load rfl T.ag30 (i := 1) rfl rfl) (by decide)) (fun _ _ => ?_)
      refine GL.stepG (tj := 18) rfl rfl (Ex.wp (v := (.int .i64 ((n1 : Int)))) (Ex.len rfl Try.underlying30) (by decide)) (fun _ _ => ?_)
      refine GL.stepG (tj := 18) rfl rfl (Ex.wp (v := (.pointer (some ⟨bq2, 2, none⟩))) (Ex.cast (Ex.fieldAddr rfl Try.underlying32 rfl T.sz30 (by decide)) rfl) (by decide)) (fun _ _ => ?_)
      refine GL.stepG (tj := 18) rfl rfl (Ex.wp (v := (.slice (some ⟨b2, o2, none⟩) n2 cap2)) (Ex.load rfl T.ag30 (i := 0) rfl rfl) (by decide)) (fun _ _ => ?_)
      refine GL.stepG (tj := 18) rfl rfl (Ex.wp (v := (.int .i64 ((n2 : Int)))) (Ex.len rfl Try.underlying30) (by decide)) (fun _ _ => ?_)
      refine GL.stepG (tj := 18) rfl rfl (Ex.wp (v := (.bool (decide (((n1 : Int)) ≠ ((n2 : Int)))))) (Ex.neq rfl rfl) (by decide)) (fun _ _ => ?_)
      refine GL.val (v := (.bool (decide (((n1 : Int)) ≠ ((n2 : Int)))))) (Ex.pickF rfl rfl) (by decide) ?_
      refine GL.nil ?_
      refine GE.thenN ?_
      refine GC.cond rfl (fun hq7 => ?_) (fun hq7 => ?_)
      · replace hq7 := of_decide_eq_true hq7
        refine GC.seq ?_
        refine GC.region ?_
        refine GL.val (v := (.bool false)) (Ex.assign rfl) (by decide) ?_
        refine GL.nil ?_
        refine GE.thenN ?_
        refine GC.ret ?_
        refine GE.thenR ?_
        refine GC.ret1 rfl (Rv.tmp rfl) (fun wN HN => ?_)
        exact HN.ret () trivial (by rw [eqB, decide_eq_false (fun h => by have := congrArg List.length h.2.2; omega)]) (List.nil_sublist _) rfl
      · replace hq7 := of_decide_eq_false hq7
        refine GC.skip ?_
        refine GE.thenN ?_
        refine GC.seq ?_
        refine GC.seq ?_
        refine GC.region ?_
        refine GL.val (v := (.int .i64 0)) (Ex.assign rfl) (by decide) ?_
        refine GL.nil ?_
        refine GE.thenN ?_
        refine GC.block ?_
        refine GC.loop (σ := Nat) (fun k => k ≤ n1 ∧ ∀ j, j < k → xs.getD j 0 = ys.getD j 0) (fun k => [(2, (.pointer (some ⟨bq1, 0, none⟩))), (3, (.pointer (some ⟨bq2, 0, none⟩))), (5, (.int .i64 (((k : Nat) : Int))))]) (fun k => [⟨bq2, [(.int .i64 W2), (.int .i64 H2), (.slice (some ⟨b2, o2, none⟩) n2 cap2)], 32, true⟩, ⟨bq1, [(.int .i64 W1), (.int .i64 H1), (.slice (some ⟨b1, o1, none⟩) n1 cap1)], 32, true⟩]) (fun k => n1 - k) (0) ⟨Nat.zero_le _, fun j hj => absurd hj (Nat.not_lt_zero _)⟩ ((sub_cons rfl ((sub_cons rfl ((sub_cons rfl ((sub_nil _)))))))) (List.Sublist.cons_cons _ (List.Sublist.cons_cons _ (List.nil_sublist _))) (fun k hp => ?_)
        obtain ⟨hp1, hp2⟩ := hp
        refine GC.seq ?_
        refine GC.seq ?_
        refine GC.region ?_
        refine GL.val (v := (.int .i64 (((k : Nat) : Int)))) (Ex.move rfl) (by decide) ?_
        refine GL.val (v := (.pointer (some ⟨bq1, 2, none⟩))) (Ex.cast (Ex.fieldAddr rfl Try.underlying32 rfl T.sz30 (by decide)) rfl) (by decide) ?_
        refine GL.val (v := (.slice (some ⟨b1, o1, none⟩) n1 cap1)) (Ex.load rfl T.ag30 (i := 1) rfl rfl) (by decide) ?_
        refine GL.val (v := (.int .i64 ((n1 : Int)))) (Ex.len rfl Try.underlying30) (by decide) ?_
        refine GL.val (v := (.bool (decide ((((k : Nat) : Int)) < ((n1 : Int)))))) (Ex.lss rfl rfl) (by decide) ?_
        refine GL.nil ?_
        refine GE.thenN ?_
        refine GC.cond rfl (fun hq8 => ?_) (fun hq8 => ?_)
        · replace hq8 := of_decide_eq_true hq8
          refine GC.skip ?_
          refine GE.thenN ?_
          refine GC.seq ?_
          refine GC.block ?_
          refine GC.seq ?_
          refine GC.draw [⟨bq2, [(.int .i64 W2), (.int .i64 H2), (.slice (some ⟨b2, o2, none⟩) n2 cap2)], 32, true⟩, ⟨bq1, [(.int .i64 W1), (.int .i64 H1), (.slice (some ⟨b1, o1, none⟩) n1 cap1)], 32, true⟩] T.mixed (fuel := 11) rfl rfl ?_
          refine GH.take 0 (v := (.pointer (some ⟨bq1, 2, none⟩))) rfl (by kernel_rfl) (by kernel_rfl) (by kernel_rfl) (fun _ _ _ h => h) (Ex.cast (Ex.fieldAddr rfl Try.underlying32 rfl T.sz30 (by decide)) rfl) (List.Sublist.cons_cons _ (List.Sublist.cons_cons _ (List.nil_sublist _))) (by decide) ?_
          refine GH.take 1 (v := (.slice (some ⟨b1, o1, none⟩) n1 cap1)) rfl (by kernel_rfl) (by kernel_rfl) (by kernel_rfl) (fun _ _ _ h => h) (Ex.load rfl T.ag30 (i := 1) rfl rfl) (List.Sublist.cons_cons _ (List.Sublist.cons_cons _ (List.nil_sublist _))) (by decide) ?_
          refine GH.take 2 (v := (.int .i64 (((k : Nat) : Int)))) rfl (by kernel_rfl) (by kernel_rfl) (by kernel_rfl) (fun _ _ _ h => h) (Ex.move rfl) (List.Sublist.cons_cons _ (List.Sublist.cons_cons _ (List.nil_sublist _))) (by decide) ?_
          refine GH.take 3 (v := (.pointer (some ⟨b1, o1 + k, none⟩))) rfl (by kernel_rfl) (by kernel_rfl) (by kernel_rfl) (fun _ _ _ h => h) (Ex.cast (Ex.indexAddr rfl rfl Try.underlying30 T.sz72 (by omega) (by omega)) (by simp)) (List.Sublist.cons_cons _ (List.Sublist.cons_cons _ (List.nil_sublist _))) (by decide) ?_
          refine GH.take 4 (v := (.int .u32 (xs.getD k 0))) rfl (by kernel_rfl) (by kernel_rfl) (by kernel_rfl) (fun _ _ _ h => h) (Ex.loadO rfl T.ag72 (Rd.at hr1 (by omega)) (fun x => x)) (List.Sublist.cons_cons _ (List.Sublist.cons_cons _ (List.nil_sublist _))) (by decide) ?_
          refine GH.take 5 (v := (.pointer (some ⟨bq2, 2, none⟩))) rfl (by kernel_rfl) (by kernel_rfl) (by kernel_rfl) (fun _ _ _ h => h) (Ex.cast (Ex.fieldAddr rfl Try.underlying32 rfl T.sz30 (by decide)) rfl) (List.Sublist.cons_cons _ (List.Sublist.cons_cons _ (List.nil_sublist _))) (by decide) ?_
          refine GH.take 6 (v := (.slice (some ⟨b2, o2, none⟩) n2 cap2)) rfl (by kernel_rfl) (by kernel_rfl) (by kernel_rfl) (fun _ _ _ h => h) (Ex.load rfl T.ag30 (i := 0) rfl rfl) (List.Sublist.cons_cons _ (List.Sublist.cons_cons _ (List.nil_sublist _))) (by decide) ?_
          refine GH.take 7 (v := (.int .i64 (((k : Nat) : Int)))) rfl (by kernel_rfl) (by kernel_rfl) (by kernel_rfl) (fun _ _ _ h => h) (Ex.move rfl) (List.Sublist.cons_cons _ (List.Sublist.cons_cons _ (List.nil_sublist _))) (by decide) ?_
          refine GH.take 8 (v := (.pointer (some ⟨b2, o2 + k, none⟩))) rfl (by kernel_rfl) (by kernel_rfl) (by kernel_rfl) (fun _ _ _ h => h) (Ex.cast (Ex.indexAddr rfl rfl Try.underlying30 T.sz72 (by omega) (by omega)) (by simp)) (List.Sublist.cons_cons _ (List.Sublist.cons_cons _ (List.nil_sublist _))) (by decide) ?_
          refine GH.take 9 (v := (.int .u32 (ys.getD k 0))) rfl (by kernel_rfl) (by kernel_rfl) (by kernel_rfl) (fun _ _ _ h => h) (Ex.loadO rfl T.ag72 (Rd.at hr2 (by omega)) (fun x => x)) (List.Sublist.cons_cons _ (List.Sublist.cons_cons _ (List.nil_sublist _))) (by decide) ?_
          refine GH.take 10 (v := (.bool (decide ((xs.getD k 0) ≠ (ys.getD k 0))))) rfl (by kernel_rfl) (by kernel_rfl) (by kernel_rfl) (fun _ _ _ h => h) (Ex.neq rfl rfl) (List.Sublist.cons_cons _ (List.Sublist.cons_cons _ (List.nil_sublist _))) (by decide) ?_
          refine GH.done (by kernel_rfl) ?_
          refine GE.thenN ?_
          refine GC.cond rfl (fun hq9 => ?_) (fun hq9 => ?_)
          · replace hq9 := of_decide_eq_true hq9
            have hne := hq9
            refine GC.seq ?_
            refine GC.region ?_
            refine GL.val (v := (.bool false)) (Ex.assign rfl) (by decide) ?_
            refine GL.nil ?_
            refine GE.thenN ?_
            refine GC.ret ?_
            refine GE.blockR ?_
            refine GE.thenR ?_
            refine GE.thenR ?_
            refine GE.blockR ?_
            refine GE.thenR ?_
            refine GC.ret1 rfl (Rv.tmp rfl) (fun wN HN => ?_)
            exact HN.ret () trivial (by rw [eqB, decide_eq_false (fun h => hne (by rw [h.2.2]))]) (List.nil_sublist _) rfl
          · replace hq9 := of_decide_eq_false hq9
            have heq := hq9
            refine GC.skip ?_
            refine GE.blockN ?_
            refine GE.thenN ?_
            refine GC.region ?_
            refine GL.val (v := (.int .i64 (((k : Nat) : Int)))) (Ex.move rfl) (by decide) ?_
            refine GL.val (v := (.int .i64 (((k + 1 : Nat) : Int)))) (Ex.add rfl rfl (Z := ((k + 1 : Nat) : Int)) (w64 (by omega))) (by decide) ?_
            refine GL.val (v := (.int .i64 (((k + 1 : Nat) : Int)))) (Ex.assign rfl) (by decide) ?_
            refine GL.nil ?_
            refine GE.thenN ?_
            exact Head.mk (k + 1) ⟨by omega, fun j hj => by rcases Nat.lt_succ_iff_lt_or_eq.1 hj with hj | rfl; exact hp2 j hj; omega⟩ (by omega) ((sub_cons rfl ((sub_cons rfl ((sub_cons rfl ((sub_nil _)))))))) (List.Sublist.cons_cons _ (List.Sublist.cons_cons _ (List.nil_sublist _)))
        · replace hq8 := of_decide_eq_false hq8
          refine GC.exit ?_
          refine GE.thenE ?_
          refine GE.thenE ?_
          refine GE.blockE ?_
          refine GE.thenN ?_
          refine GC.seq ?_
          refine GC.region ?_
          refine GL.val (v := (.bool true)) (Ex.assign rfl) (by decide) ?_
          refine GL.nil ?_
          refine GE.thenN ?_
          refine GC.ret ?_
          refine GC.ret1 rfl (Rv.tmp rfl) (fun wN HN => ?_)
          exact HN.ret () trivial (by rw [eqB, decide_eq_true ⟨by omega, by omega, getD_ext (by omega) (fun j hj => hp2 j (by omega))⟩]) (List.nil_sublist _) rfl

set_option maxRecDepth 100000 in
set_option maxHeartbeats 1000000 in
theorem is_ (W1 H1 W2 H2 : Int) (b1 o1 n1 cap1 b2 o2 n2 cap2 : Nat) (xs ys : List Int) (w : World) (hx1 : xs.length = n1) (hx2 : ys.length = n2) (hr1 : Rd w b1 o1 (xs.map u32)) (hr2 : Rd w b2 o2 (ys.map u32)) (hb1 : n1 ≤ 35184372088832) :
    Calls Try.prog 44 #[(.agg #[(.int .i64 W1), (.int .i64 H1), (.slice (some ⟨b1, o1, none⟩) n1 cap1)]), (.int .i64 W2), (.int .i64 H2), (.slice (some ⟨b2, o2, none⟩) n2 cap2)] w (Ret w (fun _ : Unit => True) (fun _ => .bool (eqB W1 H1 xs W2 H2 ys)) (fun _ => [])) := by
  refine enter (M := None) (L := []) (n := 15) (l := [(0, (.agg #[(.int .i64 W1), (.int .i64 H1), (.slice (some ⟨b1, o1, none⟩) n1 cap1)])), (1, (.int .i64 W2)), (2, (.int .i64 H2)), (3, (.slice (some ⟨b2, o2, none⟩) n2 cap2))]) Try.func44 rfl rfl (Args.cons rfl (Args.cons rfl (Args.cons rfl (Args.cons rfl (Args.nil _))))) (Hp.start _ _) ?_
  refine GC.seq ?_
  refine GC.region ?_
  refine GL.step (Stp.box (cs := [(.int .i64 W1), (.int .i64 H1), (.slice (some ⟨b1, o1, none⟩) n1 cap1)]) rfl rfl (by decide)) (fun bq1 _ => ?_)
  refine GL.val (v := (.bool false)) (Ex.assign rfl) (by decide) ?_
  refine GL.nil ?_
  refine GE.thenN ?_
  refine GC.seq ?_
  refine GC.region ?_
  refine GL.val (v := (.agg #[(.int .i64 W1), (.int .i64 H1), (.slice (some ⟨b1, o1, none⟩) n1 cap1)])) (Ex.loadA rfl T.ag32 T.sz32 (i := 0) rfl (vs := [(.int .i64 W1), (.int .i64 H1), (.slice (some ⟨b1, o1, none⟩) n1 cap1)]) rfl rfl) (by decide) ?_
  refine GL.val (v := (.int .i64 W2)) (Ex.move rfl) (by decide) ?_
  refine GL.val (v := (.int .i64 H2)) (Ex.move rfl) (by decide) ?_
  refine GL.val (v := (.slice (some ⟨b2, o2, none⟩) n2 cap2)) (Ex.move rfl) (by decide) ?_
  refine GL.val (v := (.agg #[(.int .i64 W2), (.int .i64 H2), (.slice (some ⟨b2, o2, none⟩) n2 cap2)])) (Ex.build (vs := [(0, (.int .i64 W2)), (1, (.int .i64 H2)), (2, (.slice (some ⟨b2, o2, none⟩) n2 cap2))]) rfl (by first | rfl | kernel_rfl)) (by decide) ?_
  refine GL.step (Stp.callR (σ := Unit) (p := fun rz => True) (v := fun rz => (.bool (eqB W1 H1 xs W2 H2 ys))) (N := fun rz => []) (vs := [(.agg #[(.int .i64 W1), (.int .i64 H1), (.slice (some ⟨b1, o1, none⟩) n1 cap1)]), (.agg #[(.int .i64 W2), (.int .i64 H2), (.slice (some ⟨b2, o2, none⟩) n2 cap2)])]) rfl rfl T.own26 (by decide) (fun wc hw => ref_eq W1 H1 W2 H2 b1 o1 n1 cap1 b2 o2 n2 cap2 xs ys wc hx1 hx2 (hw.rd hr1 (fun x => x)) (hw.rd hr2 (fun x => x)) hb1)) (fun xq2 hq3 => ?_)
  refine GL.val (v := (.bool (eqB W1 H1 xs W2 H2 ys))) (Ex.assign rfl) (by decide) ?_
  refine GL.nil ?_
  refine GE.thenN ?_
  refine GC.ret ?_
  refine GC.ret1 rfl (Rv.tmp rfl) (fun wN HN => ?_)
  exact HN.ret () trivial rfl (List.nil_sublist _) rfl

set_option maxRecDepth 100000 in
set_option maxHeartbeats 1000000 in
theorem ref_border (k n i : Int) (w : World) :
    Calls Try.prog 15 #[(.int .i64 k), (.int .i64 n), (.int .i64 i)] w (Ret w (fun _ : Unit => True) (fun _ => .tuple #[.int .i64 (bord k n i).1, .int .i64 (bord k n i).2]) (fun _ => [])) := by
  refine enter (M := None) (L := []) (n := 64) (l := [(0, (.int .i64 k)), (1, (.int .i64 n)), (2, (.int .i64 i))]) Try.func15 rfl rfl (Args.cons rfl (Args.cons rfl (Args.cons rfl (Args.nil _)))) (Hp.start _ _) ?_
  refine GC.seq ?_
  refine GC.region ?_
  refine GL.val (v := (.int .i64 0)) (Ex.assign rfl) (by decide) ?_
  refine GL.val (v := (.int .i64 0)) (Ex.assign rfl) (by decide) ?_
  refine GL.nil ?_
  refine GE.thenN ?_
  refine GC.seq ?_
  refine GC.seq ?_
  refine GC.region ?_
  refine GL.val (v := (.int .i64 k)) (Ex.move rfl) (by decide) ?_
  by_cases hq1 : k ≠ 1
  · refine GL.val (v := (.bool true)) (Ex.cast (Ex.neq rfl rfl) (congrArg Value.bool (decide_eq_true hq1))) (by decide) ?_
    refine GL.val (v := (.bool true)) (Ex.move rfl) (by decide) ?_
    refine GL.stepG (tj := 12) rfl rfl (Ex.wp (v := (.int .i64 k)) (Ex.move rfl) (by decide)) (fun _ _ => ?_)
    by_cases hq2 : k ≠ 2
    · refine GL.stepG (tj := 12) rfl rfl (Ex.wp (v := (.bool true)) (Ex.cast (Ex.neq rfl rfl) (congrArg Value.bool (decide_eq_true hq2))) (by decide)) (fun _ _ => ?_)
      refine GL.val (v := (.bool true)) (Ex.pickT rfl rfl) (by decide) ?_
      refine GL.val (v := (.bool true)) (Ex.move rfl) (by decide) ?_
      refine GL.stepG (tj := 16) rfl rfl (Ex.wp (v := (.int .i64 k)) (Ex.move rfl) (by decide)) (fun _ _ => ?_)
      refine GL.stepG (tj := 16) rfl rfl (Ex.wp (v := (.bool (decide (k ≠ 3)))) (Ex.neq rfl rfl) (by decide)) (fun _ _ => ?_)
      refine GL.val (v := (.bool (decide (k ≠ 3)))) (Ex.pickT rfl rfl) (by decide) ?_
      refine GL.nil ?_
      refine GE.thenN ?_
      refine GC.cond rfl (fun hq3 => ?_) (fun hq3 => ?_)
      · replace hq3 := of_decide_eq_true hq3
        refine GC.seq ?_
        refine GC.region ?_
        refine GL.val (v := (.int .i64 0)) (Ex.assign rfl) (by decide) ?_
        refine GL.val (v := (.int .i64 53)) (Ex.assign rfl) (by decide) ?_
        refine GL.nil ?_
        refine GE.thenN ?_
        refine GC.ret ?_
        refine GE.thenR ?_
        refine GC.ret2 rfl (Rv.tmp rfl) (Rv.tmp rfl) (fun wN HN => ?_)
        exact HN.ret () trivial (by rw [show bord k n i = (0, 53) from by first | (exfalso; omega) | (unfold bord; (repeat (first | rw [if_pos (by omega)] | rw [if_neg (by omega)])); try exact Prod.ext (by dsimp only; omega) rfl)]) (List.nil_sublist _) rfl
      · replace hq3 := of_decide_eq_false hq3
        refine GC.skip ?_
        refine GE.thenN ?_
        refine GC.seq ?_
        refine GC.seq ?_
        refine GC.region ?_
        refine GL.val (v := (.int .i64 n)) (Ex.move rfl) (by decide) ?_
        by_cases hq4 : n < 1
        · refine GL.val (v := (.bool true)) (Ex.cast (Ex.lss rfl rfl) (congrArg Value.bool (decide_eq_true hq4))) (by decide) ?_
          refine GL.val (v := (.bool true)) (Ex.move rfl) (by decide) ?_
          refine GL.skipG (tj := 22) rfl rfl rfl (by decide) ?_
          refine GL.skipG (tj := 22) rfl rfl rfl (by decide) ?_
          refine GL.val (v := (.bool true)) (Ex.pickT rfl rfl) (by decide) ?_
          refine GL.nil ?_
          refine GE.thenN ?_
          refine GC.cond rfl (fun _ => ?_) (fun hq5 => by cases hq5)
          refine GC.seq ?_
          refine GC.region ?_
          refine GL.val (v := (.int .i64 0)) (Ex.assign rfl) (by decide) ?_
          refine GL.val (v := (.int .i64 50)) (Ex.assign rfl) (by decide) ?_
          refine GL.nil ?_
          refine GE.thenN ?_
          refine GC.ret ?_
          refine GE.thenR ?_
          refine GC.ret2 rfl (Rv.tmp rfl) (Rv.tmp rfl) (fun wN HN => ?_)
          exact HN.ret () trivial (by rw [show bord k n i = (0, 50) from by first | (exfalso; omega) | (unfold bord; (repeat (first | rw [if_pos (by omega)] | rw [if_neg (by omega)])); try exact Prod.ext (by dsimp only; omega) rfl)]) (List.nil_sublist _) rfl
        · refine GL.val (v := (.bool false)) (Ex.cast (Ex.lss rfl rfl) (congrArg Value.bool (decide_eq_false hq4))) (by decide) ?_
          refine GL.val (v := (.bool false)) (Ex.move rfl) (by decide) ?_
          refine GL.stepG (tj := 22) rfl rfl (Ex.wp (v := (.int .i64 n)) (Ex.move rfl) (by decide)) (fun _ _ => ?_)
          refine GL.stepG (tj := 22) rfl rfl (Ex.wp (v := (.bool (decide (1024 < n)))) (Ex.gtr rfl rfl) (by decide)) (fun _ _ => ?_)
          refine GL.val (v := (.bool (decide (1024 < n)))) (Ex.pickF rfl rfl) (by decide) ?_
          refine GL.nil ?_
          refine GE.thenN ?_
          refine GC.cond rfl (fun hq6 => ?_) (fun hq6 => ?_)
          · replace hq6 := of_decide_eq_true hq6
            refine GC.seq ?_
            refine GC.region ?_
            refine GL.val (v := (.int .i64 0)) (Ex.assign rfl) (by decide) ?_
            refine GL.val (v := (.int .i64 50)) (Ex.assign rfl) (by decide) ?_
            refine GL.nil ?_
            refine GE.thenN ?_
            refine GC.ret ?_
            refine GE.thenR ?_
            refine GC.ret2 rfl (Rv.tmp rfl) (Rv.tmp rfl) (fun wN HN => ?_)
            exact HN.ret () trivial (by rw [show bord k n i = (0, 50) from by first | (exfalso; omega) | (unfold bord; (repeat (first | rw [if_pos (by omega)] | rw [if_neg (by omega)])); try exact Prod.ext (by dsimp only; omega) rfl)]) (List.nil_sublist _) rfl
          · replace hq6 := of_decide_eq_false hq6
            refine GC.skip ?_
            refine GE.thenN ?_
            refine GC.seq ?_
            refine GC.block ?_
            refine GC.seq ?_
            refine GC.region ?_
            refine GL.val (v := (.int .i64 k)) (Ex.move rfl) (by decide) ?_
            refine GL.val (v := (.bool (decide (k = 1)))) (Ex.eql rfl rfl) (by decide) ?_
            refine GL.val (v := (.bool (decide (k = 1)))) (Ex.assign rfl) (by decide) ?_
            refine GL.nil ?_
            refine GE.thenN ?_
            refine GC.cond rfl (fun hq7 => ?_) (fun hq7 => ?_)
            · replace hq7 := of_decide_eq_true hq7
              refine GC.seq ?_
              refine GC.region ?_
              refine GL.val (v := (.int .i64 i)) (Ex.move rfl) (by decide) ?_
              refine GL.val (v := (.int .i64 n)) (Ex.move rfl) (by decide) ?_
              refine GL.val (v := (.int .i64 (n - 1))) (Ex.sub' rfl rfl (Z := n - 1) (w64 (by omega))) (by decide) ?_
              refine GL.val (v := (.int .i64 (min i (n - 1)))) (Ex.minI rfl rfl (Z := min i (n - 1)) (min64 _ _)) (by decide) ?_
              refine GL.val (v := (.int .i64 (max 0 (min i (n - 1))))) (Ex.maxI rfl rfl (Z := max 0 (min i (n - 1))) (max64 _ _)) (by decide) ?_
              refine GL.val (v := (.int .i64 (max 0 (min i (n - 1))))) (Ex.assign rfl) (by decide) ?_
              refine GL.val (v := (.int .i64 0)) (Ex.assign rfl) (by decide) ?_
              refine GL.nil ?_
              refine GE.thenN ?_
              refine GC.ret ?_
              refine GE.blockR ?_
              refine GE.thenR ?_
              refine GC.ret2 rfl (Rv.tmp rfl) (Rv.tmp rfl) (fun wN HN => ?_)
              exact HN.ret () trivial (by rw [show bord k n i = (max 0 (min i (n - 1)), 0) from by first | (exfalso; omega) | (unfold bord; (repeat (first | rw [if_pos (by omega)] | rw [if_neg (by omega)])); try exact Prod.ext (by dsimp only; omega) rfl)]) (List.nil_sublist _) rfl
            · replace hq7 := of_decide_eq_false hq7
              refine GC.seq ?_
              refine GC.region ?_
              refine GL.val (v := (.int .i64 k)) (Ex.move rfl) (by decide) ?_
              refine GL.val (v := (.bool (decide (k = 3)))) (Ex.eql rfl rfl) (by decide) ?_
              refine GL.val (v := (.bool (decide (k = 3)))) (Ex.assign rfl) (by decide) ?_
              refine GL.nil ?_
              refine GE.thenN ?_
              refine GC.cond rfl (fun hq8 => ?_) (fun hq8 => ?_)
              · replace hq8 := of_decide_eq_true hq8
                refine GC.seq ?_
                have hb := tmod_bd i (by omega : 1 ≤ n)
                refine GC.region ?_
                refine GL.val (v := (.int .i64 i)) (Ex.move rfl) (by decide) ?_
                refine GL.val (v := (.int .i64 n)) (Ex.move rfl) (by decide) ?_
                refine GL.val (v := (.int .i64 (i.tmod n))) (Ex.rem rfl rfl (Z := i.tmod n) (by omega) rfl) (by decide) ?_
                refine GL.val (v := (.int .i64 n)) (Ex.move rfl) (by decide) ?_
                refine GL.val (v := (.int .i64 ((i.tmod n) + n))) (Ex.add rfl rfl (Z := (i.tmod n) + n) (w64 (by omega))) (by decide) ?_
                refine GL.val (v := (.int .i64 n)) (Ex.move rfl) (by decide) ?_
                refine GL.val (v := (.int .i64 (rst i n))) (Ex.rem rfl rfl (Z := rst i n) (by omega) rfl) (by decide) ?_
                refine GL.val (v := (.int .i64 (rst i n))) (Ex.assign rfl) (by decide) ?_
                refine GL.val (v := (.int .i64 0)) (Ex.assign rfl) (by decide) ?_
                refine GL.nil ?_
                refine GE.thenN ?_
                refine GC.ret ?_
                refine GE.blockR ?_
                refine GE.thenR ?_
                refine GC.ret2 rfl (Rv.tmp rfl) (Rv.tmp rfl) (fun wN HN => ?_)
                exact HN.ret () trivial (by rw [show bord k n i = (rst i n, 0) from by first | (exfalso; omega) | (unfold bord; (repeat (first | rw [if_pos (by omega)] | rw [if_neg (by omega)])); try exact Prod.ext (by dsimp only; omega) rfl)]) (List.nil_sublist _) rfl
              · replace hq8 := of_decide_eq_false hq8
                refine GC.seq ?_
                refine GC.region ?_
                refine GL.val (v := (.int .i64 n)) (Ex.move rfl) (by decide) ?_
                refine GL.val (v := (.bool (decide (n = 1)))) (Ex.eql rfl rfl) (by decide) ?_
                refine GL.val (v := (.bool (decide (n = 1)))) (Ex.assign rfl) (by decide) ?_
                refine GL.nil ?_
                refine GE.thenN ?_
                refine GC.cond rfl (fun hq9 => ?_) (fun hq9 => ?_)
                · replace hq9 := of_decide_eq_true hq9
                  refine GC.seq ?_
                  refine GC.region ?_
                  refine GL.val (v := (.int .i64 0)) (Ex.assign rfl) (by decide) ?_
                  refine GL.val (v := (.int .i64 0)) (Ex.assign rfl) (by decide) ?_
                  refine GL.nil ?_
                  refine GE.thenN ?_
                  refine GC.ret ?_
                  refine GE.blockR ?_
                  refine GE.thenR ?_
                  refine GC.ret2 rfl (Rv.tmp rfl) (Rv.tmp rfl) (fun wN HN => ?_)
                  exact HN.ret () trivial (by rw [show bord k n i = (0, 0) from by first | (exfalso; omega) | (unfold bord; (repeat (first | rw [if_pos (by omega)] | rw [if_neg (by omega)])); try exact Prod.ext (by dsimp only; omega) rfl)]) (List.nil_sublist _) rfl
                · replace hq9 := of_decide_eq_false hq9
                  refine GC.skip ?_
                  refine GE.blockN ?_
                  refine GE.thenN ?_
                  refine GC.seq ?_
                  refine GC.region ?_
                  refine GL.val (v := (.int .i64 n)) (Ex.move rfl) (by decide) ?_
                  refine GL.val (v := (.int .i64 (n - 1))) (Ex.sub' rfl rfl (Z := n - 1) (w64 (by omega))) (by decide) ?_
                  refine GL.val (v := (.int .i64 (2 * (n - 1)))) (Ex.mul rfl rfl (Z := 2 * (n - 1)) (w64 (by omega))) (by decide) ?_
                  refine GL.val (v := (.int .i64 (2 * (n - 1)))) (Ex.assign rfl) (by decide) ?_
                  refine GL.nil ?_
                  refine GE.thenN ?_
                  refine GC.seq ?_
                  have hb := tmod_bd i (show 1 ≤ 2 * (n - 1) by omega); have hb2 := rst_bd i (show 1 ≤ 2 * (n - 1) by omega)
                  refine GC.region ?_
                  refine GL.val (v := (.int .i64 i)) (Ex.move rfl) (by decide) ?_
                  refine GL.val (v := (.int .i64 (2 * (n - 1)))) (Ex.move rfl) (by decide) ?_
                  refine GL.val (v := (.int .i64 (i.tmod (2 * (n - 1))))) (Ex.rem rfl rfl (Z := i.tmod (2 * (n - 1))) (by omega) rfl) (by decide) ?_
                  refine GL.val (v := (.int .i64 (2 * (n - 1)))) (Ex.move rfl) (by decide) ?_
                  refine GL.val (v := (.int .i64 ((i.tmod (2 * (n - 1))) + (2 * (n - 1))))) (Ex.add rfl rfl (Z := (i.tmod (2 * (n - 1))) + (2 * (n - 1))) (w64 (by omega))) (by decide) ?_
                  refine GL.val (v := (.int .i64 (2 * (n - 1)))) (Ex.move rfl) (by decide) ?_
                  refine GL.val (v := (.int .i64 (rst i (2 * (n - 1))))) (Ex.rem rfl rfl (Z := rst i (2 * (n - 1))) (by omega) rfl) (by decide) ?_
                  refine GL.val (v := (.int .i64 (rst i (2 * (n - 1))))) (Ex.assign rfl) (by decide) ?_
                  refine GL.nil ?_
                  refine GE.thenN ?_
                  refine GC.seq ?_
                  refine GC.seq ?_
                  refine GC.region ?_
                  refine GL.val (v := (.int .i64 (rst i (2 * (n - 1))))) (Ex.move rfl) (by decide) ?_
                  refine GL.val (v := (.int .i64 n)) (Ex.move rfl) (by decide) ?_
                  refine GL.val (v := (.bool (decide ((rst i (2 * (n - 1))) < n)))) (Ex.lss rfl rfl) (by decide) ?_
                  refine GL.nil ?_
                  refine GE.thenN ?_
                  refine GC.cond rfl (fun hq10 => ?_) (fun hq10 => ?_)
                  · replace hq10 := of_decide_eq_true hq10
                    refine GC.seq ?_
                    refine GC.region ?_
                    refine GL.val (v := (.int .i64 (rst i (2 * (n - 1))))) (Ex.move rfl) (by decide) ?_
                    refine GL.val (v := (.int .i64 (rst i (2 * (n - 1))))) (Ex.assign rfl) (by decide) ?_
                    refine GL.val (v := (.int .i64 0)) (Ex.assign rfl) (by decide) ?_
                    refine GL.nil ?_
                    refine GE.thenN ?_
                    refine GC.ret ?_
                    refine GE.thenR ?_
                    refine GC.ret2 rfl (Rv.tmp rfl) (Rv.tmp rfl) (fun wN HN => ?_)
                    exact HN.ret () trivial (by rw [show bord k n i = (rst i (2 * (n - 1)), 0) from by first | (exfalso; omega) | (unfold bord; (repeat (first | rw [if_pos (by omega)] | rw [if_neg (by omega)])); try exact Prod.ext (by dsimp only; omega) rfl)]) (List.nil_sublist _) rfl
                  · replace hq10 := of_decide_eq_false hq10
                    refine GC.skip ?_
                    refine GE.thenN ?_
                    refine GC.seq ?_
                    refine GC.region ?_
                    refine GL.val (v := (.int .i64 (2 * (n - 1)))) (Ex.move rfl) (by decide) ?_
                    refine GL.val (v := (.int .i64 (rst i (2 * (n - 1))))) (Ex.move rfl) (by decide) ?_
                    refine GL.val (v := (.int .i64 ((2 * (n - 1)) - (rst i (2 * (n - 1)))))) (Ex.sub' rfl rfl (Z := (2 * (n - 1)) - (rst i (2 * (n - 1)))) (w64 (by omega))) (by decide) ?_
                    refine GL.val (v := (.int .i64 ((2 * (n - 1)) - (rst i (2 * (n - 1)))))) (Ex.assign rfl) (by decide) ?_
                    refine GL.val (v := (.int .i64 0)) (Ex.assign rfl) (by decide) ?_
                    refine GL.nil ?_
                    refine GE.thenN ?_
                    refine GC.ret ?_
                    refine GC.ret2 rfl (Rv.tmp rfl) (Rv.tmp rfl) (fun wN HN => ?_)
                    exact HN.ret () trivial (by rw [show bord k n i = ((2 * (n - 1)) - (rst i (2 * (n - 1))), 0) from by first | (exfalso; omega) | (unfold bord; (repeat (first | rw [if_pos (by omega)] | rw [if_neg (by omega)])); try exact Prod.ext (by dsimp only; omega) rfl)]) (List.nil_sublist _) rfl
    · refine GL.stepG (tj := 12) rfl rfl (Ex.wp (v := (.bool false)) (Ex.cast (Ex.neq rfl rfl) (congrArg Value.bool (decide_eq_false hq2))) (by decide)) (fun _ _ => ?_)
      refine GL.val (v := (.bool false)) (Ex.pickT rfl rfl) (by decide) ?_
      refine GL.val (v := (.bool false)) (Ex.move rfl) (by decide) ?_
      refine GL.skipG (tj := 16) rfl rfl rfl (by decide) ?_
      refine GL.skipG (tj := 16) rfl rfl rfl (by decide) ?_
      refine GL.val (v := (.bool false)) (Ex.pickF rfl rfl) (by decide) ?_
      refine GL.nil ?_
      refine GE.thenN ?_
      refine GC.cond rfl (fun hq11 => by cases hq11) (fun _ => ?_)
      refine GC.skip ?_
      refine GE.thenN ?_
      refine GC.seq ?_
      refine GC.seq ?_
      refine GC.region ?_
      refine GL.val (v := (.int .i64 n)) (Ex.move rfl) (by decide) ?_
      by_cases hq12 : n < 1
      · refine GL.val (v := (.bool true)) (Ex.cast (Ex.lss rfl rfl) (congrArg Value.bool (decide_eq_true hq12))) (by decide) ?_
        refine GL.val (v := (.bool true)) (Ex.move rfl) (by decide) ?_
        refine GL.skipG (tj := 22) rfl rfl rfl (by decide) ?_
        refine GL.skipG (tj := 22) rfl rfl rfl (by decide) ?_
        refine GL.val (v := (.bool true)) (Ex.pickT rfl rfl) (by decide) ?_
        refine GL.nil ?_
        refine GE.thenN ?_
        refine GC.cond rfl (fun _ => ?_) (fun hq13 => by cases hq13)
        refine GC.seq ?_
        refine GC.region ?_
        refine GL.val (v := (.int .i64 0)) (Ex.assign rfl) (by decide) ?_
        refine GL.val (v := (.int .i64 50)) (Ex.assign rfl) (by decide) ?_
        refine GL.nil ?_
        refine GE.thenN ?_
        refine GC.ret ?_
        refine GE.thenR ?_
        refine GC.ret2 rfl (Rv.tmp rfl) (Rv.tmp rfl) (fun wN HN => ?_)
        exact HN.ret () trivial (by rw [show bord k n i = (0, 50) from by first | (exfalso; omega) | (unfold bord; (repeat (first | rw [if_pos (by omega)] | rw [if_neg (by omega)])); try exact Prod.ext (by dsimp only; omega) rfl)]) (List.nil_sublist _) rfl
      · refine GL.val (v := (.bool false)) (Ex.cast (Ex.lss rfl rfl) (congrArg Value.bool (decide_eq_false hq12))) (by decide) ?_
        refine GL.val (v := (.bool false)) (Ex.move rfl) (by decide) ?_
        refine GL.stepG (tj := 22) rfl rfl (Ex.wp (v := (.int .i64 n)) (Ex.move rfl) (by decide)) (fun _ _ => ?_)
        refine GL.stepG (tj := 22) rfl rfl (Ex.wp (v := (.bool (decide (1024 < n)))) (Ex.gtr rfl rfl) (by decide)) (fun _ _ => ?_)
        refine GL.val (v := (.bool (decide (1024 < n)))) (Ex.pickF rfl rfl) (by decide) ?_
        refine GL.nil ?_
        refine GE.thenN ?_
        refine GC.cond rfl (fun hq14 => ?_) (fun hq14 => ?_)
        · replace hq14 := of_decide_eq_true hq14
          refine GC.seq ?_
          refine GC.region ?_
          refine GL.val (v := (.int .i64 0)) (Ex.assign rfl) (by decide) ?_
          refine GL.val (v := (.int .i64 50)) (Ex.assign rfl) (by decide) ?_
          refine GL.nil ?_
          refine GE.thenN ?_
          refine GC.ret ?_
          refine GE.thenR ?_
          refine GC.ret2 rfl (Rv.tmp rfl) (Rv.tmp rfl) (fun wN HN => ?_)
          exact HN.ret () trivial (by rw [show bord k n i = (0, 50) from by first | (exfalso; omega) | (unfold bord; (repeat (first | rw [if_pos (by omega)] | rw [if_neg (by omega)])); try exact Prod.ext (by dsimp only; omega) rfl)]) (List.nil_sublist _) rfl
        · replace hq14 := of_decide_eq_false hq14
          refine GC.skip ?_
          refine GE.thenN ?_
          refine GC.seq ?_
          refine GC.block ?_
          refine GC.seq ?_
          refine GC.region ?_
          refine GL.val (v := (.int .i64 k)) (Ex.move rfl) (by decide) ?_
          refine GL.val (v := (.bool (decide (k = 1)))) (Ex.eql rfl rfl) (by decide) ?_
          refine GL.val (v := (.bool (decide (k = 1)))) (Ex.assign rfl) (by decide) ?_
          refine GL.nil ?_
          refine GE.thenN ?_
          refine GC.cond rfl (fun hq15 => ?_) (fun hq15 => ?_)
          · replace hq15 := of_decide_eq_true hq15
            refine GC.seq ?_
            refine GC.region ?_
            refine GL.val (v := (.int .i64 i)) (Ex.move rfl) (by decide) ?_
            refine GL.val (v := (.int .i64 n)) (Ex.move rfl) (by decide) ?_
            refine GL.val (v := (.int .i64 (n - 1))) (Ex.sub' rfl rfl (Z := n - 1) (w64 (by omega))) (by decide) ?_
            refine GL.val (v := (.int .i64 (min i (n - 1)))) (Ex.minI rfl rfl (Z := min i (n - 1)) (min64 _ _)) (by decide) ?_
            refine GL.val (v := (.int .i64 (max 0 (min i (n - 1))))) (Ex.maxI rfl rfl (Z := max 0 (min i (n - 1))) (max64 _ _)) (by decide) ?_
            refine GL.val (v := (.int .i64 (max 0 (min i (n - 1))))) (Ex.assign rfl) (by decide) ?_
            refine GL.val (v := (.int .i64 0)) (Ex.assign rfl) (by decide) ?_
            refine GL.nil ?_
            refine GE.thenN ?_
            refine GC.ret ?_
            refine GE.blockR ?_
            refine GE.thenR ?_
            refine GC.ret2 rfl (Rv.tmp rfl) (Rv.tmp rfl) (fun wN HN => ?_)
            exact HN.ret () trivial (by rw [show bord k n i = (max 0 (min i (n - 1)), 0) from by first | (exfalso; omega) | (unfold bord; (repeat (first | rw [if_pos (by omega)] | rw [if_neg (by omega)])); try exact Prod.ext (by dsimp only; omega) rfl)]) (List.nil_sublist _) rfl
          · replace hq15 := of_decide_eq_false hq15
            refine GC.seq ?_
            refine GC.region ?_
            refine GL.val (v := (.int .i64 k)) (Ex.move rfl) (by decide) ?_
            refine GL.val (v := (.bool (decide (k = 3)))) (Ex.eql rfl rfl) (by decide) ?_
            refine GL.val (v := (.bool (decide (k = 3)))) (Ex.assign rfl) (by decide) ?_
            refine GL.nil ?_
            refine GE.thenN ?_
            refine GC.cond rfl (fun hq16 => ?_) (fun hq16 => ?_)
            · replace hq16 := of_decide_eq_true hq16
              refine GC.seq ?_
              have hb := tmod_bd i (by omega : 1 ≤ n)
              refine GC.region ?_
              refine GL.val (v := (.int .i64 i)) (Ex.move rfl) (by decide) ?_
              refine GL.val (v := (.int .i64 n)) (Ex.move rfl) (by decide) ?_
              refine GL.val (v := (.int .i64 (i.tmod n))) (Ex.rem rfl rfl (Z := i.tmod n) (by omega) rfl) (by decide) ?_
              refine GL.val (v := (.int .i64 n)) (Ex.move rfl) (by decide) ?_
              refine GL.val (v := (.int .i64 ((i.tmod n) + n))) (Ex.add rfl rfl (Z := (i.tmod n) + n) (w64 (by omega))) (by decide) ?_
              refine GL.val (v := (.int .i64 n)) (Ex.move rfl) (by decide) ?_
              refine GL.val (v := (.int .i64 (rst i n))) (Ex.rem rfl rfl (Z := rst i n) (by omega) rfl) (by decide) ?_
              refine GL.val (v := (.int .i64 (rst i n))) (Ex.assign rfl) (by decide) ?_
              refine GL.val (v := (.int .i64 0)) (Ex.assign rfl) (by decide) ?_
              refine GL.nil ?_
              refine GE.thenN ?_
              refine GC.ret ?_
              refine GE.blockR ?_
              refine GE.thenR ?_
              refine GC.ret2 rfl (Rv.tmp rfl) (Rv.tmp rfl) (fun wN HN => ?_)
              exact HN.ret () trivial (by rw [show bord k n i = (rst i n, 0) from by first | (exfalso; omega) | (unfold bord; (repeat (first | rw [if_pos (by omega)] | rw [if_neg (by omega)])); try exact Prod.ext (by dsimp only; omega) rfl)]) (List.nil_sublist _) rfl
            · replace hq16 := of_decide_eq_false hq16
              refine GC.seq ?_
              refine GC.region ?_
              refine GL.val (v := (.int .i64 n)) (Ex.move rfl) (by decide) ?_
              refine GL.val (v := (.bool (decide (n = 1)))) (Ex.eql rfl rfl) (by decide) ?_
              refine GL.val (v := (.bool (decide (n = 1)))) (Ex.assign rfl) (by decide) ?_
              refine GL.nil ?_
              refine GE.thenN ?_
              refine GC.cond rfl (fun hq17 => ?_) (fun hq17 => ?_)
              · replace hq17 := of_decide_eq_true hq17
                refine GC.seq ?_
                refine GC.region ?_
                refine GL.val (v := (.int .i64 0)) (Ex.assign rfl) (by decide) ?_
                refine GL.val (v := (.int .i64 0)) (Ex.assign rfl) (by decide) ?_
                refine GL.nil ?_
                refine GE.thenN ?_
                refine GC.ret ?_
                refine GE.blockR ?_
                refine GE.thenR ?_
                refine GC.ret2 rfl (Rv.tmp rfl) (Rv.tmp rfl) (fun wN HN => ?_)
                exact HN.ret () trivial (by rw [show bord k n i = (0, 0) from by first | (exfalso; omega) | (unfold bord; (repeat (first | rw [if_pos (by omega)] | rw [if_neg (by omega)])); try exact Prod.ext (by dsimp only; omega) rfl)]) (List.nil_sublist _) rfl
              · replace hq17 := of_decide_eq_false hq17
                refine GC.skip ?_
                refine GE.blockN ?_
                refine GE.thenN ?_
                refine GC.seq ?_
                refine GC.region ?_
                refine GL.val (v := (.int .i64 n)) (Ex.move rfl) (by decide) ?_
                refine GL.val (v := (.int .i64 (n - 1))) (Ex.sub' rfl rfl (Z := n - 1) (w64 (by omega))) (by decide) ?_
                refine GL.val (v := (.int .i64 (2 * (n - 1)))) (Ex.mul rfl rfl (Z := 2 * (n - 1)) (w64 (by omega))) (by decide) ?_
                refine GL.val (v := (.int .i64 (2 * (n - 1)))) (Ex.assign rfl) (by decide) ?_
                refine GL.nil ?_
                refine GE.thenN ?_
                refine GC.seq ?_
                have hb := tmod_bd i (show 1 ≤ 2 * (n - 1) by omega); have hb2 := rst_bd i (show 1 ≤ 2 * (n - 1) by omega)
                refine GC.region ?_
                refine GL.val (v := (.int .i64 i)) (Ex.move rfl) (by decide) ?_
                refine GL.val (v := (.int .i64 (2 * (n - 1)))) (Ex.move rfl) (by decide) ?_
                refine GL.val (v := (.int .i64 (i.tmod (2 * (n - 1))))) (Ex.rem rfl rfl (Z := i.tmod (2 * (n - 1))) (by omega) rfl) (by decide) ?_
                refine GL.val (v := (.int .i64 (2 * (n - 1)))) (Ex.move rfl) (by decide) ?_
                refine GL.val (v := (.int .i64 ((i.tmod (2 * (n - 1))) + (2 * (n - 1))))) (Ex.add rfl rfl (Z := (i.tmod (2 * (n - 1))) + (2 * (n - 1))) (w64 (by omega))) (by decide) ?_
                refine GL.val (v := (.int .i64 (2 * (n - 1)))) (Ex.move rfl) (by decide) ?_
                refine GL.val (v := (.int .i64 (rst i (2 * (n - 1))))) (Ex.rem rfl rfl (Z := rst i (2 * (n - 1))) (by omega) rfl) (by decide) ?_
                refine GL.val (v := (.int .i64 (rst i (2 * (n - 1))))) (Ex.assign rfl) (by decide) ?_
                refine GL.nil ?_
                refine GE.thenN ?_
                refine GC.seq ?_
                refine GC.seq ?_
                refine GC.region ?_
                refine GL.val (v := (.int .i64 (rst i (2 * (n - 1))))) (Ex.move rfl) (by decide) ?_
                refine GL.val (v := (.int .i64 n)) (Ex.move rfl) (by decide) ?_
                refine GL.val (v := (.bool (decide ((rst i (2 * (n - 1))) < n)))) (Ex.lss rfl rfl) (by decide) ?_
                refine GL.nil ?_
                refine GE.thenN ?_
                refine GC.cond rfl (fun hq18 => ?_) (fun hq18 => ?_)
                · replace hq18 := of_decide_eq_true hq18
                  refine GC.seq ?_
                  refine GC.region ?_
                  refine GL.val (v := (.int .i64 (rst i (2 * (n - 1))))) (Ex.move rfl) (by decide) ?_
                  refine GL.val (v := (.int .i64 (rst i (2 * (n - 1))))) (Ex.assign rfl) (by decide) ?_
                  refine GL.val (v := (.int .i64 0)) (Ex.assign rfl) (by decide) ?_
                  refine GL.nil ?_
                  refine GE.thenN ?_
                  refine GC.ret ?_
                  refine GE.thenR ?_
                  refine GC.ret2 rfl (Rv.tmp rfl) (Rv.tmp rfl) (fun wN HN => ?_)
                  exact HN.ret () trivial (by rw [show bord k n i = (rst i (2 * (n - 1)), 0) from by first | (exfalso; omega) | (unfold bord; (repeat (first | rw [if_pos (by omega)] | rw [if_neg (by omega)])); try exact Prod.ext (by dsimp only; omega) rfl)]) (List.nil_sublist _) rfl
                · replace hq18 := of_decide_eq_false hq18
                  refine GC.skip ?_
                  refine GE.thenN ?_
                  refine GC.seq ?_
                  refine GC.region ?_
                  refine GL.val (v := (.int .i64 (2 * (n - 1)))) (Ex.move rfl) (by decide) ?_
                  refine GL.val (v := (.int .i64 (rst i (2 * (n - 1))))) (Ex.move rfl) (by decide) ?_
                  refine GL.val (v := (.int .i64 ((2 * (n - 1)) - (rst i (2 * (n - 1)))))) (Ex.sub' rfl rfl (Z := (2 * (n - 1)) - (rst i (2 * (n - 1)))) (w64 (by omega))) (by decide) ?_
                  refine GL.val (v := (.int .i64 ((2 * (n - 1)) - (rst i (2 * (n - 1)))))) (Ex.assign rfl) (by decide) ?_
                  refine GL.val (v := (.int .i64 0)) (Ex.assign rfl) (by decide) ?_
                  refine GL.nil ?_
                  refine GE.thenN ?_
                  refine GC.ret ?_
                  refine GC.ret2 rfl (Rv.tmp rfl) (Rv.tmp rfl) (fun wN HN => ?_)
                  exact HN.ret () trivial (by rw [show bord k n i = ((2 * (n - 1)) - (rst i (2 * (n - 1))), 0) from by first | (exfalso; omega) | (unfold bord; (repeat (first | rw [if_pos (by omega)] | rw [if_neg (by omega)])); try exact Prod.ext (by dsimp only; omega) rfl)]) (List.nil_sublist _) rfl
  · refine GL.val (v := (.bool false)) (Ex.cast (Ex.neq rfl rfl) (congrArg Value.bool (decide_eq_false hq1))) (by decide) ?_
    refine GL.val (v := (.bool false)) (Ex.move rfl) (by decide) ?_
    refine GL.skipG (tj := 12) rfl rfl rfl (by decide) ?_
    refine GL.skipG (tj := 12) rfl rfl rfl (by decide) ?_
    refine GL.val (v := (.bool false)) (Ex.pickF rfl rfl) (by decide) ?_
    refine GL.val (v := (.bool false)) (Ex.move rfl) (by decide) ?_
    refine GL.skipG (tj := 16) rfl rfl rfl (by decide) ?_
    refine GL.skipG (tj := 16) rfl rfl rfl (by decide) ?_
    refine GL.val (v := (.bool false)) (Ex.pickF rfl rfl) (by decide) ?_
    refine GL.nil ?_
    refine GE.thenN ?_
    refine GC.cond rfl (fun hq19 => by cases hq19) (fun _ => ?_)
    refine GC.skip ?_
    refine GE.thenN ?_
    refine GC.seq ?_
    refine GC.seq ?_
    refine GC.region ?_
    refine GL.val (v := (.int .i64 n)) (Ex.move rfl) (by decide) ?_
    by_cases hq20 : n < 1
    · refine GL.val (v := (.bool true)) (Ex.cast (Ex.lss rfl rfl) (congrArg Value.bool (decide_eq_true hq20))) (by decide) ?_
      refine GL.val (v := (.bool true)) (Ex.move rfl) (by decide) ?_
      refine GL.skipG (tj := 22) rfl rfl rfl (by decide) ?_
      refine GL.skipG (tj := 22) rfl rfl rfl (by decide) ?_
      refine GL.val (v := (.bool true)) (Ex.pickT rfl rfl) (by decide) ?_
      refine GL.nil ?_
      refine GE.thenN ?_
      refine GC.cond rfl (fun _ => ?_) (fun hq21 => by cases hq21)
      refine GC.seq ?_
      refine GC.region ?_
      refine GL.val (v := (.int .i64 0)) (Ex.assign rfl) (by decide) ?_
      refine GL.val (v := (.int .i64 50)) (Ex.assign rfl) (by decide) ?_
      refine GL.nil ?_
      refine GE.thenN ?_
      refine GC.ret ?_
      refine GE.thenR ?_
      refine GC.ret2 rfl (Rv.tmp rfl) (Rv.tmp rfl) (fun wN HN => ?_)
      exact HN.ret () trivial (by rw [show bord k n i = (0, 50) from by first | (exfalso; omega) | (unfold bord; (repeat (first | rw [if_pos (by omega)] | rw [if_neg (by omega)])); try exact Prod.ext (by dsimp only; omega) rfl)]) (List.nil_sublist _) rfl
    · refine GL.val (v := (.bool false)) (Ex.cast (Ex.lss rfl rfl) (congrArg Value.bool (decide_eq_false hq20))) (by decide) ?_
      refine GL.val (v := (.bool false)) (Ex.move rfl) (by decide) ?_
      refine GL.stepG (tj := 22) rfl rfl (Ex.wp (v := (.int .i64 n)) (Ex.move rfl) (by decide)) (fun _ _ => ?_)
      refine GL.stepG (tj := 22) rfl rfl (Ex.wp (v := (.bool (decide (1024 < n)))) (Ex.gtr rfl rfl) (by decide)) (fun _ _ => ?_)
      refine GL.val (v := (.bool (decide (1024 < n)))) (Ex.pickF rfl rfl) (by decide) ?_
      refine GL.nil ?_
      refine GE.thenN ?_
      refine GC.cond rfl (fun hq22 => ?_) (fun hq22 => ?_)
      · replace hq22 := of_decide_eq_true hq22
        refine GC.seq ?_
        refine GC.region ?_
        refine GL.val (v := (.int .i64 0)) (Ex.assign rfl) (by decide) ?_
        refine GL.val (v := (.int .i64 50)) (Ex.assign rfl) (by decide) ?_
        refine GL.nil ?_
        refine GE.thenN ?_
        refine GC.ret ?_
        refine GE.thenR ?_
        refine GC.ret2 rfl (Rv.tmp rfl) (Rv.tmp rfl) (fun wN HN => ?_)
        exact HN.ret () trivial (by rw [show bord k n i = (0, 50) from by first | (exfalso; omega) | (unfold bord; (repeat (first | rw [if_pos (by omega)] | rw [if_neg (by omega)])); try exact Prod.ext (by dsimp only; omega) rfl)]) (List.nil_sublist _) rfl
      · replace hq22 := of_decide_eq_false hq22
        refine GC.skip ?_
        refine GE.thenN ?_
        refine GC.seq ?_
        refine GC.block ?_
        refine GC.seq ?_
        refine GC.region ?_
        refine GL.val (v := (.int .i64 k)) (Ex.move rfl) (by decide) ?_
        refine GL.val (v := (.bool (decide (k = 1)))) (Ex.eql rfl rfl) (by decide) ?_
        refine GL.val (v := (.bool (decide (k = 1)))) (Ex.assign rfl) (by decide) ?_
        refine GL.nil ?_
        refine GE.thenN ?_
        refine GC.cond rfl (fun hq23 => ?_) (fun hq23 => ?_)
        · replace hq23 := of_decide_eq_true hq23
          refine GC.seq ?_
          refine GC.region ?_
          refine GL.val (v := (.int .i64 i)) (Ex.move rfl) (by decide) ?_
          refine GL.val (v := (.int .i64 n)) (Ex.move rfl) (by decide) ?_
          refine GL.val (v := (.int .i64 (n - 1))) (Ex.sub' rfl rfl (Z := n - 1) (w64 (by omega))) (by decide) ?_
          refine GL.val (v := (.int .i64 (min i (n - 1)))) (Ex.minI rfl rfl (Z := min i (n - 1)) (min64 _ _)) (by decide) ?_
          refine GL.val (v := (.int .i64 (max 0 (min i (n - 1))))) (Ex.maxI rfl rfl (Z := max 0 (min i (n - 1))) (max64 _ _)) (by decide) ?_
          refine GL.val (v := (.int .i64 (max 0 (min i (n - 1))))) (Ex.assign rfl) (by decide) ?_
          refine GL.val (v := (.int .i64 0)) (Ex.assign rfl) (by decide) ?_
          refine GL.nil ?_
          refine GE.thenN ?_
          refine GC.ret ?_
          refine GE.blockR ?_
          refine GE.thenR ?_
          refine GC.ret2 rfl (Rv.tmp rfl) (Rv.tmp rfl) (fun wN HN => ?_)
          exact HN.ret () trivial (by rw [show bord k n i = (max 0 (min i (n - 1)), 0) from by first | (exfalso; omega) | (unfold bord; (repeat (first | rw [if_pos (by omega)] | rw [if_neg (by omega)])); try exact Prod.ext (by dsimp only; omega) rfl)]) (List.nil_sublist _) rfl
        · replace hq23 := of_decide_eq_false hq23
          refine GC.seq ?_
          refine GC.region ?_
          refine GL.val (v := (.int .i64 k)) (Ex.move rfl) (by decide) ?_
          refine GL.val (v := (.bool (decide (k = 3)))) (Ex.eql rfl rfl) (by decide) ?_
          refine GL.val (v := (.bool (decide (k = 3)))) (Ex.assign rfl) (by decide) ?_
          refine GL.nil ?_
          refine GE.thenN ?_
          refine GC.cond rfl (fun hq24 => ?_) (fun hq24 => ?_)
          · replace hq24 := of_decide_eq_true hq24
            refine GC.seq ?_
            have hb := tmod_bd i (by omega : 1 ≤ n)
            refine GC.region ?_
            refine GL.val (v := (.int .i64 i)) (Ex.move rfl) (by decide) ?_
            refine GL.val (v := (.int .i64 n)) (Ex.move rfl) (by decide) ?_
            refine GL.val (v := (.int .i64 (i.tmod n))) (Ex.rem rfl rfl (Z := i.tmod n) (by omega) rfl) (by decide) ?_
            refine GL.val (v := (.int .i64 n)) (Ex.move rfl) (by decide) ?_
            refine GL.val (v := (.int .i64 ((i.tmod n) + n))) (Ex.add rfl rfl (Z := (i.tmod n) + n) (w64 (by omega))) (by decide) ?_
            refine GL.val (v := (.int .i64 n)) (Ex.move rfl) (by decide) ?_
            refine GL.val (v := (.int .i64 (rst i n))) (Ex.rem rfl rfl (Z := rst i n) (by omega) rfl) (by decide) ?_
            refine GL.val (v := (.int .i64 (rst i n))) (Ex.assign rfl) (by decide) ?_
            refine GL.val (v := (.int .i64 0)) (Ex.assign rfl) (by decide) ?_
            refine GL.nil ?_
            refine GE.thenN ?_
            refine GC.ret ?_
            refine GE.blockR ?_
            refine GE.thenR ?_
            refine GC.ret2 rfl (Rv.tmp rfl) (Rv.tmp rfl) (fun wN HN => ?_)
            exact HN.ret () trivial (by rw [show bord k n i = (rst i n, 0) from by first | (exfalso; omega) | (unfold bord; (repeat (first | rw [if_pos (by omega)] | rw [if_neg (by omega)])); try exact Prod.ext (by dsimp only; omega) rfl)]) (List.nil_sublist _) rfl
          · replace hq24 := of_decide_eq_false hq24
            refine GC.seq ?_
            refine GC.region ?_
            refine GL.val (v := (.int .i64 n)) (Ex.move rfl) (by decide) ?_
            refine GL.val (v := (.bool (decide (n = 1)))) (Ex.eql rfl rfl) (by decide) ?_
            refine GL.val (v := (.bool (decide (n = 1)))) (Ex.assign rfl) (by decide) ?_
            refine GL.nil ?_
            refine GE.thenN ?_
            refine GC.cond rfl (fun hq25 => ?_) (fun hq25 => ?_)
            · replace hq25 := of_decide_eq_true hq25
              refine GC.seq ?_
              refine GC.region ?_
              refine GL.val (v := (.int .i64 0)) (Ex.assign rfl) (by decide) ?_
              refine GL.val (v := (.int .i64 0)) (Ex.assign rfl) (by decide) ?_
              refine GL.nil ?_
              refine GE.thenN ?_
              refine GC.ret ?_
              refine GE.blockR ?_
              refine GE.thenR ?_
              refine GC.ret2 rfl (Rv.tmp rfl) (Rv.tmp rfl) (fun wN HN => ?_)
              exact HN.ret () trivial (by rw [show bord k n i = (0, 0) from by first | (exfalso; omega) | (unfold bord; (repeat (first | rw [if_pos (by omega)] | rw [if_neg (by omega)])); try exact Prod.ext (by dsimp only; omega) rfl)]) (List.nil_sublist _) rfl
            · replace hq25 := of_decide_eq_false hq25
              refine GC.skip ?_
              refine GE.blockN ?_
              refine GE.thenN ?_
              refine GC.seq ?_
              refine GC.region ?_
              refine GL.val (v := (.int .i64 n)) (Ex.move rfl) (by decide) ?_
              refine GL.val (v := (.int .i64 (n - 1))) (Ex.sub' rfl rfl (Z := n - 1) (w64 (by omega))) (by decide) ?_
              refine GL.val (v := (.int .i64 (2 * (n - 1)))) (Ex.mul rfl rfl (Z := 2 * (n - 1)) (w64 (by omega))) (by decide) ?_
              refine GL.val (v := (.int .i64 (2 * (n - 1)))) (Ex.assign rfl) (by decide) ?_
              refine GL.nil ?_
              refine GE.thenN ?_
              refine GC.seq ?_
              have hb := tmod_bd i (show 1 ≤ 2 * (n - 1) by omega); have hb2 := rst_bd i (show 1 ≤ 2 * (n - 1) by omega)
              refine GC.region ?_
              refine GL.val (v := (.int .i64 i)) (Ex.move rfl) (by decide) ?_
              refine GL.val (v := (.int .i64 (2 * (n - 1)))) (Ex.move rfl) (by decide) ?_
              refine GL.val (v := (.int .i64 (i.tmod (2 * (n - 1))))) (Ex.rem rfl rfl (Z := i.tmod (2 * (n - 1))) (by omega) rfl) (by decide) ?_
              refine GL.val (v := (.int .i64 (2 * (n - 1)))) (Ex.move rfl) (by decide) ?_
              refine GL.val (v := (.int .i64 ((i.tmod (2 * (n - 1))) + (2 * (n - 1))))) (Ex.add rfl rfl (Z := (i.tmod (2 * (n - 1))) + (2 * (n - 1))) (w64 (by omega))) (by decide) ?_
              refine GL.val (v := (.int .i64 (2 * (n - 1)))) (Ex.move rfl) (by decide) ?_
              refine GL.val (v := (.int .i64 (rst i (2 * (n - 1))))) (Ex.rem rfl rfl (Z := rst i (2 * (n - 1))) (by omega) rfl) (by decide) ?_
              refine GL.val (v := (.int .i64 (rst i (2 * (n - 1))))) (Ex.assign rfl) (by decide) ?_
              refine GL.nil ?_
              refine GE.thenN ?_
              refine GC.seq ?_
              refine GC.seq ?_
              refine GC.region ?_
              refine GL.val (v := (.int .i64 (rst i (2 * (n - 1))))) (Ex.move rfl) (by decide) ?_
              refine GL.val (v := (.int .i64 n)) (Ex.move rfl) (by decide) ?_
              refine GL.val (v := (.bool (decide ((rst i (2 * (n - 1))) < n)))) (Ex.lss rfl rfl) (by decide) ?_
              refine GL.nil ?_
              refine GE.thenN ?_
              refine GC.cond rfl (fun hq26 => ?_) (fun hq26 => ?_)
              · replace hq26 := of_decide_eq_true hq26
                refine GC.seq ?_
                refine GC.region ?_
                refine GL.val (v := (.int .i64 (rst i (2 * (n - 1))))) (Ex.move rfl) (by decide) ?_
                refine GL.val (v := (.int .i64 (rst i (2 * (n - 1))))) (Ex.assign rfl) (by decide) ?_
                refine GL.val (v := (.int .i64 0)) (Ex.assign rfl) (by decide) ?_
                refine GL.nil ?_
                refine GE.thenN ?_
                refine GC.ret ?_
                refine GE.thenR ?_
                refine GC.ret2 rfl (Rv.tmp rfl) (Rv.tmp rfl) (fun wN HN => ?_)
                exact HN.ret () trivial (by rw [show bord k n i = (rst i (2 * (n - 1)), 0) from by first | (exfalso; omega) | (unfold bord; (repeat (first | rw [if_pos (by omega)] | rw [if_neg (by omega)])); try exact Prod.ext (by dsimp only; omega) rfl)]) (List.nil_sublist _) rfl
              · replace hq26 := of_decide_eq_false hq26
                refine GC.skip ?_
                refine GE.thenN ?_
                refine GC.seq ?_
                refine GC.region ?_
                refine GL.val (v := (.int .i64 (2 * (n - 1)))) (Ex.move rfl) (by decide) ?_
                refine GL.val (v := (.int .i64 (rst i (2 * (n - 1))))) (Ex.move rfl) (by decide) ?_
                refine GL.val (v := (.int .i64 ((2 * (n - 1)) - (rst i (2 * (n - 1)))))) (Ex.sub' rfl rfl (Z := (2 * (n - 1)) - (rst i (2 * (n - 1)))) (w64 (by omega))) (by decide) ?_
                refine GL.val (v := (.int .i64 ((2 * (n - 1)) - (rst i (2 * (n - 1)))))) (Ex.assign rfl) (by decide) ?_
                refine GL.val (v := (.int .i64 0)) (Ex.assign rfl) (by decide) ?_
                refine GL.nil ?_
                refine GE.thenN ?_
                refine GC.ret ?_
                refine GC.ret2 rfl (Rv.tmp rfl) (Rv.tmp rfl) (fun wN HN => ?_)
                exact HN.ret () trivial (by rw [show bord k n i = ((2 * (n - 1)) - (rst i (2 * (n - 1))), 0) from by first | (exfalso; omega) | (unfold bord; (repeat (first | rw [if_pos (by omega)] | rw [if_neg (by omega)])); try exact Prod.ext (by dsimp only; omega) rfl)]) (List.nil_sublist _) rfl

set_option maxRecDepth 100000 in
set_option maxHeartbeats 1000000 in
theorem num (e : Int) (w : World) :
    Calls Try.prog 16 #[(.int .i64 e)] w (Ret w (fun _ : Unit => True) (fun _ => .int .i64 e) (fun _ => [])) := by
  refine enter (M := None) (L := []) (n := 4) (l := [(0, (.int .i64 e))]) Try.func16 rfl rfl (Args.cons rfl (Args.nil _)) (Hp.start _ _) ?_
  refine GC.seq ?_
  refine GC.region ?_
  refine GL.val (v := (.int .i64 0)) (Ex.assign rfl) (by decide) ?_
  refine GL.nil ?_
  refine GE.thenN ?_
  refine GC.seq ?_
  refine GC.region ?_
  refine GL.val (v := (.int .i64 e)) (Ex.move rfl) (by decide) ?_
  refine GL.val (v := (.int .i64 e)) (Ex.assign rfl) (by decide) ?_
  refine GL.nil ?_
  refine GE.thenN ?_
  refine GC.ret ?_
  refine GC.ret1 rfl (Rv.tmp rfl) (fun wN HN => ?_)
  exact HN.ret () trivial rfl (List.nil_sublist _) rfl

end Go.Proofs.Ytileciohbhoehaa.C
