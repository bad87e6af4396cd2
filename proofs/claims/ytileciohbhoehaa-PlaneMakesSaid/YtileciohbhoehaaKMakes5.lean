/- PlaneMakes: what its code does, walked. -/
import Derived.Test.YtileciohbhoehaaKMakes4
namespace Go.Proofs.Ytileciohbhoehaa.C
open Go Go.RowKit Sx
set_option linter.unusedVariables false
set_option maxRecDepth 100000 in
set_option maxHeartbeats 1000000 in
theorem mk_zo (w1 h1 s : Int) (W H n cap b o : Nat) (xs : List Int) (X Y : Int) (w : World) (hnew : sizeB w1 h1 = false) (hok : okP W H) (hn : n = W * H) (hl : Lst w (some ⟨b, o, none⟩) n xs) (hr : Rd w b o (xs.map u32)) (hb : n ≤ 35184372087808) (hR : ¬ (0 ≤ X ∧ X < W ∧ 0 ≤ Y ∧ Y < H)) :
    Calls Try.prog 10 #[(.int .i64 w1), (.int .i64 h1), (.int .u32 s), (.agg #[(.int .i64 (((W : Nat) : Int))), (.int .i64 (((H : Nat) : Int))), (.slice (some ⟨b, o, none⟩) n cap)]), (.int .i64 X), (.int .i64 Y)] w (Ret w (fun _ : Unit => True) (fun _ => .bool true) (fun _ => [])) := by
  have hx := hl.1
  refine enter (M := None) (L := []) (n := 101) (l := [(0, (.int .i64 w1)), (1, (.int .i64 h1)), (2, (.int .u32 s)), (3, (.agg #[(.int .i64 (((W : Nat) : Int))), (.int .i64 (((H : Nat) : Int))), (.slice (some ⟨b, o, none⟩) n cap)])), (4, (.int .i64 X)), (5, (.int .i64 Y))]) Try.func10 rfl rfl (Args.cons rfl (Args.cons rfl (Args.cons rfl (Args.cons rfl (Args.cons rfl (Args.cons rfl (Args.nil _))))))) (Hp.start _ _) ?_
  refine GC.seq ?_
  refine GC.region ?_
  refine GL.step (Stp.box (cs := [(.int .i64 (((W : Nat) : Int))), (.int .i64 (((H : Nat) : Int))), (.slice (some ⟨b, o, none⟩) n cap)]) rfl rfl (by decide)) (fun bq1 _ => ?_)
  refine GL.val (v := (.bool false)) (Ex.assign rfl) (by decide) ?_
  refine GL.nil ?_
  refine GE.thenN ?_
  refine GC.seq ?_
  refine GC.seq ?_
  refine GC.region ?_
  refine GL.step (Stp.callR (σ := Unit) (p := fun rz => True) (v := fun rz => (.bool true)) (N := fun rz => []) (vs := []) rfl rfl T.own13 (by decide) (fun wc hw => known wc)) (fun xq2 hq3 => ?_)
  refine GL.val (v := (.bool false)) (Ex.cast (Ex.not rfl) rfl) (by decide) ?_
  refine GL.nil ?_
  refine GE.thenN ?_
  refine GC.cond rfl (fun hq4 => by cases hq4) (fun _ => ?_)
  refine GC.skip ?_
  refine GE.thenN ?_
  refine GC.seq ?_
  refine GC.region ?_
  refine GL.val (v := (.agg #[(.slice none 0 0), (.slice none 0 0), (.slice none 0 0), (.slice none 0 0), (.slice none 0 0), (.slice none 0 0), (.slice none 0 0), (.slice none 0 0)])) (Ex.build (vs := []) rfl (by first | rfl | kernel_rfl)) (by decide) ?_
  refine GL.step (Stp.box (cs := [(.slice none 0 0), (.slice none 0 0), (.slice none 0 0), (.slice none 0 0), (.slice none 0 0), (.slice none 0 0), (.slice none 0 0), (.slice none 0 0)]) rfl rfl (by decide)) (fun bq5 _ => ?_)
  refine GL.val (v := (.pointer (some ⟨bq5, 0, none⟩))) (Ex.assign rfl) (by decide) ?_
  refine GL.nil ?_
  refine GE.thenN ?_
  refine GC.seq ?_
  refine GC.region ?_
  refine GL.val (v := (.agg #[(.slice none 0 0), (.slice none 0 0), (.slice none 0 0), (.slice none 0 0), (.slice none 0 0), (.slice none 0 0), (.slice none 0 0), (.slice none 0 0)])) (Ex.build (vs := []) rfl (by first | rfl | kernel_rfl)) (by decide) ?_
  refine GL.step (Stp.box (cs := [(.slice none 0 0), (.slice none 0 0), (.slice none 0 0), (.slice none 0 0), (.slice none 0 0), (.slice none 0 0), (.slice none 0 0), (.slice none 0 0)]) rfl rfl (by decide)) (fun bq6 _ => ?_)
  refine GL.val (v := (.pointer (some ⟨bq6, 0, none⟩))) (Ex.assign rfl) (by decide) ?_
  refine GL.nil ?_
  refine GE.thenN ?_
  refine GC.seq ?_
  refine GC.region ?_
  refine GL.val (v := (.pointer (some ⟨bq6, 0, none⟩))) (Ex.move rfl) (by decide) ?_
  refine GL.val (v := (.agg #[(.int .i64 (((W : Nat) : Int))), (.int .i64 (((H : Nat) : Int))), (.slice (some ⟨b, o, none⟩) n cap)])) (Ex.loadA rfl T.ag32 T.sz32 (i := 2) rfl (vs := [(.int .i64 (((W : Nat) : Int))), (.int .i64 (((H : Nat) : Int))), (.slice (some ⟨b, o, none⟩) n cap)]) rfl rfl) (by decide) ?_
  refine GL.step (Stp.call (σ := (Nat × Nat × List Value) × (Nat × Nat × List Value) × (Nat × Nat × List Value) × Nat) (p := fun rz => ([(Value.slice (some ⟨rz.2.2.2, 0, none⟩) (n + 5) (n + 5))] ++ rz.2.2.1.2.2 : List Value).length = rz.2.2.1.2.1 * 1 ∧ ([(Value.slice (some ⟨rz.2.1.1, 0, none⟩) (n + 5) rz.2.1.2.1)] ++ rz.1.2.2 : List Value).length = rz.1.2.1 * 1) (v := fun rz => (.agg #[(.int .i64 (((W : Nat) : Int))), (.int .i64 (((H : Nat) : Int))), (.slice (some ⟨rz.2.2.2, 0, none⟩) n (n + 5))])) (L' := fun rz => [⟨rz.1.1, [(Value.slice (some ⟨rz.2.1.1, 0, none⟩) (n + 5) rz.2.1.2.1)] ++ rz.1.2.2, 30, true⟩, ⟨rz.2.1.1, (roomL xs).map u32 ++ rz.2.1.2.2, 72, true⟩, ⟨rz.2.2.1.1, [(Value.slice (some ⟨rz.2.2.2, 0, none⟩) (n + 5) (n + 5))] ++ rz.2.2.1.2.2, 30, true⟩, ⟨rz.2.2.2, (roomL xs).map u32, 72, true⟩, ⟨bq6, [(.slice (some ⟨rz.2.2.1.1, 0, none⟩) 1 rz.2.2.1.2.1), (.slice (some ⟨rz.1.1, 0, none⟩) 1 rz.1.2.1), (.slice none 0 0), (.slice none 0 0), (.slice none 0 0), (.slice none 0 0), (.slice none 0 0), (.slice none 0 0)], 44, true⟩, ⟨bq5, [(.slice none 0 0), (.slice none 0 0), (.slice none 0 0), (.slice none 0 0), (.slice none 0 0), (.slice none 0 0), (.slice none 0 0), (.slice none 0 0)], 41, true⟩, ⟨bq1, [(.int .i64 (((W : Nat) : Int))), (.int .i64 (((H : Nat) : Int))), (.slice (some ⟨b, o, none⟩) n cap)], 32, true⟩]) (vs := [(.pointer (some ⟨bq6, 0, none⟩)), (.agg #[(.int .i64 (((W : Nat) : Int))), (.int .i64 (((H : Nat) : Int))), (.slice (some ⟨b, o, none⟩) n cap)])]) rfl rfl T.own17 (by decide) (fun wc hw => room_p0 w [⟨bq5, [(.slice none 0 0), (.slice none 0 0), (.slice none 0 0), (.slice none 0 0), (.slice none 0 0), (.slice none 0 0), (.slice none 0 0), (.slice none 0 0)], 41, true⟩, ⟨bq1, [(.int .i64 (((W : Nat) : Int))), (.int .i64 (((H : Nat) : Int))), (.slice (some ⟨b, o, none⟩) n cap)], 32, true⟩] (((W : Nat) : Int)) (((H : Nat) : Int)) bq6 n cap (some ⟨b, o, none⟩) xs wc hl hb (hw.pick (idx := [0, 1, 2]) (by decide) rfl))) (fun xq7 hq8 => ?_)
  refine GL.step (Stp.alloc T.zr32 (by decide)) (fun bq9 _ => ?_)
  refine GL.step (Stp.storeL (i := 0) (L1 := [⟨bq9, [(.int .i64 (((W : Nat) : Int))), (.int .i64 (((H : Nat) : Int))), (.slice (some ⟨xq7.2.2.2, 0, none⟩) n (n + 5))], 32, true⟩, ⟨xq7.1.1, [(Value.slice (some ⟨xq7.2.1.1, 0, none⟩) (n + 5) xq7.2.1.2.1)] ++ xq7.1.2.2, 30, true⟩, ⟨xq7.2.1.1, (roomL xs).map u32 ++ xq7.2.1.2.2, 72, true⟩, ⟨xq7.2.2.1.1, [(Value.slice (some ⟨xq7.2.2.2, 0, none⟩) (n + 5) (n + 5))] ++ xq7.2.2.1.2.2, 30, true⟩, ⟨xq7.2.2.2, (roomL xs).map u32, 72, true⟩, ⟨bq6, [(.slice (some ⟨xq7.2.2.1.1, 0, none⟩) 1 xq7.2.2.1.2.1), (.slice (some ⟨xq7.1.1, 0, none⟩) 1 xq7.1.2.1), (.slice none 0 0), (.slice none 0 0), (.slice none 0 0), (.slice none 0 0), (.slice none 0 0), (.slice none 0 0)], 44, true⟩, ⟨bq5, [(.slice none 0 0), (.slice none 0 0), (.slice none 0 0), (.slice none 0 0), (.slice none 0 0), (.slice none 0 0), (.slice none 0 0), (.slice none 0 0)], 41, true⟩, ⟨bq1, [(.int .i64 (((W : Nat) : Int))), (.int .i64 (((H : Nat) : Int))), (.slice (some ⟨b, o, none⟩) n cap)], 32, true⟩]) rfl rfl rfl T.sz32 rfl rfl rfl rfl) (fun _ _ => ?_)
  refine GL.nil ?_
  refine GE.thenN ?_
  refine GC.seq ?_
  refine GC.seq ?_
  refine GC.region ?_
  refine GL.val (v := (.int .i64 0)) (Ex.assign rfl) (by decide) ?_
  refine GL.nil ?_
  refine GE.thenN ?_
  refine GC.block ?_
  refine GC.unroll 3 ?_
  refine GE.round ?_
  refine GC.seq ?_
  refine GC.seq ?_
  refine GC.region ?_
  refine GL.val (v := (.int .i64 0)) (Ex.move rfl) (by decide) ?_
  refine GL.val (v := (.bool true)) (Ex.cast (Ex.lss rfl rfl) rfl) (by decide) ?_
  refine GL.nil ?_
  refine GE.thenN ?_
  refine GC.cond rfl (fun _ => ?_) (fun hq10 => by cases hq10)
  refine GC.skip ?_
  refine GE.thenN ?_
  refine GC.seq ?_
  refine GC.block ?_
  refine GC.seq ?_
  refine GC.region ?_
  refine GL.val (v := (.int .i64 w1)) (Ex.move rfl) (by decide) ?_
  refine GL.val (v := (.int .i64 h1)) (Ex.move rfl) (by decide) ?_
  refine GL.val (v := (.int .u32 s)) (Ex.move rfl) (by decide) ?_
  refine GL.step (Stp.callR (σ := Unit) (p := fun rz => True) (v := fun rz => (.tuple #[(.agg #[(.int .i64 0), (.int .i64 0), (.slice none 0 0)]), (.int .i64 50)])) (N := fun rz => []) (vs := [(.int .i64 w1), (.int .i64 h1), (.int .u32 s)]) rfl rfl T.own37 (by decide) (fun wc hw => new_inv w1 h1 s wc hnew)) (fun xq11 hq12 => ?_)
  refine GL.val (v := (.tuple #[(.agg #[(.int .i64 0), (.int .i64 0), (.slice none 0 0)]), (.int .i64 50)])) (Ex.move rfl) (by decide) ?_
  refine GL.val (v := (.agg #[(.int .i64 0), (.int .i64 0), (.slice none 0 0)])) (Ex.extract rfl rfl) (by decide) ?_
  refine GL.val (v := (.int .i64 50)) (Ex.extract rfl rfl) (by decide) ?_
  refine GL.step (Stp.alloc T.zr32 (by decide)) (fun bq13 _ => ?_)
  refine GL.step (Stp.storeL (i := 0) (L1 := [⟨bq13, [(.int .i64 0), (.int .i64 0), (.slice none 0 0)], 32, true⟩, ⟨bq9, [(.int .i64 (((W : Nat) : Int))), (.int .i64 (((H : Nat) : Int))), (.slice (some ⟨xq7.2.2.2, 0, none⟩) n (n + 5))], 32, true⟩, ⟨xq7.1.1, [(Value.slice (some ⟨xq7.2.1.1, 0, none⟩) (n + 5) xq7.2.1.2.1)] ++ xq7.1.2.2, 30, true⟩, ⟨xq7.2.1.1, (roomL xs).map u32 ++ xq7.2.1.2.2, 72, true⟩, ⟨xq7.2.2.1.1, [(Value.slice (some ⟨xq7.2.2.2, 0, none⟩) (n + 5) (n + 5))] ++ xq7.2.2.1.2.2, 30, true⟩, ⟨xq7.2.2.2, (roomL xs).map u32, 72, true⟩, ⟨bq6, [(.slice (some ⟨xq7.2.2.1.1, 0, none⟩) 1 xq7.2.2.1.2.1), (.slice (some ⟨xq7.1.1, 0, none⟩) 1 xq7.1.2.1), (.slice none 0 0), (.slice none 0 0), (.slice none 0 0), (.slice none 0 0), (.slice none 0 0), (.slice none 0 0)], 44, true⟩, ⟨bq5, [(.slice none 0 0), (.slice none 0 0), (.slice none 0 0), (.slice none 0 0), (.slice none 0 0), (.slice none 0 0), (.slice none 0 0), (.slice none 0 0)], 41, true⟩, ⟨bq1, [(.int .i64 (((W : Nat) : Int))), (.int .i64 (((H : Nat) : Int))), (.slice (some ⟨b, o, none⟩) n cap)], 32, true⟩]) rfl rfl rfl T.sz32 rfl rfl rfl rfl) (fun _ _ => ?_)
  refine GL.val (v := (.int .i64 50)) (Ex.assign rfl) (by decide) ?_
  refine GL.nil ?_
  refine GE.thenN ?_
  refine GC.seq ?_
  refine GC.region ?_
  refine GL.val (v := (.int .i64 w1)) (Ex.move rfl) (by decide) ?_
  refine GL.val (v := (.int .i64 h1)) (Ex.move rfl) (by decide) ?_
  refine GL.val (v := (.int .u32 s)) (Ex.move rfl) (by decide) ?_
  refine GL.step (Stp.callR (σ := Unit) (p := fun rz => True) (v := fun rz => (.tuple #[(.agg #[(.int .i64 0), (.int .i64 0), (.slice none 0 0)]), (.int .i64 50)])) (N := fun rz => []) (vs := [(.int .i64 w1), (.int .i64 h1), (.int .u32 s)]) rfl rfl T.own38 (by decide) (fun wc hw => ref_new_bad w1 h1 s wc hnew)) (fun xq14 hq15 => ?_)
  refine GL.val (v := (.tuple #[(.agg #[(.int .i64 0), (.int .i64 0), (.slice none 0 0)]), (.int .i64 50)])) (Ex.move rfl) (by decide) ?_
  refine GL.val (v := (.agg #[(.int .i64 0), (.int .i64 0), (.slice none 0 0)])) (Ex.extract rfl rfl) (by decide) ?_
  refine GL.val (v := (.int .i64 50)) (Ex.extract rfl rfl) (by decide) ?_
  refine GL.step (Stp.alloc T.zr32 (by decide)) (fun bq16 _ => ?_)
  refine GL.step (Stp.storeL (i := 0) (L1 := [⟨bq16, [(.int .i64 0), (.int .i64 0), (.slice none 0 0)], 32, true⟩, ⟨bq13, [(.int .i64 0), (.int .i64 0), (.slice none 0 0)], 32, true⟩, ⟨bq9, [(.int .i64 (((W : Nat) : Int))), (.int .i64 (((H : Nat) : Int))), (.slice (some ⟨xq7.2.2.2, 0, none⟩) n (n + 5))], 32, true⟩, ⟨xq7.1.1, [(Value.slice (some ⟨xq7.2.1.1, 0, none⟩) (n + 5) xq7.2.1.2.1)] ++ xq7.1.2.2, 30, true⟩, ⟨xq7.2.1.1, (roomL xs).map u32 ++ xq7.2.1.2.2, 72, true⟩, ⟨xq7.2.2.1.1, [(Value.slice (some ⟨xq7.2.2.2, 0, none⟩) (n + 5) (n + 5))] ++ xq7.2.2.1.2.2, 30, true⟩, ⟨xq7.2.2.2, (roomL xs).map u32, 72, true⟩, ⟨bq6, [(.slice (some ⟨xq7.2.2.1.1, 0, none⟩) 1 xq7.2.2.1.2.1), (.slice (some ⟨xq7.1.1, 0, none⟩) 1 xq7.1.2.1), (.slice none 0 0), (.slice none 0 0), (.slice none 0 0), (.slice none 0 0), (.slice none 0 0), (.slice none 0 0)], 44, true⟩, ⟨bq5, [(.slice none 0 0), (.slice none 0 0), (.slice none 0 0), (.slice none 0 0), (.slice none 0 0), (.slice none 0 0), (.slice none 0 0), (.slice none 0 0)], 41, true⟩, ⟨bq1, [(.int .i64 (((W : Nat) : Int))), (.int .i64 (((H : Nat) : Int))), (.slice (some ⟨b, o, none⟩) n cap)], 32, true⟩]) rfl rfl rfl T.sz32 rfl rfl rfl rfl) (fun _ _ => ?_)
  refine GL.val (v := (.int .i64 50)) (Ex.assign rfl) (by decide) ?_
  refine GL.nil ?_
  refine GE.thenN ?_
  refine GC.seq ?_
  refine GC.region ?_
  refine GL.val (v := (.agg #[(.int .i64 (((W : Nat) : Int))), (.int .i64 (((H : Nat) : Int))), (.slice (some ⟨xq7.2.2.2, 0, none⟩) n (n + 5))])) (Ex.loadA rfl T.ag32 T.sz32 (i := 2) rfl (vs := [(.int .i64 (((W : Nat) : Int))), (.int .i64 (((H : Nat) : Int))), (.slice (some ⟨xq7.2.2.2, 0, none⟩) n (n + 5))]) rfl rfl) (by decide) ?_
  refine GL.val (v := (.int .i64 X)) (Ex.move rfl) (by decide) ?_
  refine GL.val (v := (.int .i64 Y)) (Ex.move rfl) (by decide) ?_
  refine GL.step (Stp.callR (σ := Unit) (p := fun rz => True) (v := fun rz => (.tuple #[(.int .u32 0), (.int .i64 52)])) (N := fun rz => []) (vs := [(.agg #[(.int .i64 (((W : Nat) : Int))), (.int .i64 (((H : Nat) : Int))), (.slice (some ⟨xq7.2.2.2, 0, none⟩) n (n + 5))]), (.int .i64 X), (.int .i64 Y)]) rfl rfl T.own39 (by decide) (fun wc hw => get_out W H n (n + 5) (some ⟨xq7.2.2.2, 0, none⟩) X Y wc hok hn hR)) (fun xq17 hq18 => ?_)
  refine GL.val (v := (.tuple #[(.int .u32 0), (.int .i64 52)])) (Ex.move rfl) (by decide) ?_
  refine GL.val (v := (.int .u32 0)) (Ex.extract rfl rfl) (by decide) ?_
  refine GL.val (v := (.int .i64 52)) (Ex.extract rfl rfl) (by decide) ?_
  refine GL.val (v := (.int .u32 0)) (Ex.assign rfl) (by decide) ?_
  refine GL.val (v := (.int .i64 52)) (Ex.assign rfl) (by decide) ?_
  refine GL.nil ?_
  refine GE.thenN ?_
  refine GC.seq ?_
  refine GC.region ?_
  refine GL.val (v := (.agg #[(.int .i64 (((W : Nat) : Int))), (.int .i64 (((H : Nat) : Int))), (.slice (some ⟨b, o, none⟩) n cap)])) (Ex.loadA rfl T.ag32 T.sz32 (i := 9) rfl (vs := [(.int .i64 (((W : Nat) : Int))), (.int .i64 (((H : Nat) : Int))), (.slice (some ⟨b, o, none⟩) n cap)]) rfl rfl) (by decide) ?_
  refine GL.val (v := (.int .i64 X)) (Ex.move rfl) (by decide) ?_
  refine GL.val (v := (.int .i64 Y)) (Ex.move rfl) (by decide) ?_
  refine GL.step (Stp.callR (σ := Unit) (p := fun rz => True) (v := fun rz => (.tuple #[(.int .u32 0), (.int .i64 52)])) (N := fun rz => []) (vs := [(.agg #[(.int .i64 (((W : Nat) : Int))), (.int .i64 (((H : Nat) : Int))), (.slice (some ⟨b, o, none⟩) n cap)]), (.int .i64 X), (.int .i64 Y)]) rfl rfl T.own40 (by decide) (fun wc hw => ref_get_out W H n cap (some ⟨b, o, none⟩) X Y wc hok hn hR)) (fun xq19 hq20 => ?_)
  refine GL.val (v := (.tuple #[(.int .u32 0), (.int .i64 52)])) (Ex.move rfl) (by decide) ?_
  refine GL.val (v := (.int .u32 0)) (Ex.extract rfl rfl) (by decide) ?_
  refine GL.val (v := (.int .i64 52)) (Ex.extract rfl rfl) (by decide) ?_
  refine GL.val (v := (.int .u32 0)) (Ex.assign rfl) (by decide) ?_
  refine GL.val (v := (.int .i64 52)) (Ex.assign rfl) (by decide) ?_
  refine GL.nil ?_
  refine GE.thenN ?_
  refine GC.seq ?_
  refine GC.seq ?_
  refine GC.draw [⟨bq16, [(.int .i64 0), (.int .i64 0), (.slice none 0 0)], 32, true⟩, ⟨bq13, [(.int .i64 0), (.int .i64 0), (.slice none 0 0)], 32, true⟩, ⟨bq9, [(.int .i64 (((W : Nat) : Int))), (.int .i64 (((H : Nat) : Int))), (.slice (some ⟨xq7.2.2.2, 0, none⟩) n (n + 5))], 32, true⟩, ⟨xq7.1.1, [(Value.slice (some ⟨xq7.2.1.1, 0, none⟩) (n + 5) xq7.2.1.2.1)] ++ xq7.1.2.2, 30, true⟩, ⟨xq7.2.1.1, (roomL xs).map u32 ++ xq7.2.1.2.2, 72, true⟩, ⟨xq7.2.2.1.1, [(Value.slice (some ⟨xq7.2.2.2, 0, none⟩) (n + 5) (n + 5))] ++ xq7.2.2.1.2.2, 30, true⟩, ⟨xq7.2.2.2, (roomL xs).map u32, 72, true⟩, ⟨bq6, [(.slice (some ⟨xq7.2.2.1.1, 0, none⟩) 1 xq7.2.2.1.2.1), (.slice (some ⟨xq7.1.1, 0, none⟩) 1 xq7.1.2.1), (.slice none 0 0), (.slice none 0 0), (.slice none 0 0), (.slice none 0 0), (.slice none 0 0), (.slice none 0 0)], 44, true⟩, ⟨bq5, [(.slice none 0 0), (.slice none 0 0), (.slice none 0 0), (.slice none 0 0), (.slice none 0 0), (.slice none 0 0), (.slice none 0 0), (.slice none 0 0)], 41, true⟩, ⟨bq1, [(.int .i64 (((W : Nat) : Int))), (.int .i64 (((H : Nat) : Int))), (.slice (some ⟨b, o, none⟩) n cap)], 32, true⟩] T.mixed (fuel := 25) rfl rfl ?_
  refine GH.take 0 (v := (.agg #[(.int .i64 0), (.int .i64 0), (.slice none 0 0)])) rfl (by kernel_rfl) (by kernel_rfl) (by kernel_rfl) (fun _ _ _ h => h) (Ex.loadA rfl T.ag32 T.sz32 (i := 1) rfl (vs := [(.int .i64 0), (.int .i64 0), (.slice none 0 0)]) rfl rfl) (ulC (ulC (ulC (ulC (ulC (ulC (ulC (ulC (ulC (ulC ulN)))))))))) (by decide) ?_
  refine GH.take 1 (v := (.int .i64 50)) rfl (by kernel_rfl) (by kernel_rfl) (by kernel_rfl) (fun _ _ _ h => h) (Ex.move rfl) (ulC (ulC (ulC (ulC (ulC (ulC (ulC (ulC (ulC (ulC ulN)))))))))) (by decide) ?_
  refine GH.take 2 (v := (.agg #[(.int .i64 0), (.int .i64 0), (.slice none 0 0)])) rfl (by kernel_rfl) (by kernel_rfl) (by kernel_rfl) (fun _ _ _ h => h) (Ex.loadA rfl T.ag32 T.sz32 (i := 0) rfl (vs := [(.int .i64 0), (.int .i64 0), (.slice none 0 0)]) rfl rfl) (ulC (ulC (ulC (ulC (ulC (ulC (ulC (ulC (ulC (ulC ulN)))))))))) (by decide) ?_
  refine GH.take 3 (v := (.int .i64 50)) rfl (by kernel_rfl) (by kernel_rfl) (by kernel_rfl) (fun _ _ _ h => h) (Ex.move rfl) (ulC (ulC (ulC (ulC (ulC (ulC (ulC (ulC (ulC (ulC ulN)))))))))) (by decide) ?_
  refine GH.one 4 rfl (by kernel_rfl) (Stp.callR (σ := Unit) (p := fun rz => True) (v := fun rz => (.bool true)) (N := fun rz => []) (vs := [(.agg #[(.int .i64 0), (.int .i64 0), (.slice none 0 0)]), (.int .i64 50), (.agg #[(.int .i64 0), (.int .i64 0), (.slice none 0 0)]), (.int .i64 50)]) rfl rfl T.own20 (by decide) (fun wc hw => same_ 0 0 none 0 0 0 0 none 0 0 50 ([]) ([]) wc (by decide) (LsR.nil _ _) (LsR.nil _ _) (by first | rfl | omega) (by first | rfl | omega) (by first | rfl | (simp only [Nat.add_zero])))) (fun _ => (ulC (ulC (ulC (ulC (ulC (ulC (ulC (ulC (ulC (ulC ulN))))))))))) (fun xq21 hq22 => ?_)
  refine GH.take 5 (v := (.bool false)) rfl (by kernel_rfl) (by kernel_rfl) (by kernel_rfl) (fun _ _ _ h => h) (Ex.cast (Ex.not rfl) rfl) (ulC (ulC (ulC (ulC (ulC (ulC (ulC (ulC (ulC (ulC ulN)))))))))) (by decide) ?_
  refine GH.take 6 (v := (.bool false)) rfl (by kernel_rfl) (by kernel_rfl) (by kernel_rfl) (fun _ _ _ h => h) (Ex.move rfl) (ulC (ulC (ulC (ulC (ulC (ulC (ulC (ulC (ulC (ulC ulN)))))))))) (by decide) ?_
  refine GH.takeG 7 (tj := 72) (v := (.int .u32 0)) rfl rfl rfl (by kernel_rfl) (by kernel_rfl) (by kernel_rfl) (fun _ _ _ h => h) (Ex.move rfl) (ulC (ulC (ulC (ulC (ulC (ulC (ulC (ulC (ulC (ulC ulN)))))))))) (by decide) ?_
  refine GH.takeG 8 (tj := 72) (v := (.int .u32 0)) rfl rfl rfl (by kernel_rfl) (by kernel_rfl) (by kernel_rfl) (fun _ _ _ h => h) (Ex.move rfl) (ulC (ulC (ulC (ulC (ulC (ulC (ulC (ulC (ulC (ulC ulN)))))))))) (by decide) ?_
  refine GH.takeG 9 (tj := 72) (v := (.bool false)) rfl rfl rfl (by kernel_rfl) (by kernel_rfl) (by kernel_rfl) (fun _ _ _ h => h) (Ex.cast (Ex.neq rfl rfl) rfl) (ulC (ulC (ulC (ulC (ulC (ulC (ulC (ulC (ulC (ulC ulN)))))))))) (by decide) ?_
  refine GH.take 10 (v := (.bool false)) rfl (by kernel_rfl) (by kernel_rfl) (by kernel_rfl) (fun _ _ _ h => h) (Ex.pickF rfl rfl) (ulC (ulC (ulC (ulC (ulC (ulC (ulC (ulC (ulC (ulC ulN)))))))))) (by decide) ?_
  refine GH.take 11 (v := (.bool false)) rfl (by kernel_rfl) (by kernel_rfl) (by kernel_rfl) (fun _ _ _ h => h) (Ex.move rfl) (ulC (ulC (ulC (ulC (ulC (ulC (ulC (ulC (ulC (ulC ulN)))))))))) (by decide) ?_
  refine GH.takeG 12 (tj := 77) (v := (.int .i64 52)) rfl rfl rfl (by kernel_rfl) (by kernel_rfl) (by kernel_rfl) (fun _ _ _ h => h) (Ex.move rfl) (ulC (ulC (ulC (ulC (ulC (ulC (ulC (ulC (ulC (ulC ulN)))))))))) (by decide) ?_
  refine GH.takeG 14 (tj := 77) (v := (.int .i64 52)) rfl rfl rfl (by kernel_rfl) (by kernel_rfl) (by kernel_rfl) (fun _ _ _ h => h) (Ex.move rfl) (ulC (ulC (ulC (ulC (ulC (ulC (ulC (ulC (ulC (ulC ulN)))))))))) (by decide) ?_
  refine GH.oneG 13 (tj := 77) rfl rfl rfl (by kernel_rfl) (Stp.callR (σ := Unit) (p := fun rz => True) (v := fun rz => (.int .i64 52)) (N := fun rz => []) (vs := [(.int .i64 52)]) rfl rfl T.own16 (by decide) (fun wc hw => num 52 wc)) (fun _ => (ulC (ulC (ulC (ulC (ulC (ulC (ulC (ulC (ulC (ulC ulN))))))))))) (fun xq23 hq24 => ?_)
  refine GH.takeG 15 (tj := 77) (v := (.bool false)) rfl rfl rfl (by kernel_rfl) (by kernel_rfl) (by kernel_rfl) (fun _ _ _ h => h) (Ex.cast (Ex.neq rfl rfl) rfl) (ulC (ulC (ulC (ulC (ulC (ulC (ulC (ulC (ulC (ulC ulN)))))))))) (by decide) ?_
  refine GH.take 16 (v := (.bool false)) rfl (by kernel_rfl) (by kernel_rfl) (by kernel_rfl) (fun _ _ _ h => h) (Ex.pickF rfl rfl) (ulC (ulC (ulC (ulC (ulC (ulC (ulC (ulC (ulC (ulC ulN)))))))))) (by decide) ?_
  refine GH.take 17 (v := (.bool false)) rfl (by kernel_rfl) (by kernel_rfl) (by kernel_rfl) (fun _ _ _ h => h) (Ex.move rfl) (ulC (ulC (ulC (ulC (ulC (ulC (ulC (ulC (ulC (ulC ulN)))))))))) (by decide) ?_
  refine GH.takeG 18 (tj := 83) (v := (.agg #[(.int .i64 (((W : Nat) : Int))), (.int .i64 (((H : Nat) : Int))), (.slice (some ⟨xq7.2.2.2, 0, none⟩) n (n + 5))])) rfl rfl rfl (by kernel_rfl) (by kernel_rfl) (by kernel_rfl) (fun _ _ _ h => h) (Ex.loadA rfl T.ag32 T.sz32 (i := 2) rfl (vs := [(.int .i64 (((W : Nat) : Int))), (.int .i64 (((H : Nat) : Int))), (.slice (some ⟨xq7.2.2.2, 0, none⟩) n (n + 5))]) rfl rfl) (ulC (ulC (ulC (ulC (ulC (ulC (ulC (ulC (ulC (ulC ulN)))))))))) (by decide) ?_
  refine GH.takeG 21 (tj := 83) (v := (.agg #[(.int .i64 (((W : Nat) : Int))), (.int .i64 (((H : Nat) : Int))), (.slice (some ⟨b, o, none⟩) n cap)])) rfl rfl rfl (by kernel_rfl) (by kernel_rfl) (by kernel_rfl) (fun _ _ _ h => h) (Ex.loadA rfl T.ag32 T.sz32 (i := 9) rfl (vs := [(.int .i64 (((W : Nat) : Int))), (.int .i64 (((H : Nat) : Int))), (.slice (some ⟨b, o, none⟩) n cap)]) rfl rfl) (ulC (ulC (ulC (ulC (ulC (ulC (ulC (ulC (ulC (ulC ulN)))))))))) (by decide) ?_
  refine GH.oneG 19 (tj := 83) rfl rfl rfl (by kernel_rfl) (Stp.callR (σ := Unit) (p := fun rz => True) (v := fun rz => (.int .i64 0)) (N := fun rz => []) (vs := [(.agg #[(.int .i64 (((W : Nat) : Int))), (.int .i64 (((H : Nat) : Int))), (.slice (some ⟨xq7.2.2.2, 0, none⟩) n (n + 5))])]) rfl rfl T.own36 (by decide) (fun wc hw => (by have h := check (((W : Nat) : Int)) (((H : Nat) : Int)) (some ⟨xq7.2.2.2, 0, none⟩) n (n + 5) wc; rw [show chk (((W : Nat) : Int)) (((H : Nat) : Int)) n = 0 from by rw [hn]; exact chk_ok hok] at h; exact h))) (fun _ => (ulC (ulC (ulC (ulC (ulC (ulC (ulC (ulC (ulC (ulC ulN))))))))))) (fun xq25 hq26 => ?_)
  refine GH.oneG 20 (tj := 83) rfl rfl rfl (by kernel_rfl) (Stp.callR (σ := Unit) (p := fun rz => True) (v := fun rz => (.int .i64 0)) (N := fun rz => []) (vs := [(.int .i64 0)]) rfl rfl T.own16 (by decide) (fun wc hw => num 0 wc)) (fun _ => (ulC (ulC (ulC (ulC (ulC (ulC (ulC (ulC (ulC (ulC ulN))))))))))) (fun xq27 hq28 => ?_)
  refine GH.oneG 22 (tj := 83) rfl rfl rfl (by kernel_rfl) (Stp.callR (σ := Unit) (p := fun rz => True) (v := fun rz => (.int .i64 0)) (N := fun rz => []) (vs := [(.agg #[(.int .i64 (((W : Nat) : Int))), (.int .i64 (((H : Nat) : Int))), (.slice (some ⟨b, o, none⟩) n cap)])]) rfl rfl T.own35 (by decide) (fun wc hw => (by have h := ref_check (((W : Nat) : Int)) (((H : Nat) : Int)) (some ⟨b, o, none⟩) n cap wc; rw [show chk (((W : Nat) : Int)) (((H : Nat) : Int)) n = 0 from by rw [hn]; exact chk_ok hok] at h; exact h))) (fun _ => (ulC (ulC (ulC (ulC (ulC (ulC (ulC (ulC (ulC (ulC ulN))))))))))) (fun xq29 hq30 => ?_)
  refine GH.takeG 23 (tj := 83) (v := (.bool false)) rfl rfl rfl (by kernel_rfl) (by kernel_rfl) (by kernel_rfl) (fun _ _ _ h => h) (Ex.cast (Ex.neq rfl rfl) rfl) (ulC (ulC (ulC (ulC (ulC (ulC (ulC (ulC (ulC (ulC ulN)))))))))) (by decide) ?_
  refine GH.take 24 (v := (.bool false)) rfl (by kernel_rfl) (by kernel_rfl) (by kernel_rfl) (fun _ _ _ h => h) (Ex.pickF rfl rfl) (ulC (ulC (ulC (ulC (ulC (ulC (ulC (ulC (ulC (ulC ulN)))))))))) (by decide) ?_
  refine GH.done (by kernel_rfl) ?_
  refine GE.thenN ?_
  refine GC.cond rfl (fun hq31 => by cases hq31) (fun _ => ?_)
  refine GC.skip ?_
  refine GE.thenN ?_
  refine GC.region ?_
  refine GL.val (v := (.pointer (some ⟨bq5, 0, none⟩))) (Ex.move rfl) (by decide) ?_
  refine GL.val (v := (.agg #[(.int .i64 0), (.int .i64 0), (.slice none 0 0)])) (Ex.loadA rfl T.ag32 T.sz32 (i := 1) rfl (vs := [(.int .i64 0), (.int .i64 0), (.slice none 0 0)]) rfl rfl) (by decide) ?_
  refine GL.val (v := (.int .i64 0)) (Ex.move rfl) (by decide) ?_
  refine GL.step (Stp.call (σ := (Nat × Nat × List Value) × (Nat × Nat × List Value)) (p := fun rz => ([(Value.slice none 0 0)] ++ rz.2.2.2 : List Value).length = rz.2.2.1 * 1 ∧ ([(Value.int .i64 0)] ++ rz.1.2.2 : List Value).length = rz.1.2.1 * 1) (v := fun rz => (.tuple #[])) (L' := fun rz => [⟨rz.1.1, [(Value.int .i64 0)] ++ rz.1.2.2, 3, true⟩, ⟨rz.2.1, [(Value.slice none 0 0)] ++ rz.2.2.2, 30, true⟩, ⟨bq5, [(.slice (some ⟨rz.2.1, 0, none⟩) 1 rz.2.2.1), (.slice none 0 0), (.slice none 0 0), (.slice none 0 0), (.slice (some ⟨rz.1.1, 0, none⟩) 1 rz.1.2.1), (.slice none 0 0), (.slice none 0 0), (.slice none 0 0)], 41, true⟩, ⟨bq16, [(.int .i64 0), (.int .i64 0), (.slice none 0 0)], 32, true⟩, ⟨bq13, [(.int .i64 0), (.int .i64 0), (.slice none 0 0)], 32, true⟩, ⟨bq9, [(.int .i64 (((W : Nat) : Int))), (.int .i64 (((H : Nat) : Int))), (.slice (some ⟨xq7.2.2.2, 0, none⟩) n (n + 5))], 32, true⟩, ⟨xq7.1.1, [(Value.slice (some ⟨xq7.2.1.1, 0, none⟩) (n + 5) xq7.2.1.2.1)] ++ xq7.1.2.2, 30, true⟩, ⟨xq7.2.1.1, (roomL xs).map u32 ++ xq7.2.1.2.2, 72, true⟩, ⟨xq7.2.2.1.1, [(Value.slice (some ⟨xq7.2.2.2, 0, none⟩) (n + 5) (n + 5))] ++ xq7.2.2.1.2.2, 30, true⟩, ⟨xq7.2.2.2, (roomL xs).map u32, 72, true⟩, ⟨bq6, [(.slice (some ⟨xq7.2.2.1.1, 0, none⟩) 1 xq7.2.2.1.2.1), (.slice (some ⟨xq7.1.1, 0, none⟩) 1 xq7.1.2.1), (.slice none 0 0), (.slice none 0 0), (.slice none 0 0), (.slice none 0 0), (.slice none 0 0), (.slice none 0 0)], 44, true⟩, ⟨bq1, [(.int .i64 (((W : Nat) : Int))), (.int .i64 (((H : Nat) : Int))), (.slice (some ⟨b, o, none⟩) n cap)], 32, true⟩]) (vs := [(.pointer (some ⟨bq5, 0, none⟩)), (.agg #[(.int .i64 0), (.int .i64 0), (.slice none 0 0)]), (.int .i64 0)]) rfl rfl T.own21 (by decide) (fun wc hw => book_p00 w [⟨bq16, [(.int .i64 0), (.int .i64 0), (.slice none 0 0)], 32, true⟩, ⟨bq13, [(.int .i64 0), (.int .i64 0), (.slice none 0 0)], 32, true⟩, ⟨bq9, [(.int .i64 (((W : Nat) : Int))), (.int .i64 (((H : Nat) : Int))), (.slice (some ⟨xq7.2.2.2, 0, none⟩) n (n + 5))], 32, true⟩, ⟨xq7.1.1, [(Value.slice (some ⟨xq7.2.1.1, 0, none⟩) (n + 5) xq7.2.1.2.1)] ++ xq7.1.2.2, 30, true⟩, ⟨xq7.2.1.1, (roomL xs).map u32 ++ xq7.2.1.2.2, 72, true⟩, ⟨xq7.2.2.1.1, [(Value.slice (some ⟨xq7.2.2.2, 0, none⟩) (n + 5) (n + 5))] ++ xq7.2.2.1.2.2, 30, true⟩, ⟨xq7.2.2.2, (roomL xs).map u32, 72, true⟩, ⟨bq6, [(.slice (some ⟨xq7.2.2.1.1, 0, none⟩) 1 xq7.2.2.1.2.1), (.slice (some ⟨xq7.1.1, 0, none⟩) 1 xq7.1.2.1), (.slice none 0 0), (.slice none 0 0), (.slice none 0 0), (.slice none 0 0), (.slice none 0 0), (.slice none 0 0)], 44, true⟩, ⟨bq1, [(.int .i64 (((W : Nat) : Int))), (.int .i64 (((H : Nat) : Int))), (.slice (some ⟨b, o, none⟩) n cap)], 32, true⟩] 0 0 bq5 0 wc (hw.pick (idx := [8, 0, 1, 2, 3, 4, 5, 6, 7, 9]) (by decide) rfl))) (fun xq32 hq33 => ?_)
  refine GL.nil ?_
  refine GE.blockN ?_
  refine GE.thenN ?_
  refine GC.region ?_
  refine GL.val (v := (.int .i64 0)) (Ex.move rfl) (by decide) ?_
  refine GL.val (v := (.int .i64 1)) (Ex.add rfl rfl (Z := 1) (by decide)) (by decide) ?_
  refine GL.val (v := (.int .i64 1)) (Ex.assign rfl) (by decide) ?_
  refine GL.nil ?_
  refine GE.thenN ?_
  refine GE.round ?_
  refine GC.seq ?_
  refine GC.seq ?_
  refine GC.region ?_
  refine GL.val (v := (.int .i64 1)) (Ex.move rfl) (by decide) ?_
  refine GL.val (v := (.bool true)) (Ex.cast (Ex.lss rfl rfl) rfl) (by decide) ?_
  refine GL.nil ?_
  refine GE.thenN ?_
  refine GC.cond rfl (fun _ => ?_) (fun hq34 => by cases hq34)
  refine GC.skip ?_
  refine GE.thenN ?_
  refine GC.seq ?_
  refine GC.block ?_
  refine GC.seq ?_
  refine GC.region ?_
  refine GL.val (v := (.int .i64 w1)) (Ex.move rfl) (by decide) ?_
  refine GL.val (v := (.int .i64 h1)) (Ex.move rfl) (by decide) ?_
  refine GL.val (v := (.int .u32 s)) (Ex.move rfl) (by decide) ?_
  refine GL.step (Stp.callR (σ := Unit) (p := fun rz => True) (v := fun rz => (.tuple #[(.agg #[(.int .i64 0), (.int .i64 0), (.slice none 0 0)]), (.int .i64 50)])) (N := fun rz => []) (vs := [(.int .i64 w1), (.int .i64 h1), (.int .u32 s)]) rfl rfl T.own37 (by decide) (fun wc hw => new_inv w1 h1 s wc hnew)) (fun xq35 hq36 => ?_)
  refine GL.val (v := (.tuple #[(.agg #[(.int .i64 0), (.int .i64 0), (.slice none 0 0)]), (.int .i64 50)])) (Ex.move rfl) (by decide) ?_
  refine GL.val (v := (.agg #[(.int .i64 0), (.int .i64 0), (.slice none 0 0)])) (Ex.extract rfl rfl) (by decide) ?_
  refine GL.val (v := (.int .i64 50)) (Ex.extract rfl rfl) (by decide) ?_
  refine GL.step (Stp.alloc T.zr32 (by decide)) (fun bq37 _ => ?_)
  refine GL.step (Stp.storeL (i := 0) (L1 := [⟨bq37, [(.int .i64 0), (.int .i64 0), (.slice none 0 0)], 32, true⟩, ⟨xq32.1.1, [(Value.int .i64 0)] ++ xq32.1.2.2, 3, true⟩, ⟨xq32.2.1, [(Value.slice none 0 0)] ++ xq32.2.2.2, 30, true⟩, ⟨bq5, [(.slice (some ⟨xq32.2.1, 0, none⟩) 1 xq32.2.2.1), (.slice none 0 0), (.slice none 0 0), (.slice none 0 0), (.slice (some ⟨xq32.1.1, 0, none⟩) 1 xq32.1.2.1), (.slice none 0 0), (.slice none 0 0), (.slice none 0 0)], 41, true⟩, ⟨bq16, [(.int .i64 0), (.int .i64 0), (.slice none 0 0)], 32, true⟩, ⟨bq13, [(.int .i64 0), (.int .i64 0), (.slice none 0 0)], 32, true⟩, ⟨bq9, [(.int .i64 (((W : Nat) : Int))), (.int .i64 (((H : Nat) : Int))), (.slice (some ⟨xq7.2.2.2, 0, none⟩) n (n + 5))], 32, true⟩, ⟨xq7.1.1, [(Value.slice (some ⟨xq7.2.1.1, 0, none⟩) (n + 5) xq7.2.1.2.1)] ++ xq7.1.2.2, 30, true⟩, ⟨xq7.2.1.1, (roomL xs).map u32 ++ xq7.2.1.2.2, 72, true⟩, ⟨xq7.2.2.1.1, [(Value.slice (some ⟨xq7.2.2.2, 0, none⟩) (n + 5) (n + 5))] ++ xq7.2.2.1.2.2, 30, true⟩, ⟨xq7.2.2.2, (roomL xs).map u32, 72, true⟩, ⟨bq6, [(.slice (some ⟨xq7.2.2.1.1, 0, none⟩) 1 xq7.2.2.1.2.1), (.slice (some ⟨xq7.1.1, 0, none⟩) 1 xq7.1.2.1), (.slice none 0 0), (.slice none 0 0), (.slice none 0 0), (.slice none 0 0), (.slice none 0 0), (.slice none 0 0)], 44, true⟩, ⟨bq1, [(.int .i64 (((W : Nat) : Int))), (.int .i64 (((H : Nat) : Int))), (.slice (some ⟨b, o, none⟩) n cap)], 32, true⟩]) rfl rfl rfl T.sz32 rfl rfl rfl rfl) (fun _ _ => ?_)
  refine GL.val (v := (.int .i64 50)) (Ex.assign rfl) (by decide) ?_
  refine GL.nil ?_
  refine GE.thenN ?_
  refine GC.seq ?_
  refine GC.region ?_
  refine GL.val (v := (.int .i64 w1)) (Ex.move rfl) (by decide) ?_
  refine GL.val (v := (.int .i64 h1)) (Ex.move rfl) (by decide) ?_
  refine GL.val (v := (.int .u32 s)) (Ex.move rfl) (by decide) ?_
  refine GL.step (Stp.callR (σ := Unit) (p := fun rz => True) (v := fun rz => (.tuple #[(.agg #[(.int .i64 0), (.int .i64 0), (.slice none 0 0)]), (.int .i64 50)])) (N := fun rz => []) (vs := [(.int .i64 w1), (.int .i64 h1), (.int .u32 s)]) rfl rfl T.own38 (by decide) (fun wc hw => ref_new_bad w1 h1 s wc hnew)) (fun xq38 hq39 => ?_)
  refine GL.val (v := (.tuple #[(.agg #[(.int .i64 0), (.int .i64 0), (.slice none 0 0)]), (.int .i64 50)])) (Ex.move rfl) (by decide) ?_
  refine GL.val (v := (.agg #[(.int .i64 0), (.int .i64 0), (.slice none 0 0)])) (Ex.extract rfl rfl) (by decide) ?_
  refine GL.val (v := (.int .i64 50)) (Ex.extract rfl rfl) (by decide) ?_
  refine GL.step (Stp.alloc T.zr32 (by decide)) (fun bq40 _ => ?_)
  refine GL.step (Stp.storeL (i := 0) (L1 := [⟨bq40, [(.int .i64 0), (.int .i64 0), (.slice none 0 0)], 32, true⟩, ⟨bq37, [(.int .i64 0), (.int .i64 0), (.slice none 0 0)], 32, true⟩, ⟨xq32.1.1, [(Value.int .i64 0)] ++ xq32.1.2.2, 3, true⟩, ⟨xq32.2.1, [(Value.slice none 0 0)] ++ xq32.2.2.2, 30, true⟩, ⟨bq5, [(.slice (some ⟨xq32.2.1, 0, none⟩) 1 xq32.2.2.1), (.slice none 0 0), (.slice none 0 0), (.slice none 0 0), (.slice (some ⟨xq32.1.1, 0, none⟩) 1 xq32.1.2.1), (.slice none 0 0), (.slice none 0 0), (.slice none 0 0)], 41, true⟩, ⟨bq16, [(.int .i64 0), (.int .i64 0), (.slice none 0 0)], 32, true⟩, ⟨bq13, [(.int .i64 0), (.int .i64 0), (.slice none 0 0)], 32, true⟩, ⟨bq9, [(.int .i64 (((W : Nat) : Int))), (.int .i64 (((H : Nat) : Int))), (.slice (some ⟨xq7.2.2.2, 0, none⟩) n (n + 5))], 32, true⟩, ⟨xq7.1.1, [(Value.slice (some ⟨xq7.2.1.1, 0, none⟩) (n + 5) xq7.2.1.2.1)] ++ xq7.1.2.2, 30, true⟩, ⟨xq7.2.1.1, (roomL xs).map u32 ++ xq7.2.1.2.2, 72, true⟩, ⟨xq7.2.2.1.1, [(Value.slice (some ⟨xq7.2.2.2, 0, none⟩) (n + 5) (n + 5))] ++ xq7.2.2.1.2.2, 30, true⟩, ⟨xq7.2.2.2, (roomL xs).map u32, 72, true⟩, ⟨bq6, [(.slice (some ⟨xq7.2.2.1.1, 0, none⟩) 1 xq7.2.2.1.2.1), (.slice (some ⟨xq7.1.1, 0, none⟩) 1 xq7.1.2.1), (.slice none 0 0), (.slice none 0 0), (.slice none 0 0), (.slice none 0 0), (.slice none 0 0), (.slice none 0 0)], 44, true⟩, ⟨bq1, [(.int .i64 (((W : Nat) : Int))), (.int .i64 (((H : Nat) : Int))), (.slice (some ⟨b, o, none⟩) n cap)], 32, true⟩]) rfl rfl rfl T.sz32 rfl rfl rfl rfl) (fun _ _ => ?_)
  refine GL.val (v := (.int .i64 50)) (Ex.assign rfl) (by decide) ?_
  refine GL.nil ?_
  refine GE.thenN ?_
  refine GC.seq ?_
  refine GC.region ?_
  refine GL.val (v := (.agg #[(.int .i64 (((W : Nat) : Int))), (.int .i64 (((H : Nat) : Int))), (.slice (some ⟨xq7.2.2.2, 0, none⟩) n (n + 5))])) (Ex.loadA rfl T.ag32 T.sz32 (i := 7) rfl (vs := [(.int .i64 (((W : Nat) : Int))), (.int .i64 (((H : Nat) : Int))), (.slice (some ⟨xq7.2.2.2, 0, none⟩) n (n + 5))]) rfl rfl) (by decide) ?_
  refine GL.val (v := (.int .i64 X)) (Ex.move rfl) (by decide) ?_
  refine GL.val (v := (.int .i64 Y)) (Ex.move rfl) (by decide) ?_
  refine GL.step (Stp.callR (σ := Unit) (p := fun rz => True) (v := fun rz => (.tuple #[(.int .u32 0), (.int .i64 52)])) (N := fun rz => []) (vs := [(.agg #[(.int .i64 (((W : Nat) : Int))), (.int .i64 (((H : Nat) : Int))), (.slice (some ⟨xq7.2.2.2, 0, none⟩) n (n + 5))]), (.int .i64 X), (.int .i64 Y)]) rfl rfl T.own39 (by decide) (fun wc hw => get_out W H n (n + 5) (some ⟨xq7.2.2.2, 0, none⟩) X Y wc hok hn hR)) (fun xq41 hq42 => ?_)
  refine GL.val (v := (.tuple #[(.int .u32 0), (.int .i64 52)])) (Ex.move rfl) (by decide) ?_
  refine GL.val (v := (.int .u32 0)) (Ex.extract rfl rfl) (by decide) ?_
  refine GL.val (v := (.int .i64 52)) (Ex.extract rfl rfl) (by decide) ?_
  refine GL.val (v := (.int .u32 0)) (Ex.assign rfl) (by decide) ?_
  refine GL.val (v := (.int .i64 52)) (Ex.assign rfl) (by decide) ?_
  refine GL.nil ?_
  refine GE.thenN ?_
  refine GC.seq ?_
  refine GC.region ?_
  refine GL.val (v := (.agg #[(.int .i64 (((W : Nat) : Int))), (.int .i64 (((H : Nat) : Int))), (.slice (some ⟨b, o, none⟩) n cap)])) (Ex.loadA rfl T.ag32 T.sz32 (i := 13) rfl (vs := [(.int .i64 (((W : Nat) : Int))), (.int .i64 (((H : Nat) : Int))), (.slice (some ⟨b, o, none⟩) n cap)]) rfl rfl) (by decide) ?_
  refine GL.val (v := (.int .i64 X)) (Ex.move rfl) (by decide) ?_
  refine GL.val (v := (.int .i64 Y)) (Ex.move rfl) (by decide) ?_
  refine GL.step (Stp.callR (σ := Unit) (p := fun rz => True) (v := fun rz => (.tuple #[(.int .u32 0), (.int .i64 52)])) (N := fun rz => []) (vs := [(.agg #[(.int .i64 (((W : Nat) : Int))), (.int .i64 (((H : Nat) : Int))), (.slice (some ⟨b, o, none⟩) n cap)]), (.int .i64 X), (.int .i64 Y)]) rfl rfl T.own40 (by decide) (fun wc hw => ref_get_out W H n cap (some ⟨b, o, none⟩) X Y wc hok hn hR)) (fun xq43 hq44 => ?_)
  refine GL.val (v := (.tuple #[(.int .u32 0), (.int .i64 52)])) (Ex.move rfl) (by decide) ?_
  refine GL.val (v := (.int .u32 0)) (Ex.extract rfl rfl) (by decide) ?_
  refine GL.val (v := (.int .i64 52)) (Ex.extract rfl rfl) (by decide) ?_
  refine GL.val (v := (.int .u32 0)) (Ex.assign rfl) (by decide) ?_
  refine GL.val (v := (.int .i64 52)) (Ex.assign rfl) (by decide) ?_
  refine GL.nil ?_
  refine GE.thenN ?_
  refine GC.seq ?_
  refine GC.seq ?_
  refine GC.draw [⟨bq40, [(.int .i64 0), (.int .i64 0), (.slice none 0 0)], 32, true⟩, ⟨bq37, [(.int .i64 0), (.int .i64 0), (.slice none 0 0)], 32, true⟩, ⟨xq32.1.1, [(Value.int .i64 0)] ++ xq32.1.2.2, 3, true⟩, ⟨xq32.2.1, [(Value.slice none 0 0)] ++ xq32.2.2.2, 30, true⟩, ⟨bq5, [(.slice (some ⟨xq32.2.1, 0, none⟩) 1 xq32.2.2.1), (.slice none 0 0), (.slice none 0 0), (.slice none 0 0), (.slice (some ⟨xq32.1.1, 0, none⟩) 1 xq32.1.2.1), (.slice none 0 0), (.slice none 0 0), (.slice none 0 0)], 41, true⟩, ⟨bq16, [(.int .i64 0), (.int .i64 0), (.slice none 0 0)], 32, true⟩, ⟨bq13, [(.int .i64 0), (.int .i64 0), (.slice none 0 0)], 32, true⟩, ⟨bq9, [(.int .i64 (((W : Nat) : Int))), (.int .i64 (((H : Nat) : Int))), (.slice (some ⟨xq7.2.2.2, 0, none⟩) n (n + 5))], 32, true⟩, ⟨xq7.1.1, [(Value.slice (some ⟨xq7.2.1.1, 0, none⟩) (n + 5) xq7.2.1.2.1)] ++ xq7.1.2.2, 30, true⟩, ⟨xq7.2.1.1, (roomL xs).map u32 ++ xq7.2.1.2.2, 72, true⟩, ⟨xq7.2.2.1.1, [(Value.slice (some ⟨xq7.2.2.2, 0, none⟩) (n + 5) (n + 5))] ++ xq7.2.2.1.2.2, 30, true⟩, ⟨xq7.2.2.2, (roomL xs).map u32, 72, true⟩, ⟨bq6, [(.slice (some ⟨xq7.2.2.1.1, 0, none⟩) 1 xq7.2.2.1.2.1), (.slice (some ⟨xq7.1.1, 0, none⟩) 1 xq7.1.2.1), (.slice none 0 0), (.slice none 0 0), (.slice none 0 0), (.slice none 0 0), (.slice none 0 0), (.slice none 0 0)], 44, true⟩, ⟨bq1, [(.int .i64 (((W : Nat) : Int))), (.int .i64 (((H : Nat) : Int))), (.slice (some ⟨b, o, none⟩) n cap)], 32, true⟩] T.mixed (fuel := 25) rfl rfl ?_
  refine GH.take 0 (v := (.agg #[(.int .i64 0), (.int .i64 0), (.slice none 0 0)])) rfl (by kernel_rfl) (by kernel_rfl) (by kernel_rfl) (fun _ _ _ h => h) (Ex.loadA rfl T.ag32 T.sz32 (i := 1) rfl (vs := [(.int .i64 0), (.int .i64 0), (.slice none 0 0)]) rfl rfl) (ulC (ulC (ulC (ulC (ulC (ulC (ulC (ulC (ulC (ulC (ulC (ulC (ulC (ulC ulN)))))))))))))) (by decide) ?_
  refine GH.take 1 (v := (.int .i64 50)) rfl (by kernel_rfl) (by kernel_rfl) (by kernel_rfl) (fun _ _ _ h => h) (Ex.move rfl) (ulC (ulC (ulC (ulC (ulC (ulC (ulC (ulC (ulC (ulC (ulC (ulC (ulC (ulC ulN)))))))))))))) (by decide) ?_
  refine GH.take 2 (v := (.agg #[(.int .i64 0), (.int .i64 0), (.slice none 0 0)])) rfl (by kernel_rfl) (by kernel_rfl) (by kernel_rfl) (fun _ _ _ h => h) (Ex.loadA rfl T.ag32 T.sz32 (i := 0) rfl (vs := [(.int .i64 0), (.int .i64 0), (.slice none 0 0)]) rfl rfl) (ulC (ulC (ulC (ulC (ulC (ulC (ulC (ulC (ulC (ulC (ulC (ulC (ulC (ulC ulN)))))))))))))) (by decide) ?_
  refine GH.take 3 (v := (.int .i64 50)) rfl (by kernel_rfl) (by kernel_rfl) (by kernel_rfl) (fun _ _ _ h => h) (Ex.move rfl) (ulC (ulC (ulC (ulC (ulC (ulC (ulC (ulC (ulC (ulC (ulC (ulC (ulC (ulC ulN)))))))))))))) (by decide) ?_
  refine GH.one 4 rfl (by kernel_rfl) (Stp.callR (σ := Unit) (p := fun rz => True) (v := fun rz => (.bool true)) (N := fun rz => []) (vs := [(.agg #[(.int .i64 0), (.int .i64 0), (.slice none 0 0)]), (.int .i64 50), (.agg #[(.int .i64 0), (.int .i64 0), (.slice none 0 0)]), (.int .i64 50)]) rfl rfl T.own20 (by decide) (fun wc hw => same_ 0 0 none 0 0 0 0 none 0 0 50 ([]) ([]) wc (by decide) (LsR.nil _ _) (LsR.nil _ _) (by first | rfl | omega) (by first | rfl | omega) (by first | rfl | (simp only [Nat.add_zero])))) (fun _ => (ulC (ulC (ulC (ulC (ulC (ulC (ulC (ulC (ulC (ulC (ulC (ulC (ulC (ulC ulN))))))))))))))) (fun xq45 hq46 => ?_)
  refine GH.take 5 (v := (.bool false)) rfl (by kernel_rfl) (by kernel_rfl) (by kernel_rfl) (fun _ _ _ h => h) (Ex.cast (Ex.not rfl) rfl) (ulC (ulC (ulC (ulC (ulC (ulC (ulC (ulC (ulC (ulC (ulC (ulC (ulC (ulC ulN)))))))))))))) (by decide) ?_
  refine GH.take 6 (v := (.bool false)) rfl (by kernel_rfl) (by kernel_rfl) (by kernel_rfl) (fun _ _ _ h => h) (Ex.move rfl) (ulC (ulC (ulC (ulC (ulC (ulC (ulC (ulC (ulC (ulC (ulC (ulC (ulC (ulC ulN)))))))))))))) (by decide) ?_
  refine GH.takeG 7 (tj := 72) (v := (.int .u32 0)) rfl rfl rfl (by kernel_rfl) (by kernel_rfl) (by kernel_rfl) (fun _ _ _ h => h) (Ex.move rfl) (ulC (ulC (ulC (ulC (ulC (ulC (ulC (ulC (ulC (ulC (ulC (ulC (ulC (ulC ulN)))))))))))))) (by decide) ?_
  refine GH.takeG 8 (tj := 72) (v := (.int .u32 0)) rfl rfl rfl (by kernel_rfl) (by kernel_rfl) (by kernel_rfl) (fun _ _ _ h => h) (Ex.move rfl) (ulC (ulC (ulC (ulC (ulC (ulC (ulC (ulC (ulC (ulC (ulC (ulC (ulC (ulC ulN)))))))))))))) (by decide) ?_
  refine GH.takeG 9 (tj := 72) (v := (.bool false)) rfl rfl rfl (by kernel_rfl) (by kernel_rfl) (by kernel_rfl) (fun _ _ _ h => h) (Ex.cast (Ex.neq rfl rfl) rfl) (ulC (ulC (ulC (ulC (ulC (ulC (ulC (ulC (ulC (ulC (ulC (ulC (ulC (ulC ulN)))))))))))))) (by decide) ?_
  refine GH.take 10 (v := (.bool false)) rfl (by kernel_rfl) (by kernel_rfl) (by kernel_rfl) (fun _ _ _ h => h) (Ex.pickF rfl rfl) (ulC (ulC (ulC (ulC (ulC (ulC (ulC (ulC (ulC (ulC (ulC (ulC (ulC (ulC ulN)))))))))))))) (by decide) ?_
  refine GH.take 11 (v := (.bool false)) rfl (by kernel_rfl) (by kernel_rfl) (by kernel_rfl) (fun _ _ _ h => h) (Ex.move rfl) (ulC (ulC (ulC (ulC (ulC (ulC (ulC (ulC (ulC (ulC (ulC (ulC (ulC (ulC ulN)))))))))))))) (by decide) ?_
  refine GH.takeG 12 (tj := 77) (v := (.int .i64 52)) rfl rfl rfl (by kernel_rfl) (by kernel_rfl) (by kernel_rfl) (fun _ _ _ h => h) (Ex.move rfl) (ulC (ulC (ulC (ulC (ulC (ulC (ulC (ulC (ulC (ulC (ulC (ulC (ulC (ulC ulN)))))))))))))) (by decide) ?_
  refine GH.takeG 14 (tj := 77) (v := (.int .i64 52)) rfl rfl rfl (by kernel_rfl) (by kernel_rfl) (by kernel_rfl) (fun _ _ _ h => h) (Ex.move rfl) (ulC (ulC (ulC (ulC (ulC (ulC (ulC (ulC (ulC (ulC (ulC (ulC (ulC (ulC ulN)))))))))))))) (by decide) ?_
  refine GH.oneG 13 (tj := 77) rfl rfl rfl (by kernel_rfl) (Stp.callR (σ := Unit) (p := fun rz => True) (v := fun rz => (.int .i64 52)) (N := fun rz => []) (vs := [(.int .i64 52)]) rfl rfl T.own16 (by decide) (fun wc hw => num 52 wc)) (fun _ => (ulC (ulC (ulC (ulC (ulC (ulC (ulC (ulC (ulC (ulC (ulC (ulC (ulC (ulC ulN))))))))))))))) (fun xq47 hq48 => ?_)
  refine GH.takeG 15 (tj := 77) (v := (.bool false)) rfl rfl rfl (by kernel_rfl) (by kernel_rfl) (by kernel_rfl) (fun _ _ _ h => h) (Ex.cast (Ex.neq rfl rfl) rfl) (ulC (ulC (ulC (ulC (ulC (ulC (ulC (ulC (ulC (ulC (ulC (ulC (ulC (ulC ulN)))))))))))))) (by decide) ?_
  refine GH.take 16 (v := (.bool false)) rfl (by kernel_rfl) (by kernel_rfl) (by kernel_rfl) (fun _ _ _ h => h) (Ex.pickF rfl rfl) (ulC (ulC (ulC (ulC (ulC (ulC (ulC (ulC (ulC (ulC (ulC (ulC (ulC (ulC ulN)))))))))))))) (by decide) ?_
  refine GH.take 17 (v := (.bool false)) rfl (by kernel_rfl) (by kernel_rfl) (by kernel_rfl) (fun _ _ _ h => h) (Ex.move rfl) (ulC (ulC (ulC (ulC (ulC (ulC (ulC (ulC (ulC (ulC (ulC (ulC (ulC (ulC ulN)))))))))))))) (by decide) ?_
  refine GH.takeG 18 (tj := 83) (v := (.agg #[(.int .i64 (((W : Nat) : Int))), (.int .i64 (((H : Nat) : Int))), (.slice (some ⟨xq7.2.2.2, 0, none⟩) n (n + 5))])) rfl rfl rfl (by kernel_rfl) (by kernel_rfl) (by kernel_rfl) (fun _ _ _ h => h) (Ex.loadA rfl T.ag32 T.sz32 (i := 7) rfl (vs := [(.int .i64 (((W : Nat) : Int))), (.int .i64 (((H : Nat) : Int))), (.slice (some ⟨xq7.2.2.2, 0, none⟩) n (n + 5))]) rfl rfl) (ulC (ulC (ulC (ulC (ulC (ulC (ulC (ulC (ulC (ulC (ulC (ulC (ulC (ulC ulN)))))))))))))) (by decide) ?_
  refine GH.takeG 21 (tj := 83) (v := (.agg #[(.int .i64 (((W : Nat) : Int))), (.int .i64 (((H : Nat) : Int))), (.slice (some ⟨b, o, none⟩) n cap)])) rfl rfl rfl (by kernel_rfl) (by kernel_rfl) (by kernel_rfl) (fun _ _ _ h => h) (Ex.loadA rfl T.ag32 T.sz32 (i := 13) rfl (vs := [(.int .i64 (((W : Nat) : Int))), (.int .i64 (((H : Nat) : Int))), (.slice (some ⟨b, o, none⟩) n cap)]) rfl rfl) (ulC (ulC (ulC (ulC (ulC (ulC (ulC (ulC (ulC (ulC (ulC (ulC (ulC (ulC ulN)))))))))))))) (by decide) ?_
  refine GH.oneG 19 (tj := 83) rfl rfl rfl (by kernel_rfl) (Stp.callR (σ := Unit) (p := fun rz => True) (v := fun rz => (.int .i64 0)) (N := fun rz => []) (vs := [(.agg #[(.int .i64 (((W : Nat) : Int))), (.int .i64 (((H : Nat) : Int))), (.slice (some ⟨xq7.2.2.2, 0, none⟩) n (n + 5))])]) rfl rfl T.own36 (by decide) (fun wc hw => (by have h := check (((W : Nat) : Int)) (((H : Nat) : Int)) (some ⟨xq7.2.2.2, 0, none⟩) n (n + 5) wc; rw [show chk (((W : Nat) : Int)) (((H : Nat) : Int)) n = 0 from by rw [hn]; exact chk_ok hok] at h; exact h))) (fun _ => (ulC (ulC (ulC (ulC (ulC (ulC (ulC (ulC (ulC (ulC (ulC (ulC (ulC (ulC ulN))))))))))))))) (fun xq49 hq50 => ?_)
  refine GH.oneG 20 (tj := 83) rfl rfl rfl (by kernel_rfl) (Stp.callR (σ := Unit) (p := fun rz => True) (v := fun rz => (.int .i64 0)) (N := fun rz => []) (vs := [(.int .i64 0)]) rfl rfl T.own16 (by decide) (fun wc hw => num 0 wc)) (fun _ => (ulC (ulC (ulC (ulC (ulC (ulC (ulC (ulC (ulC (ulC (ulC (ulC (ulC (ulC ulN))))))))))))))) (fun xq51 hq52 => ?_)
  refine GH.oneG 22 (tj := 83) rfl rfl rfl (by kernel_rfl) (Stp.callR (σ := Unit) (p := fun rz => True) (v := fun rz => (.int .i64 0)) (N := fun rz => []) (vs := [(.agg #[(.int .i64 (((W : Nat) : Int))), (.int .i64 (((H : Nat) : Int))), (.slice (some ⟨b, o, none⟩) n cap)])]) rfl rfl T.own35 (by decide) (fun wc hw => (by have h := ref_check (((W : Nat) : Int)) (((H : Nat) : Int)) (some ⟨b, o, none⟩) n cap wc; rw [show chk (((W : Nat) : Int)) (((H : Nat) : Int)) n = 0 from by rw [hn]; exact chk_ok hok] at h; exact h))) (fun _ => (ulC (ulC (ulC (ulC (ulC (ulC (ulC (ulC (ulC (ulC (ulC (ulC (ulC (ulC ulN))))))))))))))) (fun xq53 hq54 => ?_)
  refine GH.takeG 23 (tj := 83) (v := (.bool false)) rfl rfl rfl (by kernel_rfl) (by kernel_rfl) (by kernel_rfl) (fun _ _ _ h => h) (Ex.cast (Ex.neq rfl rfl) rfl) (ulC (ulC (ulC (ulC (ulC (ulC (ulC (ulC (ulC (ulC (ulC (ulC (ulC (ulC ulN)))))))))))))) (by decide) ?_
  refine GH.take 24 (v := (.bool false)) rfl (by kernel_rfl) (by kernel_rfl) (by kernel_rfl) (fun _ _ _ h => h) (Ex.pickF rfl rfl) (ulC (ulC (ulC (ulC (ulC (ulC (ulC (ulC (ulC (ulC (ulC (ulC (ulC (ulC ulN)))))))))))))) (by decide) ?_
  refine GH.done (by kernel_rfl) ?_
  refine GE.thenN ?_
  refine GC.cond rfl (fun hq55 => by cases hq55) (fun _ => ?_)
  refine GC.skip ?_
  refine GE.thenN ?_
  refine GC.region ?_
  refine GL.val (v := (.pointer (some ⟨bq5, 0, none⟩))) (Ex.move rfl) (by decide) ?_
  refine GL.val (v := (.agg #[(.int .i64 0), (.int .i64 0), (.slice none 0 0)])) (Ex.loadA rfl T.ag32 T.sz32 (i := 1) rfl (vs := [(.int .i64 0), (.int .i64 0), (.slice none 0 0)]) rfl rfl) (by decide) ?_
  refine GL.val (v := (.int .i64 1)) (Ex.move rfl) (by decide) ?_
  refine GL.step (Stp.call (σ := (Nat × Nat × List Value) × (Nat × Nat × List Value)) (p := fun rz => (([(Value.slice none 0 0)]) ++ [(Value.slice none 0 0)] ++ rz.2.2.2 : List Value).length = rz.2.2.1 * 1 ∧ (([(Value.int .i64 0)]) ++ [(Value.int .i64 1)] ++ rz.1.2.2 : List Value).length = rz.1.2.1 * 1) (v := fun rz => (.tuple #[])) (L' := fun rz => [⟨rz.1.1, ([(Value.int .i64 0)]) ++ [(Value.int .i64 1)] ++ rz.1.2.2, 3, true⟩, ⟨rz.2.1, ([(Value.slice none 0 0)]) ++ [(Value.slice none 0 0)] ++ rz.2.2.2, 30, true⟩, ⟨bq5, [(.slice (some ⟨rz.2.1, 0, none⟩) 2 rz.2.2.1), (.slice none 0 0), (.slice none 0 0), (.slice none 0 0), (.slice (some ⟨rz.1.1, 0, none⟩) 2 rz.1.2.1), (.slice none 0 0), (.slice none 0 0), (.slice none 0 0)], 41, true⟩, ⟨bq40, [(.int .i64 0), (.int .i64 0), (.slice none 0 0)], 32, true⟩, ⟨bq37, [(.int .i64 0), (.int .i64 0), (.slice none 0 0)], 32, true⟩, ⟨bq16, [(.int .i64 0), (.int .i64 0), (.slice none 0 0)], 32, true⟩, ⟨bq13, [(.int .i64 0), (.int .i64 0), (.slice none 0 0)], 32, true⟩, ⟨bq9, [(.int .i64 (((W : Nat) : Int))), (.int .i64 (((H : Nat) : Int))), (.slice (some ⟨xq7.2.2.2, 0, none⟩) n (n + 5))], 32, true⟩, ⟨xq7.1.1, [(Value.slice (some ⟨xq7.2.1.1, 0, none⟩) (n + 5) xq7.2.1.2.1)] ++ xq7.1.2.2, 30, true⟩, ⟨xq7.2.1.1, (roomL xs).map u32 ++ xq7.2.1.2.2, 72, true⟩, ⟨xq7.2.2.1.1, [(Value.slice (some ⟨xq7.2.2.2, 0, none⟩) (n + 5) (n + 5))] ++ xq7.2.2.1.2.2, 30, true⟩, ⟨xq7.2.2.2, (roomL xs).map u32, 72, true⟩, ⟨bq6, [(.slice (some ⟨xq7.2.2.1.1, 0, none⟩) 1 xq7.2.2.1.2.1), (.slice (some ⟨xq7.1.1, 0, none⟩) 1 xq7.1.2.1), (.slice none 0 0), (.slice none 0 0), (.slice none 0 0), (.slice none 0 0), (.slice none 0 0), (.slice none 0 0)], 44, true⟩, ⟨bq1, [(.int .i64 (((W : Nat) : Int))), (.int .i64 (((H : Nat) : Int))), (.slice (some ⟨b, o, none⟩) n cap)], 32, true⟩]) (vs := [(.pointer (some ⟨bq5, 0, none⟩)), (.agg #[(.int .i64 0), (.int .i64 0), (.slice none 0 0)]), (.int .i64 1)]) rfl rfl T.own21 (by decide) (fun wc hw => book_p10 w [⟨bq40, [(.int .i64 0), (.int .i64 0), (.slice none 0 0)], 32, true⟩, ⟨bq37, [(.int .i64 0), (.int .i64 0), (.slice none 0 0)], 32, true⟩, ⟨bq16, [(.int .i64 0), (.int .i64 0), (.slice none 0 0)], 32, true⟩, ⟨bq13, [(.int .i64 0), (.int .i64 0), (.slice none 0 0)], 32, true⟩, ⟨bq9, [(.int .i64 (((W : Nat) : Int))), (.int .i64 (((H : Nat) : Int))), (.slice (some ⟨xq7.2.2.2, 0, none⟩) n (n + 5))], 32, true⟩, ⟨xq7.1.1, [(Value.slice (some ⟨xq7.2.1.1, 0, none⟩) (n + 5) xq7.2.1.2.1)] ++ xq7.1.2.2, 30, true⟩, ⟨xq7.2.1.1, (roomL xs).map u32 ++ xq7.2.1.2.2, 72, true⟩, ⟨xq7.2.2.1.1, [(Value.slice (some ⟨xq7.2.2.2, 0, none⟩) (n + 5) (n + 5))] ++ xq7.2.2.1.2.2, 30, true⟩, ⟨xq7.2.2.2, (roomL xs).map u32, 72, true⟩, ⟨bq6, [(.slice (some ⟨xq7.2.2.1.1, 0, none⟩) 1 xq7.2.2.1.2.1), (.slice (some ⟨xq7.1.1, 0, none⟩) 1 xq7.1.2.1), (.slice none 0 0), (.slice none 0 0), (.slice none 0 0), (.slice none 0 0), (.slice none 0 0), (.slice none 0 0)], 44, true⟩, ⟨bq1, [(.int .i64 (((W : Nat) : Int))), (.int .i64 (((H : Nat) : Int))), (.slice (some ⟨b, o, none⟩) n cap)], 32, true⟩] 0 0 bq5 1 1 xq32.2.1 xq32.2.2.1 xq32.1.1 xq32.1.2.1 ([(Value.slice none 0 0)]) xq32.2.2.2 ([(Value.int .i64 0)]) xq32.1.2.2 wc (by first | decide | omega) (by first | rfl | omega) (by first | rfl | omega) hq33.1 hq33.2 (hw.pick (idx := [4, 3, 2, 0, 1, 5, 6, 7, 8, 9, 10, 11, 12, 13]) (by decide) rfl))) (fun xq56 hq57 => ?_)
  refine GL.nil ?_
  refine GE.blockN ?_
  refine GE.thenN ?_
  refine GC.region ?_
  refine GL.val (v := (.int .i64 1)) (Ex.move rfl) (by decide) ?_
  refine GL.val (v := (.int .i64 2)) (Ex.add rfl rfl (Z := 2) (by decide)) (by decide) ?_
  refine GL.val (v := (.int .i64 2)) (Ex.assign rfl) (by decide) ?_
  refine GL.nil ?_
  refine GE.thenN ?_
  refine GE.round ?_
  refine GC.seq ?_
  refine GC.seq ?_
  refine GC.region ?_
  refine GL.val (v := (.int .i64 2)) (Ex.move rfl) (by decide) ?_
  refine GL.val (v := (.bool false)) (Ex.cast (Ex.lss rfl rfl) rfl) (by decide) ?_
  refine GL.nil ?_
  refine GE.thenN ?_
  refine GC.cond rfl (fun hq58 => by cases hq58) (fun _ => ?_)
  refine GC.exit ?_
  refine GE.thenE ?_
  refine GE.thenE ?_
  refine GE.blockE ?_
  refine GE.thenN ?_
  refine GC.seq ?_
  refine GC.region ?_
  refine GL.val (v := (.pointer (some ⟨bq5, 0, none⟩))) (Ex.move rfl) (by decide) ?_
  refine GL.step (Stp.callR (σ := Unit) (p := fun rz => True) (v := fun rz => (.bool true)) (N := fun rz => []) (vs := [(.pointer (some ⟨bq5, 0, none⟩))]) rfl rfl T.own22 (by decide) (fun wc hw => book_hold bq5 2 xq56.2.1 xq56.2.2.1 xq56.1.1 xq56.1.2.1 ([⟨none, 0, 0⟩, ⟨none, 0, 1⟩] : List It) xq56.2.2.2 xq56.1.2.2 wc rfl (by decide) (it_cons (it_nil _) (it_cons (it_nil _) it_all)) (Has.cons (hw.hasOf (i := 2) rfl) (Has.cons (hw.hasOf (i := 1) rfl) (Has.cons (hw.hasOf (i := 0) rfl) (Has.nil _)))))) (fun xq59 hq60 => ?_)
  refine GL.val (v := (.bool true)) (Ex.move rfl) (by decide) ?_
  refine GL.stepG (tj := 97) rfl rfl (Ex.wp (v := (.pointer (some ⟨bq6, 0, none⟩))) (Ex.move rfl) (by decide)) (fun _ _ => ?_)
  refine GL.stepG (tj := 97) rfl rfl (Stp.callR (σ := Unit) (p := fun rz => True) (v := fun rz => (.bool true)) (N := fun rz => []) (vs := [(.pointer (some ⟨bq6, 0, none⟩))]) rfl rfl T.own23 (by decide) (fun wc hw => room_hold1 bq6 xq7.2.2.1.1 xq7.1.1 xq7.2.2.1.2.1 xq7.1.2.1 xq7.2.2.1.2.2 xq7.1.2.2 xq7.2.2.2 xq7.2.1.1 n xq7.2.1.2.1 xs xq7.2.1.2.2 wc ⟨hl.1, hb⟩ (Has.cons (hw.hasOf (i := 12) rfl) (Has.cons (hw.hasOf (i := 10) rfl) (Has.cons (hw.hasOf (i := 8) rfl) (Has.cons (hw.hasOf (i := 11) rfl) (Has.cons (hw.hasOf (i := 9) rfl) (Has.nil _)))))))) (fun xq61 hq62 => ?_)
  refine GL.val (v := (.bool true)) (Ex.pickT rfl rfl) (by decide) ?_
  refine GL.val (v := (.bool true)) (Ex.assign rfl) (by decide) ?_
  refine GL.nil ?_
  refine GE.thenN ?_
  refine GC.ret ?_
  refine GC.ret1 rfl (Rv.tmp rfl) (fun wN HN => ?_)
  exact HN.ret () trivial rfl (List.nil_sublist _) rfl

set_option maxRecDepth 100000 in
set_option maxHeartbeats 1000000 in
theorem mk_zv (w1 h1 s : Int) (W H : Int) (ad : Option Addr) (n cap : Nat) (xs : List Int) (X Y : Int) (w : World) (hnew : sizeB w1 h1 = false) (hl : Lst w ad n xs) (hb : n ≤ 35184372087808) (hc : chk W H n ≠ 0) :
    Calls Try.prog 10 #[(.int .i64 w1), (.int .i64 h1), (.int .u32 s), (.agg #[(.int .i64 W), (.int .i64 H), (.slice ad n cap)]), (.int .i64 X), (.int .i64 Y)] w (Ret w (fun _ : Unit => True) (fun _ => .bool true) (fun _ => [])) := by
  have hx := hl.1
  refine enter (M := None) (L := []) (n := 101) (l := [(0, (.int .i64 w1)), (1, (.int .i64 h1)), (2, (.int .u32 s)), (3, (.agg #[(.int .i64 W), (.int .i64 H), (.slice ad n cap)])), (4, (.int .i64 X)), (5, (.int .i64 Y))]) Try.func10 rfl rfl (Args.cons rfl (Args.cons rfl (Args.cons rfl (Args.cons rfl (Args.cons rfl (Args.cons rfl (Args.nil _))))))) (Hp.start _ _) ?_
  refine GC.seq ?_
  refine GC.region ?_
  refine GL.step (Stp.box (cs := [(.int .i64 W), (.int .i64 H), (.slice ad n cap)]) rfl rfl (by decide)) (fun bq1 _ => ?_)
  refine GL.val (v := (.bool false)) (Ex.assign rfl) (by decide) ?_
  refine GL.nil ?_
  refine GE.thenN ?_
  refine GC.seq ?_
  refine GC.seq ?_
  refine GC.region ?_
  refine GL.step (Stp.callR (σ := Unit) (p := fun rz => True) (v := fun rz => (.bool true)) (N := fun rz => []) (vs := []) rfl rfl T.own13 (by decide) (fun wc hw => known wc)) (fun xq2 hq3 => ?_)
  refine GL.val (v := (.bool false)) (Ex.cast (Ex.not rfl) rfl) (by decide) ?_
  refine GL.nil ?_
  refine GE.thenN ?_
  refine GC.cond rfl (fun hq4 => by cases hq4) (fun _ => ?_)
  refine GC.skip ?_
  refine GE.thenN ?_
  refine GC.seq ?_
  refine GC.region ?_
  refine GL.val (v := (.agg #[(.slice none 0 0), (.slice none 0 0), (.slice none 0 0), (.slice none 0 0), (.slice none 0 0), (.slice none 0 0), (.slice none 0 0), (.slice none 0 0)])) (Ex.build (vs := []) rfl (by first | rfl | kernel_rfl)) (by decide) ?_
  refine GL.step (Stp.box (cs := [(.slice none 0 0), (.slice none 0 0), (.slice none 0 0), (.slice none 0 0), (.slice none 0 0), (.slice none 0 0), (.slice none 0 0), (.slice none 0 0)]) rfl rfl (by decide)) (fun bq5 _ => ?_)
  refine GL.val (v := (.pointer (some ⟨bq5, 0, none⟩))) (Ex.assign rfl) (by decide) ?_
  refine GL.nil ?_
  refine GE.thenN ?_
  refine GC.seq ?_
  refine GC.region ?_
  refine GL.val (v := (.agg #[(.slice none 0 0), (.slice none 0 0), (.slice none 0 0), (.slice none 0 0), (.slice none 0 0), (.slice none 0 0), (.slice none 0 0), (.slice none 0 0)])) (Ex.build (vs := []) rfl (by first | rfl | kernel_rfl)) (by decide) ?_
  refine GL.step (Stp.box (cs := [(.slice none 0 0), (.slice none 0 0), (.slice none 0 0), (.slice none 0 0), (.slice none 0 0), (.slice none 0 0), (.slice none 0 0), (.slice none 0 0)]) rfl rfl (by decide)) (fun bq6 _ => ?_)
  refine GL.val (v := (.pointer (some ⟨bq6, 0, none⟩))) (Ex.assign rfl) (by decide) ?_
  refine GL.nil ?_
  refine GE.thenN ?_
  refine GC.seq ?_
  refine GC.region ?_
  refine GL.val (v := (.pointer (some ⟨bq6, 0, none⟩))) (Ex.move rfl) (by decide) ?_
  refine GL.val (v := (.agg #[(.int .i64 W), (.int .i64 H), (.slice ad n cap)])) (Ex.loadA rfl T.ag32 T.sz32 (i := 2) rfl (vs := [(.int .i64 W), (.int .i64 H), (.slice ad n cap)]) rfl rfl) (by decide) ?_
  refine GL.step (Stp.call (σ := (Nat × Nat × List Value) × (Nat × Nat × List Value) × (Nat × Nat × List Value) × Nat) (p := fun rz => ([(Value.slice (some ⟨rz.2.2.2, 0, none⟩) (n + 5) (n + 5))] ++ rz.2.2.1.2.2 : List Value).length = rz.2.2.1.2.1 * 1 ∧ ([(Value.slice (some ⟨rz.2.1.1, 0, none⟩) (n + 5) rz.2.1.2.1)] ++ rz.1.2.2 : List Value).length = rz.1.2.1 * 1) (v := fun rz => (.agg #[(.int .i64 W), (.int .i64 H), (.slice (some ⟨rz.2.2.2, 0, none⟩) n (n + 5))])) (L' := fun rz => [⟨rz.1.1, [(Value.slice (some ⟨rz.2.1.1, 0, none⟩) (n + 5) rz.2.1.2.1)] ++ rz.1.2.2, 30, true⟩, ⟨rz.2.1.1, (roomL xs).map u32 ++ rz.2.1.2.2, 72, true⟩, ⟨rz.2.2.1.1, [(Value.slice (some ⟨rz.2.2.2, 0, none⟩) (n + 5) (n + 5))] ++ rz.2.2.1.2.2, 30, true⟩, ⟨rz.2.2.2, (roomL xs).map u32, 72, true⟩, ⟨bq6, [(.slice (some ⟨rz.2.2.1.1, 0, none⟩) 1 rz.2.2.1.2.1), (.slice (some ⟨rz.1.1, 0, none⟩) 1 rz.1.2.1), (.slice none 0 0), (.slice none 0 0), (.slice none 0 0), (.slice none 0 0), (.slice none 0 0), (.slice none 0 0)], 44, true⟩, ⟨bq5, [(.slice none 0 0), (.slice none 0 0), (.slice none 0 0), (.slice none 0 0), (.slice none 0 0), (.slice none 0 0), (.slice none 0 0), (.slice none 0 0)], 41, true⟩, ⟨bq1, [(.int .i64 W), (.int .i64 H), (.slice ad n cap)], 32, true⟩]) (vs := [(.pointer (some ⟨bq6, 0, none⟩)), (.agg #[(.int .i64 W), (.int .i64 H), (.slice ad n cap)])]) rfl rfl T.own17 (by decide) (fun wc hw => room_p0 w [⟨bq5, [(.slice none 0 0), (.slice none 0 0), (.slice none 0 0), (.slice none 0 0), (.slice none 0 0), (.slice none 0 0), (.slice none 0 0), (.slice none 0 0)], 41, true⟩, ⟨bq1, [(.int .i64 W), (.int .i64 H), (.slice ad n cap)], 32, true⟩] W H bq6 n cap ad xs wc hl hb (hw.pick (idx := [0, 1, 2]) (by decide) rfl))) (fun xq7 hq8 => ?_)
  refine GL.step (Stp.alloc T.zr32 (by decide)) (fun bq9 _ => ?_)
  refine GL.step (Stp.storeL (i := 0) (L1 := [⟨bq9, [(.int .i64 W), (.int .i64 H), (.slice (some ⟨xq7.2.2.2, 0, none⟩) n (n + 5))], 32, true⟩, ⟨xq7.1.1, [(Value.slice (some ⟨xq7.2.1.1, 0, none⟩) (n + 5) xq7.2.1.2.1)] ++ xq7.1.2.2, 30, true⟩, ⟨xq7.2.1.1, (roomL xs).map u32 ++ xq7.2.1.2.2, 72, true⟩, ⟨xq7.2.2.1.1, [(Value.slice (some ⟨xq7.2.2.2, 0, none⟩) (n + 5) (n + 5))] ++ xq7.2.2.1.2.2, 30, true⟩, ⟨xq7.2.2.2, (roomL xs).map u32, 72, true⟩, ⟨bq6, [(.slice (some ⟨xq7.2.2.1.1, 0, none⟩) 1 xq7.2.2.1.2.1), (.slice (some ⟨xq7.1.1, 0, none⟩) 1 xq7.1.2.1), (.slice none 0 0), (.slice none 0 0), (.slice none 0 0), (.slice none 0 0), (.slice none 0 0), (.slice none 0 0)], 44, true⟩, ⟨bq5, [(.slice none 0 0), (.slice none 0 0), (.slice none 0 0), (.slice none 0 0), (.slice none 0 0), (.slice none 0 0), (.slice none 0 0), (.slice none 0 0)], 41, true⟩, ⟨bq1, [(.int .i64 W), (.int .i64 H), (.slice ad n cap)], 32, true⟩]) rfl rfl rfl T.sz32 rfl rfl rfl rfl) (fun _ _ => ?_)
  refine GL.nil ?_
  refine GE.thenN ?_
  refine GC.seq ?_
  refine GC.seq ?_
  refine GC.region ?_
  refine GL.val (v := (.int .i64 0)) (Ex.assign rfl) (by decide) ?_
  refine GL.nil ?_
  refine GE.thenN ?_
  refine GC.block ?_
  refine GC.unroll 3 ?_
  refine GE.round ?_
  refine GC.seq ?_
  refine GC.seq ?_
  refine GC.region ?_
  refine GL.val (v := (.int .i64 0)) (Ex.move rfl) (by decide) ?_
  refine GL.val (v := (.bool true)) (Ex.cast (Ex.lss rfl rfl) rfl) (by decide) ?_
  refine GL.nil ?_
  refine GE.thenN ?_
  refine GC.cond rfl (fun _ => ?_) (fun hq10 => by cases hq10)
  refine GC.skip ?_
  refine GE.thenN ?_
  refine GC.seq ?_
  refine GC.block ?_
  refine GC.seq ?_
  refine GC.region ?_
  refine GL.val (v := (.int .i64 w1)) (Ex.move rfl) (by decide) ?_
  refine GL.val (v := (.int .i64 h1)) (Ex.move rfl) (by decide) ?_
  refine GL.val (v := (.int .u32 s)) (Ex.move rfl) (by decide) ?_
  refine GL.step (Stp.callR (σ := Unit) (p := fun rz => True) (v := fun rz => (.tuple #[(.agg #[(.int .i64 0), (.int .i64 0), (.slice none 0 0)]), (.int .i64 50)])) (N := fun rz => []) (vs := [(.int .i64 w1), (.int .i64 h1), (.int .u32 s)]) rfl rfl T.own37 (by decide) (fun wc hw => new_inv w1 h1 s wc hnew)) (fun xq11 hq12 => ?_)
  refine GL.val (v := (.tuple #[(.agg #[(.int .i64 0), (.int .i64 0), (.slice none 0 0)]), (.int .i64 50)])) (Ex.move rfl) (by decide) ?_
  refine GL.val (v := (.agg #[(.int .i64 0), (.int .i64 0), (.slice none 0 0)])) (Ex.extract rfl rfl) (by decide) ?_
  refine GL.val (v := (.int .i64 50)) (Ex.extract rfl rfl) (by decide) ?_
  refine GL.step (Stp.alloc T.zr32 (by decide)) (fun bq13 _ => ?_)
  refine GL.step (Stp.storeL (i := 0) (L1 := [⟨bq13, [(.int .i64 0), (.int .i64 0), (.slice none 0 0)], 32, true⟩, ⟨bq9, [(.int .i64 W), (.int .i64 H), (.slice (some ⟨xq7.2.2.2, 0, none⟩) n (n + 5))], 32, true⟩, ⟨xq7.1.1, [(Value.slice (some ⟨xq7.2.1.1, 0, none⟩) (n + 5) xq7.2.1.2.1)] ++ xq7.1.2.2, 30, true⟩, ⟨xq7.2.1.1, (roomL xs).map u32 ++ xq7.2.1.2.2, 72, true⟩, ⟨xq7.2.2.1.1, [(Value.slice (some ⟨xq7.2.2.2, 0, none⟩) (n + 5) (n + 5))] ++ xq7.2.2.1.2.2, 30, true⟩, ⟨xq7.2.2.2, (roomL xs).map u32, 72, true⟩, ⟨bq6, [(.slice (some ⟨xq7.2.2.1.1, 0, none⟩) 1 xq7.2.2.1.2.1), (.slice (some ⟨xq7.1.1, 0, none⟩) 1 xq7.1.2.1), (.slice none 0 0), (.slice none 0 0), (.slice none 0 0), (.slice none 0 0), (.slice none 0 0), (.slice none 0 0)], 44, true⟩, ⟨bq5, [(.slice none 0 0), (.slice none 0 0), (.slice none 0 0), (.slice none 0 0), (.slice none 0 0), (.slice none 0 0), (.slice none 0 0), (.slice none 0 0)], 41, true⟩, ⟨bq1, [(.int .i64 W), (.int .i64 H), (.slice ad n cap)], 32, true⟩]) rfl rfl rfl T.sz32 rfl rfl rfl rfl) (fun _ _ => ?_)
  refine GL.val (v := (.int .i64 50)) (Ex.assign rfl) (by decide) ?_
  refine GL.nil ?_
  refine GE.thenN ?_
  refine GC.seq ?_
  refine GC.region ?_
  refine GL.val (v := (.int .i64 w1)) (Ex.move rfl) (by decide) ?_
  refine GL.val (v := (.int .i64 h1)) (Ex.move rfl) (by decide) ?_
  refine GL.val (v := (.int .u32 s)) (Ex.move rfl) (by decide) ?_
  refine GL.step (Stp.callR (σ := Unit) (p := fun rz => True) (v := fun rz => (.tuple #[(.agg #[(.int .i64 0), (.int .i64 0), (.slice none 0 0)]), (.int .i64 50)])) (N := fun rz => []) (vs := [(.int .i64 w1), (.int .i64 h1), (.int .u32 s)]) rfl rfl T.own38 (by decide) (fun wc hw => ref_new_bad w1 h1 s wc hnew)) (fun xq14 hq15 => ?_)
  refine GL.val (v := (.tuple #[(.agg #[(.int .i64 0), (.int .i64 0), (.slice none 0 0)]), (.int .i64 50)])) (Ex.move rfl) (by decide) ?_
  refine GL.val (v := (.agg #[(.int .i64 0), (.int .i64 0), (.slice none 0 0)])) (Ex.extract rfl rfl) (by decide) ?_
  refine GL.val (v := (.int .i64 50)) (Ex.extract rfl rfl) (by decide) ?_
  refine GL.step (Stp.alloc T.zr32 (by decide)) (fun bq16 _ => ?_)
  refine GL.step (Stp.storeL (i := 0) (L1 := [⟨bq16, [(.int .i64 0), (.int .i64 0), (.slice none 0 0)], 32, true⟩, ⟨bq13, [(.int .i64 0), (.int .i64 0), (.slice none 0 0)], 32, true⟩, ⟨bq9, [(.int .i64 W), (.int .i64 H), (.slice (some ⟨xq7.2.2.2, 0, none⟩) n (n + 5))], 32, true⟩, ⟨xq7.1.1, [(Value.slice (some ⟨xq7.2.1.1, 0, none⟩) (n + 5) xq7.2.1.2.1)] ++ xq7.1.2.2, 30, true⟩, ⟨xq7.2.1.1, (roomL xs).map u32 ++ xq7.2.1.2.2, 72, true⟩, ⟨xq7.2.2.1.1, [(Value.slice (some ⟨xq7.2.2.2, 0, none⟩) (n + 5) (n + 5))] ++ xq7.2.2.1.2.2, 30, true⟩, ⟨xq7.2.2.2, (roomL xs).map u32, 72, true⟩, ⟨bq6, [(.slice (some ⟨xq7.2.2.1.1, 0, none⟩) 1 xq7.2.2.1.2.1), (.slice (some ⟨xq7.1.1, 0, none⟩) 1 xq7.1.2.1), (.slice none 0 0), (.slice none 0 0), (.slice none 0 0), (.slice none 0 0), (.slice none 0 0), (.slice none 0 0)], 44, true⟩, ⟨bq5, [(.slice none 0 0), (.slice none 0 0), (.slice none 0 0), (.slice none 0 0), (.slice none 0 0), (.slice none 0 0), (.slice none 0 0), (.slice none 0 0)], 41, true⟩, ⟨bq1, [(.int .i64 W), (.int .i64 H), (.slice ad n cap)], 32, true⟩]) rfl rfl rfl T.sz32 rfl rfl rfl rfl) (fun _ _ => ?_)
  refine GL.val (v := (.int .i64 50)) (Ex.assign rfl) (by decide) ?_
  refine GL.nil ?_
  refine GE.thenN ?_
  refine GC.seq ?_
  refine GC.region ?_
  refine GL.val (v := (.agg #[(.int .i64 W), (.int .i64 H), (.slice (some ⟨xq7.2.2.2, 0, none⟩) n (n + 5))])) (Ex.loadA rfl T.ag32 T.sz32 (i := 2) rfl (vs := [(.int .i64 W), (.int .i64 H), (.slice (some ⟨xq7.2.2.2, 0, none⟩) n (n + 5))]) rfl rfl) (by decide) ?_
  refine GL.val (v := (.int .i64 X)) (Ex.move rfl) (by decide) ?_
  refine GL.val (v := (.int .i64 Y)) (Ex.move rfl) (by decide) ?_
  refine GL.step (Stp.callR (σ := Unit) (p := fun rz => True) (v := fun rz => (.tuple #[(.int .u32 0), (.int .i64 ((chk W H n)))])) (N := fun rz => []) (vs := [(.agg #[(.int .i64 W), (.int .i64 H), (.slice (some ⟨xq7.2.2.2, 0, none⟩) n (n + 5))]), (.int .i64 X), (.int .i64 Y)]) rfl rfl T.own39 (by decide) (fun wc hw => get_inv W H (some ⟨xq7.2.2.2, 0, none⟩) n (n + 5) X Y wc hc)) (fun xq17 hq18 => ?_)
  refine GL.val (v := (.tuple #[(.int .u32 0), (.int .i64 ((chk W H n)))])) (Ex.move rfl) (by decide) ?_
  refine GL.val (v := (.int .u32 0)) (Ex.extract rfl rfl) (by decide) ?_
  refine GL.val (v := (.int .i64 ((chk W H n)))) (Ex.extract rfl rfl) (by decide) ?_
  refine GL.val (v := (.int .u32 0)) (Ex.assign rfl) (by decide) ?_
  refine GL.val (v := (.int .i64 ((chk W H n)))) (Ex.assign rfl) (by decide) ?_
  refine GL.nil ?_
  refine GE.thenN ?_
  refine GC.seq ?_
  refine GC.region ?_
  refine GL.val (v := (.agg #[(.int .i64 W), (.int .i64 H), (.slice ad n cap)])) (Ex.loadA rfl T.ag32 T.sz32 (i := 9) rfl (vs := [(.int .i64 W), (.int .i64 H), (.slice ad n cap)]) rfl rfl) (by decide) ?_
  refine GL.val (v := (.int .i64 X)) (Ex.move rfl) (by decide) ?_
  refine GL.val (v := (.int .i64 Y)) (Ex.move rfl) (by decide) ?_
  refine GL.step (Stp.callR (σ := Unit) (p := fun rz => True) (v := fun rz => (.tuple #[(.int .u32 0), (.int .i64 ((chk W H n)))])) (N := fun rz => []) (vs := [(.agg #[(.int .i64 W), (.int .i64 H), (.slice ad n cap)]), (.int .i64 X), (.int .i64 Y)]) rfl rfl T.own40 (by decide) (fun wc hw => ref_get_inv W H ad n cap X Y wc hc)) (fun xq19 hq20 => ?_)
  refine GL.val (v := (.tuple #[(.int .u32 0), (.int .i64 ((chk W H n)))])) (Ex.move rfl) (by decide) ?_
  refine GL.val (v := (.int .u32 0)) (Ex.extract rfl rfl) (by decide) ?_
  refine GL.val (v := (.int .i64 ((chk W H n)))) (Ex.extract rfl rfl) (by decide) ?_
  refine GL.val (v := (.int .u32 0)) (Ex.assign rfl) (by decide) ?_
  refine GL.val (v := (.int .i64 ((chk W H n)))) (Ex.assign rfl) (by decide) ?_
  refine GL.nil ?_
  refine GE.thenN ?_
  refine GC.seq ?_
  refine GC.seq ?_
  refine GC.draw [⟨bq16, [(.int .i64 0), (.int .i64 0), (.slice none 0 0)], 32, true⟩, ⟨bq13, [(.int .i64 0), (.int .i64 0), (.slice none 0 0)], 32, true⟩, ⟨bq9, [(.int .i64 W), (.int .i64 H), (.slice (some ⟨xq7.2.2.2, 0, none⟩) n (n + 5))], 32, true⟩, ⟨xq7.1.1, [(Value.slice (some ⟨xq7.2.1.1, 0, none⟩) (n + 5) xq7.2.1.2.1)] ++ xq7.1.2.2, 30, true⟩, ⟨xq7.2.1.1, (roomL xs).map u32 ++ xq7.2.1.2.2, 72, true⟩, ⟨xq7.2.2.1.1, [(Value.slice (some ⟨xq7.2.2.2, 0, none⟩) (n + 5) (n + 5))] ++ xq7.2.2.1.2.2, 30, true⟩, ⟨xq7.2.2.2, (roomL xs).map u32, 72, true⟩, ⟨bq6, [(.slice (some ⟨xq7.2.2.1.1, 0, none⟩) 1 xq7.2.2.1.2.1), (.slice (some ⟨xq7.1.1, 0, none⟩) 1 xq7.1.2.1), (.slice none 0 0), (.slice none 0 0), (.slice none 0 0), (.slice none 0 0), (.slice none 0 0), (.slice none 0 0)], 44, true⟩, ⟨bq5, [(.slice none 0 0), (.slice none 0 0), (.slice none 0 0), (.slice none 0 0), (.slice none 0 0), (.slice none 0 0), (.slice none 0 0), (.slice none 0 0)], 41, true⟩, ⟨bq1, [(.int .i64 W), (.int .i64 H), (.slice ad n cap)], 32, true⟩] T.mixed (fuel := 25) rfl rfl ?_
  refine GH.take 0 (v := (.agg #[(.int .i64 0), (.int .i64 0), (.slice none 0 0)])) rfl (by kernel_rfl) (by kernel_rfl) (by kernel_rfl) (fun _ _ _ h => h) (Ex.loadA rfl T.ag32 T.sz32 (i := 1) rfl (vs := [(.int .i64 0), (.int .i64 0), (.slice none 0 0)]) rfl rfl) (ulC (ulC (ulC (ulC (ulC (ulC (ulC (ulC (ulC (ulC ulN)))))))))) (by decide) ?_
  refine GH.take 1 (v := (.int .i64 50)) rfl (by kernel_rfl) (by kernel_rfl) (by kernel_rfl) (fun _ _ _ h => h) (Ex.move rfl) (ulC (ulC (ulC (ulC (ulC (ulC (ulC (ulC (ulC (ulC ulN)))))))))) (by decide) ?_
  refine GH.take 2 (v := (.agg #[(.int .i64 0), (.int .i64 0), (.slice none 0 0)])) rfl (by kernel_rfl) (by kernel_rfl) (by kernel_rfl) (fun _ _ _ h => h) (Ex.loadA rfl T.ag32 T.sz32 (i := 0) rfl (vs := [(.int .i64 0), (.int .i64 0), (.slice none 0 0)]) rfl rfl) (ulC (ulC (ulC (ulC (ulC (ulC (ulC (ulC (ulC (ulC ulN)))))))))) (by decide) ?_
  refine GH.take 3 (v := (.int .i64 50)) rfl (by kernel_rfl) (by kernel_rfl) (by kernel_rfl) (fun _ _ _ h => h) (Ex.move rfl) (ulC (ulC (ulC (ulC (ulC (ulC (ulC (ulC (ulC (ulC ulN)))))))))) (by decide) ?_
  refine GH.one 4 rfl (by kernel_rfl) (Stp.callR (σ := Unit) (p := fun rz => True) (v := fun rz => (.bool true)) (N := fun rz => []) (vs := [(.agg #[(.int .i64 0), (.int .i64 0), (.slice none 0 0)]), (.int .i64 50), (.agg #[(.int .i64 0), (.int .i64 0), (.slice none 0 0)]), (.int .i64 50)]) rfl rfl T.own20 (by decide) (fun wc hw => same_ 0 0 none 0 0 0 0 none 0 0 50 ([]) ([]) wc (by decide) (LsR.nil _ _) (LsR.nil _ _) (by first | rfl | omega) (by first | rfl | omega) (by first | rfl | (simp only [Nat.add_zero])))) (fun _ => (ulC (ulC (ulC (ulC (ulC (ulC (ulC (ulC (ulC (ulC ulN))))))))))) (fun xq21 hq22 => ?_)
  refine GH.take 5 (v := (.bool false)) rfl (by kernel_rfl) (by kernel_rfl) (by kernel_rfl) (fun _ _ _ h => h) (Ex.cast (Ex.not rfl) rfl) (ulC (ulC (ulC (ulC (ulC (ulC (ulC (ulC (ulC (ulC ulN)))))))))) (by decide) ?_
  refine GH.take 6 (v := (.bool false)) rfl (by kernel_rfl) (by kernel_rfl) (by kernel_rfl) (fun _ _ _ h => h) (Ex.move rfl) (ulC (ulC (ulC (ulC (ulC (ulC (ulC (ulC (ulC (ulC ulN)))))))))) (by decide) ?_
  refine GH.takeG 7 (tj := 72) (v := (.int .u32 0)) rfl rfl rfl (by kernel_rfl) (by kernel_rfl) (by kernel_rfl) (fun _ _ _ h => h) (Ex.move rfl) (ulC (ulC (ulC (ulC (ulC (ulC (ulC (ulC (ulC (ulC ulN)))))))))) (by decide) ?_
  refine GH.takeG 8 (tj := 72) (v := (.int .u32 0)) rfl rfl rfl (by kernel_rfl) (by kernel_rfl) (by kernel_rfl) (fun _ _ _ h => h) (Ex.move rfl) (ulC (ulC (ulC (ulC (ulC (ulC (ulC (ulC (ulC (ulC ulN)))))))))) (by decide) ?_
  refine GH.takeG 9 (tj := 72) (v := (.bool false)) rfl rfl rfl (by kernel_rfl) (by kernel_rfl) (by kernel_rfl) (fun _ _ _ h => h) (Ex.cast (Ex.neq rfl rfl) rfl) (ulC (ulC (ulC (ulC (ulC (ulC (ulC (ulC (ulC (ulC ulN)))))))))) (by decide) ?_
  refine GH.take 10 (v := (.bool false)) rfl (by kernel_rfl) (by kernel_rfl) (by kernel_rfl) (fun _ _ _ h => h) (Ex.pickF rfl rfl) (ulC (ulC (ulC (ulC (ulC (ulC (ulC (ulC (ulC (ulC ulN)))))))))) (by decide) ?_
  refine GH.take 11 (v := (.bool false)) rfl (by kernel_rfl) (by kernel_rfl) (by kernel_rfl) (fun _ _ _ h => h) (Ex.move rfl) (ulC (ulC (ulC (ulC (ulC (ulC (ulC (ulC (ulC (ulC ulN)))))))))) (by decide) ?_
  refine GH.takeG 12 (tj := 77) (v := (.int .i64 ((chk W H n)))) rfl rfl rfl (by kernel_rfl) (by kernel_rfl) (by kernel_rfl) (fun _ _ _ h => h) (Ex.move rfl) (ulC (ulC (ulC (ulC (ulC (ulC (ulC (ulC (ulC (ulC ulN)))))))))) (by decide) ?_
  refine GH.takeG 14 (tj := 77) (v := (.int .i64 ((chk W H n)))) rfl rfl rfl (by kernel_rfl) (by kernel_rfl) (by kernel_rfl) (fun _ _ _ h => h) (Ex.move rfl) (ulC (ulC (ulC (ulC (ulC (ulC (ulC (ulC (ulC (ulC ulN)))))))))) (by decide) ?_
  refine GH.oneG 13 (tj := 77) rfl rfl rfl (by kernel_rfl) (Stp.callR (σ := Unit) (p := fun rz => True) (v := fun rz => (.int .i64 ((chk W H n)))) (N := fun rz => []) (vs := [(.int .i64 ((chk W H n)))]) rfl rfl T.own16 (by decide) (fun wc hw => num ((chk W H n)) wc)) (fun _ => (ulC (ulC (ulC (ulC (ulC (ulC (ulC (ulC (ulC (ulC ulN))))))))))) (fun xq23 hq24 => ?_)
  refine GH.takeG 15 (tj := 77) (v := (.bool false)) rfl rfl rfl (by kernel_rfl) (by kernel_rfl) (by kernel_rfl) (fun _ _ _ h => h) (Ex.cast (Ex.neq rfl rfl) (congrArg Value.bool (decide_eq_false (by simp)))) (ulC (ulC (ulC (ulC (ulC (ulC (ulC (ulC (ulC (ulC ulN)))))))))) (by decide) ?_
  refine GH.take 16 (v := (.bool false)) rfl (by kernel_rfl) (by kernel_rfl) (by kernel_rfl) (fun _ _ _ h => h) (Ex.pickF rfl rfl) (ulC (ulC (ulC (ulC (ulC (ulC (ulC (ulC (ulC (ulC ulN)))))))))) (by decide) ?_
  refine GH.take 17 (v := (.bool false)) rfl (by kernel_rfl) (by kernel_rfl) (by kernel_rfl) (fun _ _ _ h => h) (Ex.move rfl) (ulC (ulC (ulC (ulC (ulC (ulC (ulC (ulC (ulC (ulC ulN)))))))))) (by decide) ?_
  refine GH.takeG 18 (tj := 83) (v := (.agg #[(.int .i64 W), (.int .i64 H), (.slice (some ⟨xq7.2.2.2, 0, none⟩) n (n + 5))])) rfl rfl rfl (by kernel_rfl) (by kernel_rfl) (by kernel_rfl) (fun _ _ _ h => h) (Ex.loadA rfl T.ag32 T.sz32 (i := 2) rfl (vs := [(.int .i64 W), (.int .i64 H), (.slice (some ⟨xq7.2.2.2, 0, none⟩) n (n + 5))]) rfl rfl) (ulC (ulC (ulC (ulC (ulC (ulC (ulC (ulC (ulC (ulC ulN)))))))))) (by decide) ?_
  refine GH.takeG 21 (tj := 83) (v := (.agg #[(.int .i64 W), (.int .i64 H), (.slice ad n cap)])) rfl rfl rfl (by kernel_rfl) (by kernel_rfl) (by kernel_rfl) (fun _ _ _ h => h) (Ex.loadA rfl T.ag32 T.sz32 (i := 9) rfl (vs := [(.int .i64 W), (.int .i64 H), (.slice ad n cap)]) rfl rfl) (ulC (ulC (ulC (ulC (ulC (ulC (ulC (ulC (ulC (ulC ulN)))))))))) (by decide) ?_
  refine GH.oneG 19 (tj := 83) rfl rfl rfl (by kernel_rfl) (Stp.callR (σ := Unit) (p := fun rz => True) (v := fun rz => (.int .i64 (chk W H n))) (N := fun rz => []) (vs := [(.agg #[(.int .i64 W), (.int .i64 H), (.slice (some ⟨xq7.2.2.2, 0, none⟩) n (n + 5))])]) rfl rfl T.own36 (by decide) (fun wc hw => check W H (some ⟨xq7.2.2.2, 0, none⟩) n (n + 5) wc)) (fun _ => (ulC (ulC (ulC (ulC (ulC (ulC (ulC (ulC (ulC (ulC ulN))))))))))) (fun xq25 hq26 => ?_)
  refine GH.oneG 20 (tj := 83) rfl rfl rfl (by kernel_rfl) (Stp.callR (σ := Unit) (p := fun rz => True) (v := fun rz => (.int .i64 (chk W H n))) (N := fun rz => []) (vs := [(.int .i64 (chk W H n))]) rfl rfl T.own16 (by decide) (fun wc hw => num (chk W H n) wc)) (fun _ => (ulC (ulC (ulC (ulC (ulC (ulC (ulC (ulC (ulC (ulC ulN))))))))))) (fun xq27 hq28 => ?_)
  refine GH.oneG 22 (tj := 83) rfl rfl rfl (by kernel_rfl) (Stp.callR (σ := Unit) (p := fun rz => True) (v := fun rz => (.int .i64 (chk W H n))) (N := fun rz => []) (vs := [(.agg #[(.int .i64 W), (.int .i64 H), (.slice ad n cap)])]) rfl rfl T.own35 (by decide) (fun wc hw => ref_check W H ad n cap wc)) (fun _ => (ulC (ulC (ulC (ulC (ulC (ulC (ulC (ulC (ulC (ulC ulN))))))))))) (fun xq29 hq30 => ?_)
  refine GH.takeG 23 (tj := 83) (v := (.bool false)) rfl rfl rfl (by kernel_rfl) (by kernel_rfl) (by kernel_rfl) (fun _ _ _ h => h) (Ex.cast (Ex.neq rfl rfl) (congrArg Value.bool (decide_eq_false (by simp)))) (ulC (ulC (ulC (ulC (ulC (ulC (ulC (ulC (ulC (ulC ulN)))))))))) (by decide) ?_
  refine GH.take 24 (v := (.bool false)) rfl (by kernel_rfl) (by kernel_rfl) (by kernel_rfl) (fun _ _ _ h => h) (Ex.pickF rfl rfl) (ulC (ulC (ulC (ulC (ulC (ulC (ulC (ulC (ulC (ulC ulN)))))))))) (by decide) ?_
  refine GH.done (by kernel_rfl) ?_
  refine GE.thenN ?_
  refine GC.cond rfl (fun hq31 => by cases hq31) (fun _ => ?_)
  refine GC.skip ?_
  refine GE.thenN ?_
  refine GC.region ?_
  refine GL.val (v := (.pointer (some ⟨bq5, 0, none⟩))) (Ex.move rfl) (by decide) ?_
  refine GL.val (v := (.agg #[(.int .i64 0), (.int .i64 0), (.slice none 0 0)])) (Ex.loadA rfl T.ag32 T.sz32 (i := 1) rfl (vs := [(.int .i64 0), (.int .i64 0), (.slice none 0 0)]) rfl rfl) (by decide) ?_
  refine GL.val (v := (.int .i64 0)) (Ex.move rfl) (by decide) ?_
  refine GL.step (Stp.call (σ := (Nat × Nat × List Value) × (Nat × Nat × List Value)) (p := fun rz => ([(Value.slice none 0 0)] ++ rz.2.2.2 : List Value).length = rz.2.2.1 * 1 ∧ ([(Value.int .i64 0)] ++ rz.1.2.2 : List Value).length = rz.1.2.1 * 1) (v := fun rz => (.tuple #[])) (L' := fun rz => [⟨rz.1.1, [(Value.int .i64 0)] ++ rz.1.2.2, 3, true⟩, ⟨rz.2.1, [(Value.slice none 0 0)] ++ rz.2.2.2, 30, true⟩, ⟨bq5, [(.slice (some ⟨rz.2.1, 0, none⟩) 1 rz.2.2.1), (.slice none 0 0), (.slice none 0 0), (.slice none 0 0), (.slice (some ⟨rz.1.1, 0, none⟩) 1 rz.1.2.1), (.slice none 0 0), (.slice none 0 0), (.slice none 0 0)], 41, true⟩, ⟨bq16, [(.int .i64 0), (.int .i64 0), (.slice none 0 0)], 32, true⟩, ⟨bq13, [(.int .i64 0), (.int .i64 0), (.slice none 0 0)], 32, true⟩, ⟨bq9, [(.int .i64 W), (.int .i64 H), (.slice (some ⟨xq7.2.2.2, 0, none⟩) n (n + 5))], 32, true⟩, ⟨xq7.1.1, [(Value.slice (some ⟨xq7.2.1.1, 0, none⟩) (n + 5) xq7.2.1.2.1)] ++ xq7.1.2.2, 30, true⟩, ⟨xq7.2.1.1, (roomL xs).map u32 ++ xq7.2.1.2.2, 72, true⟩, ⟨xq7.2.2.1.1, [(Value.slice (some ⟨xq7.2.2.2, 0, none⟩) (n + 5) (n + 5))] ++ xq7.2.2.1.2.2, 30, true⟩, ⟨xq7.2.2.2, (roomL xs).map u32, 72, true⟩, ⟨bq6, [(.slice (some ⟨xq7.2.2.1.1, 0, none⟩) 1 xq7.2.2.1.2.1), (.slice (some ⟨xq7.1.1, 0, none⟩) 1 xq7.1.2.1), (.slice none 0 0), (.slice none 0 0), (.slice none 0 0), (.slice none 0 0), (.slice none 0 0), (.slice none 0 0)], 44, true⟩, ⟨bq1, [(.int .i64 W), (.int .i64 H), (.slice ad n cap)], 32, true⟩]) (vs := [(.pointer (some ⟨bq5, 0, none⟩)), (.agg #[(.int .i64 0), (.int .i64 0), (.slice none 0 0)]), (.int .i64 0)]) rfl rfl T.own21 (by decide) (fun wc hw => book_p00 w [⟨bq16, [(.int .i64 0), (.int .i64 0), (.slice none 0 0)], 32, true⟩, ⟨bq13, [(.int .i64 0), (.int .i64 0), (.slice none 0 0)], 32, true⟩, ⟨bq9, [(.int .i64 W), (.int .i64 H), (.slice (some ⟨xq7.2.2.2, 0, none⟩) n (n + 5))], 32, true⟩, ⟨xq7.1.1, [(Value.slice (some ⟨xq7.2.1.1, 0, none⟩) (n + 5) xq7.2.1.2.1)] ++ xq7.1.2.2, 30, true⟩, ⟨xq7.2.1.1, (roomL xs).map u32 ++ xq7.2.1.2.2, 72, true⟩, ⟨xq7.2.2.1.1, [(Value.slice (some ⟨xq7.2.2.2, 0, none⟩) (n + 5) (n + 5))] ++ xq7.2.2.1.2.2, 30, true⟩, ⟨xq7.2.2.2, (roomL xs).map u32, 72, true⟩, ⟨bq6, [(.slice (some ⟨xq7.2.2.1.1, 0, none⟩) 1 xq7.2.2.1.2.1), (.slice (some ⟨xq7.1.1, 0, none⟩) 1 xq7.1.2.1), (.slice none 0 0), (.slice none 0 0), (.slice none 0 0), (.slice none 0 0), (.slice none 0 0), (.slice none 0 0)], 44, true⟩, ⟨bq1, [(.int .i64 W), (.int .i64 H), (.slice ad n cap)], 32, true⟩] 0 0 bq5 0 wc (hw.pick (idx := [8, 0, 1, 2, 3, 4, 5, 6, 7, 9]) (by decide) rfl))) (fun xq32 hq33 => ?_)
  refine GL.nil ?_
  refine GE.blockN ?_
  refine GE.thenN ?_
  refine GC.region ?_
  refine GL.val (v := (.int .i64 0)) (Ex.move rfl) (by decide) ?_
  refine GL.val (v := (.int .i64 1)) (Ex.add rfl rfl (Z := 1) (by decide)) (by decide) ?_
  refine GL.val (v := (.int .i64 1)) (Ex.assign rfl) (by decide) ?_
  refine GL.nil ?_
  refine GE.thenN ?_
  refine GE.round ?_
  refine GC.seq ?_
  refine GC.seq ?_
  refine GC.region ?_
  refine GL.val (v := (.int .i64 1)) (Ex.move rfl) (by decide) ?_
  refine GL.val (v := (.bool true)) (Ex.cast (Ex.lss rfl rfl) rfl) (by decide) ?_
  refine GL.nil ?_
  refine GE.thenN ?_
  refine GC.cond rfl (fun _ => ?_) (fun hq34 => by cases hq34)
  refine GC.skip ?_
  refine GE.thenN ?_
  refine GC.seq ?_
  refine GC.block ?_
  refine GC.seq ?_
  refine GC.region ?_
  refine GL.val (v := (.int .i64 w1)) (Ex.move rfl) (by decide) ?_
  refine GL.val (v := (.int .i64 h1)) (Ex.move rfl) (by decide) ?_
  refine GL.val (v := (.int .u32 s)) (Ex.move rfl) (by decide) ?_
  refine GL.step (Stp.callR (σ := Unit) (p := fun rz => True) (v := fun rz => (.tuple #[(.agg #[(.int .i64 0), (.int .i64 0), (.slice none 0 0)]), (.int .i64 50)])) (N := fun rz => []) (vs := [(.int .i64 w1), (.int .i64 h1), (.int .u32 s)]) rfl rfl T.own37 (by decide) (fun wc hw => new_inv w1 h1 s wc hnew)) (fun xq35 hq36 => ?_)
  refine GL.val (v := (.tuple #[(.agg #[(.int .i64 0), (.int .i64 0), (.slice none 0 0)]), (.int .i64 50)])) (Ex.move rfl) (by decide) ?_
  refine GL.val (v := (.agg #[(.int .i64 0), (.int .i64 0), (.slice none 0 0)])) (Ex.extract rfl rfl) (by decide) ?_
  refine GL.val (v := (.int .i64 50)) (Ex.extract rfl rfl) (by decide) ?_
  refine GL.step (Stp.alloc T.zr32 (by decide)) (fun bq37 _ => ?_)
  refine GL.step (Stp.storeL (i := 0) (L1 := [⟨bq37, [(.int .i64 0), (.int .i64 0), (.slice none 0 0)], 32, true⟩, ⟨xq32.1.1, [(Value.int .i64 0)] ++ xq32.1.2.2, 3, true⟩, ⟨xq32.2.1, [(Value.slice none 0 0)] ++ xq32.2.2.2, 30, true⟩, ⟨bq5, [(.slice (some ⟨xq32.2.1, 0, none⟩) 1 xq32.2.2.1), (.slice none 0 0), (.slice none 0 0), (.slice none 0 0), (.slice (some ⟨xq32.1.1, 0, none⟩) 1 xq32.1.2.1), (.slice none 0 0), (.slice none 0 0), (.slice none 0 0)], 41, true⟩, ⟨bq16, [(.int .i64 0), (.int .i64 0), (.slice none 0 0)], 32, true⟩, ⟨bq13, [(.int .i64 0), (.int .i64 0), (.slice none 0 0)], 32, true⟩, ⟨bq9, [(.int .i64 W), (.int .i64 H), (.slice (some ⟨xq7.2.2.2, 0, none⟩) n (n + 5))], 32, true⟩, ⟨xq7.1.1, [(Value.slice (some ⟨xq7.2.1.1, 0, none⟩) (n + 5) xq7.2.1.2.1)] ++ xq7.1.2.2, 30, true⟩, ⟨xq7.2.1.1, (roomL xs).map u32 ++ xq7.2.1.2.2, 72, true⟩, ⟨xq7.2.2.1.1, [(Value.slice (some ⟨xq7.2.2.2, 0, none⟩) (n + 5) (n + 5))] ++ xq7.2.2.1.2.2, 30, true⟩, ⟨xq7.2.2.2, (roomL xs).map u32, 72, true⟩, ⟨bq6, [(.slice (some ⟨xq7.2.2.1.1, 0, none⟩) 1 xq7.2.2.1.2.1), (.slice (some ⟨xq7.1.1, 0, none⟩) 1 xq7.1.2.1), (.slice none 0 0), (.slice none 0 0), (.slice none 0 0), (.slice none 0 0), (.slice none 0 0), (.slice none 0 0)], 44, true⟩, ⟨bq1, [(.int .i64 W), (.int .i64 H), (.slice ad n cap)], 32, true⟩]) rfl rfl rfl T.sz32 rfl rfl rfl rfl) (fun _ _ => ?_)
  refine GL.val (v := (.int .i64 50)) (Ex.assign rfl) (by decide) ?_
  refine GL.nil ?_
  refine GE.thenN ?_
  refine GC.seq ?_
  refine GC.region ?_
  refine GL.val (v := (.int .i64 w1)) (Ex.move rfl) (by decide) ?_
  refine GL.val (v := (.int .i64 h1)) (Ex.move rfl) (by decide) ?_
  refine GL.val (v := (.int .u32 s)) (Ex.move rfl) (by decide) ?_
  refine GL.step (Stp.callR (σ := Unit) (p := fun rz => True) (v := fun rz => (.tuple #[(.agg #[(.int .i64 0), (.int .i64 0), (.slice none 0 0)]), (.int .i64 50)])) (N := fun rz => []) (vs := [(.int .i64 w1), (.int .i64 h1), (.int .u32 s)]) rfl rfl T.own38 (by decide) (fun wc hw => ref_new_bad w1 h1 s wc hnew)) (fun xq38 hq39 => ?_)
  refine GL.val (v := (.tuple #[(.agg #[(.int .i64 0), (.int .i64 0), (.slice none 0 0)]), (.int .i64 50)])) (Ex.move rfl) (by decide) ?_
  refine GL.val (v := (.agg #[(.int .i64 0), (.int .i64 0), (.slice none 0 0)])) (Ex.extract rfl rfl) (by decide) ?_
  refine GL.val (v := (.int .i64 50)) (Ex.extract rfl rfl) (by decide) ?_
  refine GL.step (Stp.alloc T.zr32 (by decide)) (fun bq40 _ => ?_)
  refine GL.step (Stp.storeL (i := 0) (L1 := [⟨bq40, [(.int .i64 0), (.int .i64 0), (.slice none 0 0)], 32, true⟩, ⟨bq37, [(.int .i64 0), (.int .i64 0), (.slice none 0 0)], 32, true⟩, ⟨xq32.1.1, [(Value.int .i64 0)] ++ xq32.1.2.2, 3, true⟩, ⟨xq32.2.1, [(Value.slice none 0 0)] ++ xq32.2.2.2, 30, true⟩, ⟨bq5, [(.slice (some ⟨xq32.2.1, 0, none⟩) 1 xq32.2.2.1), (.slice none 0 0), (.slice none 0 0), (.slice none 0 0), (.slice (some ⟨xq32.1.1, 0, none⟩) 1 xq32.1.2.1), (.slice none 0 0), (.slice none 0 0), (.slice none 0 0)], 41, true⟩, ⟨bq16, [(.int .i64 0), (.int .i64 0), (.slice none 0 0)], 32, true⟩, ⟨bq13, [(.int .i64 0), (.int .i64 0), (.slice none 0 0)], 32, true⟩, ⟨bq9, [(.int .i64 W), (.int .i64 H), (.slice (some ⟨xq7.2.2.2, 0, none⟩) n (n + 5))], 32, true⟩, ⟨xq7.1.1, [(Value.slice (some ⟨xq7.2.1.1, 0, none⟩) (n + 5) xq7.2.1.2.1)] ++ xq7.1.2.2, 30, true⟩, ⟨xq7.2.1.1, (roomL xs).map u32 ++ xq7.2.1.2.2, 72, true⟩, ⟨xq7.2.2.1.1, [(Value.slice (some ⟨xq7.2.2.2, 0, none⟩) (n + 5) (n + 5))] ++ xq7.2.2.1.2.2, 30, true⟩, ⟨xq7.2.2.2, (roomL xs).map u32, 72, true⟩, ⟨bq6, [(.slice (some ⟨xq7.2.2.1.1, 0, none⟩) 1 xq7.2.2.1.2.1), (.slice (some ⟨xq7.1.1, 0, none⟩) 1 xq7.1.2.1), (.slice none 0 0), (.slice none 0 0), (.slice none 0 0), (.slice none 0 0), (.slice none 0 0), (.slice none 0 0)], 44, true⟩, ⟨bq1, [(.int .i64 W), (.int .i64 H), (.slice ad n cap)], 32, true⟩]) rfl rfl rfl T.sz32 rfl rfl rfl rfl) (fun _ _ => ?_)
  refine GL.val (v := (.int .i64 50)) (Ex.assign rfl) (by decide) ?_
  refine GL.nil ?_
  refine GE.thenN ?_
  refine GC.seq ?_
  refine GC.region ?_
  refine GL.val (v := (.agg #[(.int .i64 W), (.int .i64 H), (.slice (some ⟨xq7.2.2.2, 0, none⟩) n (n + 5))])) (Ex.loadA rfl T.ag32 T.sz32 (i := 7) rfl (vs := [(.int .i64 W), (.int .i64 H), (.slice (some ⟨xq7.2.2.2, 0, none⟩) n (n + 5))]) rfl rfl) (by decide) ?_
  refine GL.val (v := (.int .i64 X)) (Ex.move rfl) (by decide) ?_
  refine GL.val (v := (.int .i64 Y)) (Ex.move rfl) (by decide) ?_
  refine GL.step (Stp.callR (σ := Unit) (p := fun rz => True) (v := fun rz => (.tuple #[(.int .u32 0), (.int .i64 ((chk W H n)))])) (N := fun rz => []) (vs := [(.agg #[(.int .i64 W), (.int .i64 H), (.slice (some ⟨xq7.2.2.2, 0, none⟩) n (n + 5))]), (.int .i64 X), (.int .i64 Y)]) rfl rfl T.own39 (by decide) (fun wc hw => get_inv W H (some ⟨xq7.2.2.2, 0, none⟩) n (n + 5) X Y wc hc)) (fun xq41 hq42 => ?_)
  refine GL.val (v := (.tuple #[(.int .u32 0), (.int .i64 ((chk W H n)))])) (Ex.move rfl) (by decide) ?_
  refine GL.val (v := (.int .u32 0)) (Ex.extract rfl rfl) (by decide) ?_
  refine GL.val (v := (.int .i64 ((chk W H n)))) (Ex.extract rfl rfl) (by decide) ?_
  refine GL.val (v := (.int .u32 0)) (Ex.assign rfl) (by decide) ?_
  refine GL.val (v := (.int .i64 ((chk W H n)))) (Ex.assign rfl) (by decide) ?_
  refine GL.nil ?_
  refine GE.thenN ?_
  refine GC.seq ?_
  refine GC.region ?_
  refine GL.val (v := (.agg #[(.int .i64 W), (.int .i64 H), (.slice ad n cap)])) (Ex.loadA rfl T.ag32 T.sz32 (i := 13) rfl (vs := [(.int .i64 W), (.int .i64 H), (.slice ad n cap)]) rfl rfl) (by decide) ?_
  refine GL.val (v := (.int .i64 X)) (Ex.move rfl) (by decide) ?_
  refine GL.val (v := (.int .i64 Y)) (Ex.move rfl) (by decide) ?_
  refine GL.step (Stp.callR (σ := Unit) (p := fun rz => True) (v := fun rz => (.tuple #[(.int .u32 0), (.int .i64 ((chk W H n)))])) (N := fun rz => []) (vs := [(.agg #[(.int .i64 W), (.int .i64 H), (.slice ad n cap)]), (.int .i64 X), (.int .i64 Y)]) rfl rfl T.own40 (by decide) (fun wc hw => ref_get_inv W H ad n cap X Y wc hc)) (fun xq43 hq44 => ?_)
  refine GL.val (v := (.tuple #[(.int .u32 0), (.int .i64 ((chk W H n)))])) (Ex.move rfl) (by decide) ?_
  refine GL.val (v := (.int .u32 0)) (Ex.extract rfl rfl) (by decide) ?_
  refine GL.val (v := (.int .i64 ((chk W H n)))) (Ex.extract rfl rfl) (by decide) ?_
  refine GL.val (v := (.int .u32 0)) (Ex.assign rfl) (by decide) ?_
  refine GL.val (v := (.int .i64 ((chk W H n)))) (Ex.assign rfl) (by decide) ?_
  refine GL.nil ?_
  refine GE.thenN ?_
  refine GC.seq ?_
  refine GC.seq ?_
  refine GC.draw [⟨bq40, [(.int .i64 0), (.int .i64 0), (.slice none 0 0)], 32, true⟩, ⟨bq37, [(.int .i64 0), (.int .i64 0), (.slice none 0 0)], 32, true⟩, ⟨xq32.1.1, [(Value.int .i64 0)] ++ xq32.1.2.2, 3, true⟩, ⟨xq32.2.1, [(Value.slice none 0 0)] ++ xq32.2.2.2, 30, true⟩, ⟨bq5, [(.slice (some ⟨xq32.2.1, 0, none⟩) 1 xq32.2.2.1), (.slice none 0 0), (.slice none 0 0), (.slice none 0 0), (.slice (some ⟨xq32.1.1, 0, none⟩) 1 xq32.1.2.1), (.slice none 0 0), (.slice none 0 0), (.slice none 0 0)], 41, true⟩, ⟨bq16, [(.int .i64 0), (.int .i64 0), (.slice none 0 0)], 32, true⟩, ⟨bq13, [(.int .i64 0), (.int .i64 0), (.slice none 0 0)], 32, true⟩, ⟨bq9, [(.int .i64 W), (.int .i64 H), (.slice (some ⟨xq7.2.2.2, 0, none⟩) n (n + 5))], 32, true⟩, ⟨xq7.1.1, [(Value.slice (some ⟨xq7.2.1.1, 0, none⟩) (n + 5) xq7.2.1.2.1)] ++ xq7.1.2.2, 30, true⟩, ⟨xq7.2.1.1, (roomL xs).map u32 ++ xq7.2.1.2.2, 72, true⟩, ⟨xq7.2.2.1.1, [(Value.slice (some ⟨xq7.2.2.2, 0, none⟩) (n + 5) (n + 5))] ++ xq7.2.2.1.2.2, 30, true⟩, ⟨xq7.2.2.2, (roomL xs).map u32, 72, true⟩, ⟨bq6, [(.slice (some ⟨xq7.2.2.1.1, 0, none⟩) 1 xq7.2.2.1.2.1), (.slice (some ⟨xq7.1.1, 0, none⟩) 1 xq7.1.2.1), (.slice none 0 0), (.slice none 0 0), (.slice none 0 0), (.slice none 0 0), (.slice none 0 0), (.slice none 0 0)], 44, true⟩, ⟨bq1, [(.int .i64 W), (.int .i64 H), (.slice ad n cap)], 32, true⟩] T.mixed (fuel := 25) rfl rfl ?_
  refine GH.take 0 (v := (.agg #[(.int .i64 0), (.int .i64 0), (.slice none 0 0)])) rfl (by kernel_rfl) (by kernel_rfl) (by kernel_rfl) (fun _ _ _ h => h) (Ex.loadA rfl T.ag32 T.sz32 (i := 1) rfl (vs := [(.int .i64 0), (.int .i64 0), (.slice none 0 0)]) rfl rfl) (ulC (ulC (ulC (ulC (ulC (ulC (ulC (ulC (ulC (ulC (ulC (ulC (ulC (ulC ulN)))))))))))))) (by decide) ?_
  refine GH.take 1 (v := (.int .i64 50)) rfl (by kernel_rfl) (by kernel_rfl) (by kernel_rfl) (fun _ _ _ h => h) (Ex.move rfl) (ulC (ulC (ulC (ulC (ulC (ulC (ulC (ulC (ulC (ulC (ulC (ulC (ulC (ulC ulN)))))))))))))) (by decide) ?_
  refine GH.take 2 (v := (.agg #[(.int .i64 0), (.int .i64 0), (.slice none 0 0)])) rfl (by kernel_rfl) (by kernel_rfl) (by kernel_rfl) (fun _ _ _ h => h) (Ex.loadA rfl T.ag32 T.sz32 (i := 0) rfl (vs := [(.int .i64 0), (.int .i64 0), (.slice none 0 0)]) rfl rfl) (ulC (ulC (ulC (ulC (ulC (ulC (ulC (ulC (ulC (ulC (ulC (ulC (ulC (ulC ulN)))))))))))))) (by decide) ?_
  refine GH.take 3 (v := (.int .i64 50)) rfl (by kernel_rfl) (by kernel_rfl) (by kernel_rfl) (fun _ _ _ h => h) (Ex.move rfl) (ulC (ulC (ulC (ulC (ulC (ulC (ulC (ulC (ulC (ulC (ulC (ulC (ulC (ulC ulN)))))))))))))) (by decide) ?_
  refine GH.one 4 rfl (by kernel_rfl) (Stp.callR (σ := Unit) (p := fun rz => True) (v := fun rz => (.bool true)) (N := fun rz => []) (vs := [(.agg #[(.int .i64 0), (.int .i64 0), (.slice none 0 0)]), (.int .i64 50), (.agg #[(.int .i64 0), (.int .i64 0), (.slice none 0 0)]), (.int .i64 50)]) rfl rfl T.own20 (by decide) (fun wc hw => same_ 0 0 none 0 0 0 0 none 0 0 50 ([]) ([]) wc (by decide) (LsR.nil _ _) (LsR.nil _ _) (by first | rfl | omega) (by first | rfl | omega) (by first | rfl | (simp only [Nat.add_zero])))) (fun _ => (ulC (ulC (ulC (ulC (ulC (ulC (ulC (ulC (ulC (ulC (ulC (ulC (ulC (ulC ulN))))))))))))))) (fun xq45 hq46 => ?_)
  refine GH.take 5 (v := (.bool false)) rfl (by kernel_rfl) (by kernel_rfl) (by kernel_rfl) (fun _ _ _ h => h) (Ex.cast (Ex.not rfl) rfl) (ulC (ulC (ulC (ulC (ulC (ulC (ulC (ulC (ulC (ulC (ulC (ulC (ulC (ulC ulN)))))))))))))) (by decide) ?_
  refine GH.take 6 (v := (.bool false)) rfl (by kernel_rfl) (by kernel_rfl) (by kernel_rfl) (fun _ _ _ h => h) (Ex.move rfl) (ulC (ulC (ulC (ulC (ulC (ulC (ulC (ulC (ulC (ulC (ulC (ulC (ulC (ulC ulN)))))))))))))) (by decide) ?_
  refine GH.takeG 7 (tj := 72) (v := (.int .u32 0)) rfl rfl rfl (by kernel_rfl) (by kernel_rfl) (by kernel_rfl) (fun _ _ _ h => h) (Ex.move rfl) (ulC (ulC (ulC (ulC (ulC (ulC (ulC (ulC (ulC (ulC (ulC (ulC (ulC (ulC ulN)))))))))))))) (by decide) ?_
  refine GH.takeG 8 (tj := 72) (v := (.int .u32 0)) rfl rfl rfl (by kernel_rfl) (by kernel_rfl) (by kernel_rfl) (fun _ _ _ h => h) (Ex.move rfl) (ulC (ulC (ulC (ulC (ulC (ulC (ulC (ulC (ulC (ulC (ulC (ulC (ulC (ulC ulN)))))))))))))) (by decide) ?_
  refine GH.takeG 9 (tj := 72) (v := (.bool false)) rfl rfl rfl (by kernel_rfl) (by kernel_rfl) (by kernel_rfl) (fun _ _ _ h => h) (Ex.cast (Ex.neq rfl rfl) rfl) (ulC (ulC (ulC (ulC (ulC (ulC (ulC (ulC (ulC (ulC (ulC (ulC (ulC (ulC ulN)))))))))))))) (by decide) ?_
  refine GH.take 10 (v := (.bool false)) rfl (by kernel_rfl) (by kernel_rfl) (by kernel_rfl) (fun _ _ _ h => h) (Ex.pickF rfl rfl) (ulC (ulC (ulC (ulC (ulC (ulC (ulC (ulC (ulC (ulC (ulC (ulC (ulC (ulC ulN)))))))))))))) (by decide) ?_
  refine GH.take 11 (v := (.bool false)) rfl (by kernel_rfl) (by kernel_rfl) (by kernel_rfl) (fun _ _ _ h => h) (Ex.move rfl) (ulC (ulC (ulC (ulC (ulC (ulC (ulC (ulC (ulC (ulC (ulC (ulC (ulC (ulC ulN)))))))))))))) (by decide) ?_
  refine GH.takeG 12 (tj := 77) (v := (.int .i64 ((chk W H n)))) rfl rfl rfl (by kernel_rfl) (by kernel_rfl) (by kernel_rfl) (fun _ _ _ h => h) (Ex.move rfl) (ulC (ulC (ulC (ulC (ulC (ulC (ulC (ulC (ulC (ulC (ulC (ulC (ulC (ulC ulN)))))))))))))) (by decide) ?_
  refine GH.takeG 14 (tj := 77) (v := (.int .i64 ((chk W H n)))) rfl rfl rfl (by kernel_rfl) (by kernel_rfl) (by kernel_rfl) (fun _ _ _ h => h) (Ex.move rfl) (ulC (ulC (ulC (ulC (ulC (ulC (ulC (ulC (ulC (ulC (ulC (ulC (ulC (ulC ulN)))))))))))))) (by decide) ?_
  refine GH.oneG 13 (tj := 77) rfl rfl rfl (by kernel_rfl) (Stp.callR (σ := Unit) (p := fun rz => True) (v := fun rz => (.int .i64 ((chk W H n)))) (N := fun rz => []) (vs := [(.int .i64 ((chk W H n)))]) rfl rfl T.own16 (by decide) (fun wc hw => num ((chk W H n)) wc)) (fun _ => (ulC (ulC (ulC (ulC (ulC (ulC (ulC (ulC (ulC (ulC (ulC (ulC (ulC (ulC ulN))))))))))))))) (fun xq47 hq48 => ?_)
  refine GH.takeG 15 (tj := 77) (v := (.bool false)) rfl rfl rfl (by kernel_rfl) (by kernel_rfl) (by kernel_rfl) (fun _ _ _ h => h) (Ex.cast (Ex.neq rfl rfl) (congrArg Value.bool (decide_eq_false (by simp)))) (ulC (ulC (ulC (ulC (ulC (ulC (ulC (ulC (ulC (ulC (ulC (ulC (ulC (ulC ulN)))))))))))))) (by decide) ?_
  refine GH.take 16 (v := (.bool false)) rfl (by kernel_rfl) (by kernel_rfl) (by kernel_rfl) (fun _ _ _ h => h) (Ex.pickF rfl rfl) (ulC (ulC (ulC (ulC (ulC (ulC (ulC (ulC (ulC (ulC (ulC (ulC (ulC (ulC ulN)))))))))))))) (by decide) ?_
  refine GH.take 17 (v := (.bool false)) rfl (by kernel_rfl) (by kernel_rfl) (by kernel_rfl) (fun _ _ _ h => h) (Ex.move rfl) (ulC (ulC (ulC (ulC (ulC (ulC (ulC (ulC (ulC (ulC (ulC (ulC (ulC (ulC ulN)))))))))))))) (by decide) ?_
  refine GH.takeG 18 (tj := 83) (v := (.agg #[(.int .i64 W), (.int .i64 H), (.slice (some ⟨xq7.2.2.2, 0, none⟩) n (n + 5))])) rfl rfl rfl (by kernel_rfl) (by kernel_rfl) (by kernel_rfl) (fun _ _ _ h => h) (Ex.loadA rfl T.ag32 T.sz32 (i := 7) rfl (vs := [(.int .i64 W), (.int .i64 H), (.slice (some ⟨xq7.2.2.2, 0, none⟩) n (n + 5))]) rfl rfl) (ulC (ulC (ulC (ulC (ulC (ulC (ulC (ulC (ulC (ulC (ulC (ulC (ulC (ulC ulN)))))))))))))) (by decide) ?_
  refine GH.takeG 21 (tj := 83) (v := (.agg #[(.int .i64 W), (.int .i64 H), (.slice ad n cap)])) rfl rfl rfl (by kernel_rfl) (by kernel_rfl) (by kernel_rfl) (fun _ _ _ h => h) (Ex.loadA rfl T.ag32 T.sz32 (i := 13) rfl (vs := [(.int .i64 W), (.int .i64 H), (.slice ad n cap)]) rfl rfl) (ulC (ulC (ulC (ulC (ulC (ulC (ulC (ulC (ulC (ulC (ulC (ulC (ulC (ulC ulN)))))))))))))) (by decide) ?_
  refine GH.oneG 19 (tj := 83) rfl rfl rfl (by kernel_rfl) (Stp.callR (σ := Unit) (p := fun rz => True) (v := fun rz => (.int .i64 (chk W H n))) (N := fun rz => []) (vs := [(.agg #[(.int .i64 W), (.int .i64 H), (.slice (some ⟨xq7.2.2.2, 0, none⟩) n (n + 5))])]) rfl rfl T.own36 (by decide) (fun wc hw => check W H (some ⟨xq7.2.2.2, 0, none⟩) n (n + 5) wc)) (fun _ => (ulC (ulC (ulC (ulC (ulC (ulC (ulC (ulC (ulC (ulC (ulC (ulC (ulC (ulC ulN))))))))))))))) (fun xq49 hq50 => ?_)
  refine GH.oneG 20 (tj := 83) rfl rfl rfl (by kernel_rfl) (Stp.callR (σ := Unit) (p := fun rz => True) (v := fun rz => (.int .i64 (chk W H n))) (N := fun rz => []) (vs := [(.int .i64 (chk W H n))]) rfl rfl T.own16 (by decide) (fun wc hw => num (chk W H n) wc)) (fun _ => (ulC (ulC (ulC (ulC (ulC (ulC (ulC (ulC (ulC (ulC (ulC (ulC (ulC (ulC ulN))))))))))))))) (fun xq51 hq52 => ?_)
  refine GH.oneG 22 (tj := 83) rfl rfl rfl (by kernel_rfl) (Stp.callR (σ := Unit) (p := fun rz => True) (v := fun rz => (.int .i64 (chk W H n))) (N := fun rz => []) (vs := [(.agg #[(.int .i64 W), (.int .i64 H), (.slice ad n cap)])]) rfl rfl T.own35 (by decide) (fun wc hw => ref_check W H ad n cap wc)) (fun _ => (ulC (ulC (ulC (ulC (ulC (ulC (ulC (ulC (ulC (ulC (ulC (ulC (ulC (ulC ulN))))))))))))))) (fun xq53 hq54 => ?_)
  refine GH.takeG 23 (tj := 83) (v := (.bool false)) rfl rfl rfl (by kernel_rfl) (by kernel_rfl) (by kernel_rfl) (fun _ _ _ h => h) (Ex.cast (Ex.neq rfl rfl) (congrArg Value.bool (decide_eq_false (by simp)))) (ulC (ulC (ulC (ulC (ulC (ulC (ulC (ulC (ulC (ulC (ulC (ulC (ulC (ulC ulN)))))))))))))) (by decide) ?_
  refine GH.take 24 (v := (.bool false)) rfl (by kernel_rfl) (by kernel_rfl) (by kernel_rfl) (fun _ _ _ h => h) (Ex.pickF rfl rfl) (ulC (ulC (ulC (ulC (ulC (ulC (ulC (ulC (ulC (ulC (ulC (ulC (ulC (ulC ulN)))))))))))))) (by decide) ?_
  refine GH.done (by kernel_rfl) ?_
  refine GE.thenN ?_
  refine GC.cond rfl (fun hq55 => by cases hq55) (fun _ => ?_)
  refine GC.skip ?_
  refine GE.thenN ?_
  refine GC.region ?_
  refine GL.val (v := (.pointer (some ⟨bq5, 0, none⟩))) (Ex.move rfl) (by decide) ?_
  refine GL.val (v := (.agg #[(.int .i64 0), (.int .i64 0), (.slice none 0 0)])) (Ex.loadA rfl T.ag32 T.sz32 (i := 1) rfl (vs := [(.int .i64 0), (.int .i64 0), (.slice none 0 0)]) rfl rfl) (by decide) ?_
  refine GL.val (v := (.int .i64 1)) (Ex.move rfl) (by decide) ?_
  refine GL.step (Stp.call (σ := (Nat × Nat × List Value) × (Nat × Nat × List Value)) (p := fun rz => (([(Value.slice none 0 0)]) ++ [(Value.slice none 0 0)] ++ rz.2.2.2 : List Value).length = rz.2.2.1 * 1 ∧ (([(Value.int .i64 0)]) ++ [(Value.int .i64 1)] ++ rz.1.2.2 : List Value).length = rz.1.2.1 * 1) (v := fun rz => (.tuple #[])) (L' := fun rz => [⟨rz.1.1, ([(Value.int .i64 0)]) ++ [(Value.int .i64 1)] ++ rz.1.2.2, 3, true⟩, ⟨rz.2.1, ([(Value.slice none 0 0)]) ++ [(Value.slice none 0 0)] ++ rz.2.2.2, 30, true⟩, ⟨bq5, [(.slice (some ⟨rz.2.1, 0, none⟩) 2 rz.2.2.1), (.slice none 0 0), (.slice none 0 0), (.slice none 0 0), (.slice (some ⟨rz.1.1, 0, none⟩) 2 rz.1.2.1), (.slice none 0 0), (.slice none 0 0), (.slice none 0 0)], 41, true⟩, ⟨bq40, [(.int .i64 0), (.int .i64 0), (.slice none 0 0)], 32, true⟩, ⟨bq37, [(.int .i64 0), (.int .i64 0), (.slice none 0 0)], 32, true⟩, ⟨bq16, [(.int .i64 0), (.int .i64 0), (.slice none 0 0)], 32, true⟩, ⟨bq13, [(.int .i64 0), (.int .i64 0), (.slice none 0 0)], 32, true⟩, ⟨bq9, [(.int .i64 W), (.int .i64 H), (.slice (some ⟨xq7.2.2.2, 0, none⟩) n (n + 5))], 32, true⟩, ⟨xq7.1.1, [(Value.slice (some ⟨xq7.2.1.1, 0, none⟩) (n + 5) xq7.2.1.2.1)] ++ xq7.1.2.2, 30, true⟩, ⟨xq7.2.1.1, (roomL xs).map u32 ++ xq7.2.1.2.2, 72, true⟩, ⟨xq7.2.2.1.1, [(Value.slice (some ⟨xq7.2.2.2, 0, none⟩) (n + 5) (n + 5))] ++ xq7.2.2.1.2.2, 30, true⟩, ⟨xq7.2.2.2, (roomL xs).map u32, 72, true⟩, ⟨bq6, [(.slice (some ⟨xq7.2.2.1.1, 0, none⟩) 1 xq7.2.2.1.2.1), (.slice (some ⟨xq7.1.1, 0, none⟩) 1 xq7.1.2.1), (.slice none 0 0), (.slice none 0 0), (.slice none 0 0), (.slice none 0 0), (.slice none 0 0), (.slice none 0 0)], 44, true⟩, ⟨bq1, [(.int .i64 W), (.int .i64 H), (.slice ad n cap)], 32, true⟩]) (vs := [(.pointer (some ⟨bq5, 0, none⟩)), (.agg #[(.int .i64 0), (.int .i64 0), (.slice none 0 0)]), (.int .i64 1)]) rfl rfl T.own21 (by decide) (fun wc hw => book_p10 w [⟨bq40, [(.int .i64 0), (.int .i64 0), (.slice none 0 0)], 32, true⟩, ⟨bq37, [(.int .i64 0), (.int .i64 0), (.slice none 0 0)], 32, true⟩, ⟨bq16, [(.int .i64 0), (.int .i64 0), (.slice none 0 0)], 32, true⟩, ⟨bq13, [(.int .i64 0), (.int .i64 0), (.slice none 0 0)], 32, true⟩, ⟨bq9, [(.int .i64 W), (.int .i64 H), (.slice (some ⟨xq7.2.2.2, 0, none⟩) n (n + 5))], 32, true⟩, ⟨xq7.1.1, [(Value.slice (some ⟨xq7.2.1.1, 0, none⟩) (n + 5) xq7.2.1.2.1)] ++ xq7.1.2.2, 30, true⟩, ⟨xq7.2.1.1, (roomL xs).map u32 ++ xq7.2.1.2.2, 72, true⟩, ⟨xq7.2.2.1.1, [(Value.slice (some ⟨xq7.2.2.2, 0, none⟩) (n + 5) (n + 5))] ++ xq7.2.2.1.2.2, 30, true⟩, ⟨xq7.2.2.2, (roomL xs).map u32, 72, true⟩, ⟨bq6, [(.slice (some ⟨xq7.2.2.1.1, 0, none⟩) 1 xq7.2.2.1.2.1), (.slice (some ⟨xq7.1.1, 0, none⟩) 1 xq7.1.2.1), (.slice none 0 0), (.slice none 0 0), (.slice none 0 0), (.slice none 0 0), (.slice none 0 0), (.slice none 0 0)], 44, true⟩, ⟨bq1, [(.int .i64 W), (.int .i64 H), (.slice ad n cap)], 32, true⟩] 0 0 bq5 1 1 xq32.2.1 xq32.2.2.1 xq32.1.1 xq32.1.2.1 ([(Value.slice none 0 0)]) xq32.2.2.2 ([(Value.int .i64 0)]) xq32.1.2.2 wc (by first | decide | omega) (by first | rfl | omega) (by first | rfl | omega) hq33.1 hq33.2 (hw.pick (idx := [4, 3, 2, 0, 1, 5, 6, 7, 8, 9, 10, 11, 12, 13]) (by decide) rfl))) (fun xq56 hq57 => ?_)
  refine GL.nil ?_
  refine GE.blockN ?_
  refine GE.thenN ?_
  refine GC.region ?_
  refine GL.val (v := (.int .i64 1)) (Ex.move rfl) (by decide) ?_
  refine GL.val (v := (.int .i64 2)) (Ex.add rfl rfl (Z := 2) (by decide)) (by decide) ?_
  refine GL.val (v := (.int .i64 2)) (Ex.assign rfl) (by decide) ?_
  refine GL.nil ?_
  refine GE.thenN ?_
  refine GE.round ?_
  refine GC.seq ?_
  refine GC.seq ?_
  refine GC.region ?_
  refine GL.val (v := (.int .i64 2)) (Ex.move rfl) (by decide) ?_
  refine GL.val (v := (.bool false)) (Ex.cast (Ex.lss rfl rfl) rfl) (by decide) ?_
  refine GL.nil ?_
  refine GE.thenN ?_
  refine GC.cond rfl (fun hq58 => by cases hq58) (fun _ => ?_)
  refine GC.exit ?_
  refine GE.thenE ?_
  refine GE.thenE ?_
  refine GE.blockE ?_
  refine GE.thenN ?_
  refine GC.seq ?_
  refine GC.region ?_
  refine GL.val (v := (.pointer (some ⟨bq5, 0, none⟩))) (Ex.move rfl) (by decide) ?_
  refine GL.step (Stp.callR (σ := Unit) (p := fun rz => True) (v := fun rz => (.bool true)) (N := fun rz => []) (vs := [(.pointer (some ⟨bq5, 0, none⟩))]) rfl rfl T.own22 (by decide) (fun wc hw => book_hold bq5 2 xq56.2.1 xq56.2.2.1 xq56.1.1 xq56.1.2.1 ([⟨none, 0, 0⟩, ⟨none, 0, 1⟩] : List It) xq56.2.2.2 xq56.1.2.2 wc rfl (by decide) (it_cons (it_nil _) (it_cons (it_nil _) it_all)) (Has.cons (hw.hasOf (i := 2) rfl) (Has.cons (hw.hasOf (i := 1) rfl) (Has.cons (hw.hasOf (i := 0) rfl) (Has.nil _)))))) (fun xq59 hq60 => ?_)
  refine GL.val (v := (.bool true)) (Ex.move rfl) (by decide) ?_
  refine GL.stepG (tj := 97) rfl rfl (Ex.wp (v := (.pointer (some ⟨bq6, 0, none⟩))) (Ex.move rfl) (by decide)) (fun _ _ => ?_)
  refine GL.stepG (tj := 97) rfl rfl (Stp.callR (σ := Unit) (p := fun rz => True) (v := fun rz => (.bool true)) (N := fun rz => []) (vs := [(.pointer (some ⟨bq6, 0, none⟩))]) rfl rfl T.own23 (by decide) (fun wc hw => room_hold1 bq6 xq7.2.2.1.1 xq7.1.1 xq7.2.2.1.2.1 xq7.1.2.1 xq7.2.2.1.2.2 xq7.1.2.2 xq7.2.2.2 xq7.2.1.1 n xq7.2.1.2.1 xs xq7.2.1.2.2 wc ⟨hl.1, hb⟩ (Has.cons (hw.hasOf (i := 12) rfl) (Has.cons (hw.hasOf (i := 10) rfl) (Has.cons (hw.hasOf (i := 8) rfl) (Has.cons (hw.hasOf (i := 11) rfl) (Has.cons (hw.hasOf (i := 9) rfl) (Has.nil _)))))))) (fun xq61 hq62 => ?_)
  refine GL.val (v := (.bool true)) (Ex.pickT rfl rfl) (by decide) ?_
  refine GL.val (v := (.bool true)) (Ex.assign rfl) (by decide) ?_
  refine GL.nil ?_
  refine GE.thenN ?_
  refine GC.ret ?_
  refine GC.ret1 rfl (Rv.tmp rfl) (fun wN HN => ?_)
  exact HN.ret () trivial rfl (List.nil_sublist _) rfl

theorem lawMakes (w1 h1 s : Int) (W H : Int) (ad : Option Addr) (n cap : Nat) (X Y : Int) (xs : List Int) (w : World) (hl : Lst w ad n xs) (hb : n ≤ 35184372087808) :
    Calls Try.prog 10 #[.int .i64 w1, .int .i64 h1, .int .u32 s, .agg #[.int .i64 W, .int .i64 H, .slice ad n cap], .int .i64 X, .int .i64 Y] w (Ret w (fun _ : Unit => True) (fun _ => .bool true) (fun _ => [])) := by
  by_cases hs : sizeB w1 h1 = true
  · have hs' := of_decide_eq_true hs
    obtain ⟨a1, rfl⟩ := Int.eq_ofNat_of_zero_le (show 0 ≤ w1 by omega)
    obtain ⟨a2, rfl⟩ := Int.eq_ofNat_of_zero_le (show 0 ≤ h1 by omega)
    have hnew := okP_of hs
    by_cases hc : chk W H n = 0
    · obtain ⟨w', h', rfl, rfl, hok, hn⟩ := chk_zero hc
      have g1 := hl
      obtain ⟨_, _, _, q⟩ := g1
      rcases q with q | ⟨b, o, rfl, hr⟩
      · exfalso; have h5 := Nat.mul_pos (show 0 < w' from hok.1) (show 0 < h' from hok.2.1); omega
      · by_cases hR : 0 ≤ X ∧ X < w' ∧ 0 ≤ Y ∧ Y < h'
        · obtain ⟨r1, r2, r3, r4⟩ := hR
          obtain ⟨x', rfl⟩ := Int.eq_ofNat_of_zero_le r1
          obtain ⟨y', rfl⟩ := Int.eq_ofNat_of_zero_le r3
          exact mk_ni a1 a2 s w' h' n cap b o xs x' y' w hnew hok hn hl hr hb (by omega) (by omega)
        · exact mk_no a1 a2 s w' h' n cap b o xs X Y w hnew hok hn hl hr hb hR
    · exact mk_nv a1 a2 s W H ad n cap xs X Y w hnew hl hb hc
  · have hnew : sizeB w1 h1 = false := Bool.eq_false_iff.2 hs
    by_cases hc : chk W H n = 0
    · obtain ⟨w', h', rfl, rfl, hok, hn⟩ := chk_zero hc
      have g1 := hl
      obtain ⟨_, _, _, q⟩ := g1
      rcases q with q | ⟨b, o, rfl, hr⟩
      · exfalso; have h5 := Nat.mul_pos (show 0 < w' from hok.1) (show 0 < h' from hok.2.1); omega
      · by_cases hR : 0 ≤ X ∧ X < w' ∧ 0 ≤ Y ∧ Y < h'
        · obtain ⟨r1, r2, r3, r4⟩ := hR
          obtain ⟨x', rfl⟩ := Int.eq_ofNat_of_zero_le r1
          obtain ⟨y', rfl⟩ := Int.eq_ofNat_of_zero_le r3
          exact mk_zi w1 h1 s w' h' n cap b o xs x' y' w hnew hok hn hl hr hb (by omega) (by omega)
        · exact mk_zo w1 h1 s w' h' n cap b o xs X Y w hnew hok hn hl hr hb hR
    · exact mk_zv w1 h1 s W H ad n cap xs X Y w hnew hl hb hc

end Go.Proofs.Ytileciohbhoehaa.C
