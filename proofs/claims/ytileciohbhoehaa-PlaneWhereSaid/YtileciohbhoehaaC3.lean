/- Plane's functions: what each call tells. -/
import Derived.Test.YtileciohbhoehaaC2
namespace Go.Proofs.Ytileciohbhoehaa.C
open Go Go.RowKit Sx
set_option linter.unusedVariables false
set_option maxRecDepth 100000 in
set_option maxHeartbeats 1000000 in
theorem known (w : World) :
    Calls Try.prog 13 #[] w (Ret w (fun _ : Unit => True) (fun _ => .bool true) (fun _ => [])) := by
  refine enter (M := None) (L := []) (n := 105) (l := []) Try.func13 rfl rfl (Args.nil _) (Hp.start _ _) ?_
  refine GC.seq ?_
  refine GC.region ?_
  refine GL.val (v := (.bool false)) (Ex.assign rfl) (by decide) ?_
  refine GL.nil ?_
  refine GE.thenN ?_
  refine GC.seq ?_
  refine GC.region ?_
  refine GL.step (Stp.buildSlice (cs := [(.int .u32 1), (.int .u32 2), (.int .u32 3), (.int .u32 4), (.int .u32 5), (.int .u32 6)]) (vs := [(0, (.int .u32 1)), (1, (.int .u32 2)), (2, (.int .u32 3)), (3, (.int .u32 4)), (4, (.int .u32 5)), (5, (.int .u32 6))]) Try.underlying30 T.zr72 T.sz72 rfl (by decide) (by decide) (by first | rfl | kernel_rfl) (by decide)) (fun bq1 _ => ?_)
  refine GL.val (v := (.agg #[(.int .i64 2), (.int .i64 3), (.slice (some ⟨bq1, 0, none⟩) 6 6)])) (Ex.build (vs := [(0, (.int .i64 2)), (1, (.int .i64 3)), (2, (.slice (some ⟨bq1, 0, none⟩) 6 6))]) rfl (by first | rfl | kernel_rfl)) (by decide) ?_
  refine GL.step (Stp.alloc T.zr32 (by decide)) (fun bq2 _ => ?_)
  refine GL.step (Stp.storeL (i := 0) (L1 := [⟨bq2, [(.int .i64 2), (.int .i64 3), (.slice (some ⟨bq1, 0, none⟩) 6 6)], 32, true⟩, ⟨bq1, [(.int .u32 1), (.int .u32 2), (.int .u32 3), (.int .u32 4), (.int .u32 5), (.int .u32 6)], 72, true⟩]) rfl rfl rfl T.sz32 rfl rfl rfl rfl) (fun _ _ => ?_)
  refine GL.nil ?_
  refine GE.thenN ?_
  refine GC.seq ?_
  refine GC.region ?_
  refine GL.val (v := (.agg #[(.int .i64 2), (.int .i64 3), (.slice (some ⟨bq1, 0, none⟩) 6 6)])) (Ex.loadA rfl T.ag32 T.sz32 (i := 0) rfl (vs := [(.int .i64 2), (.int .i64 3), (.slice (some ⟨bq1, 0, none⟩) 6 6)]) rfl rfl) (by decide) ?_
  refine GL.step (Stp.callR (σ := Nat) (p := fun rz => True) (v := fun rz => (.tuple #[(.agg #[(.int .i64 (((3 : Nat) : Int))), (.int .i64 (((2 : Nat) : Int))), (.slice (some ⟨rz, 0, none⟩) (3 * 2) (3 * 2))]), (.int .i64 0)])) (N := fun rz => [⟨rz, (tab 3 (fun x y => smp [1, 2, 3, 4, 5, 6] 2 y (3 - 1 - x)) (3 * 2)).map u32, 72, true⟩]) (vs := [(.agg #[(.int .i64 2), (.int .i64 3), (.slice (some ⟨bq1, 0, none⟩) 6 6)]), (.int .i64 1)]) rfl rfl T.own33 (by decide) (fun wc hw => turn_1 2 3 6 6 bq1 0 [1, 2, 3, 4, 5, 6] 1 wc (by decide) rfl rfl (hw.rdOf (i := 1) rfl 0) (by decide) (by decide))) (fun xq3 hq4 => ?_)
  refine GL.val (v := (.tuple #[(.agg #[(.int .i64 (((3 : Nat) : Int))), (.int .i64 (((2 : Nat) : Int))), (.slice (some ⟨xq3, 0, none⟩) (3 * 2) (3 * 2))]), (.int .i64 0)])) (Ex.move rfl) (by decide) ?_
  refine GL.val (v := (.agg #[(.int .i64 (((3 : Nat) : Int))), (.int .i64 (((2 : Nat) : Int))), (.slice (some ⟨xq3, 0, none⟩) (3 * 2) (3 * 2))])) (Ex.extract rfl rfl) (by decide) ?_
  refine GL.val (v := (.int .i64 0)) (Ex.extract rfl rfl) (by decide) ?_
  refine GL.step (Stp.alloc T.zr32 (by decide)) (fun bq5 _ => ?_)
  refine GL.step (Stp.storeL (i := 0) (L1 := [⟨bq5, [(.int .i64 (((3 : Nat) : Int))), (.int .i64 (((2 : Nat) : Int))), (.slice (some ⟨xq3, 0, none⟩) (3 * 2) (3 * 2))], 32, true⟩, ⟨xq3, (tab 3 (fun x y => smp [1, 2, 3, 4, 5, 6] 2 y (3 - 1 - x)) (3 * 2)).map u32, 72, true⟩, ⟨bq2, [(.int .i64 2), (.int .i64 3), (.slice (some ⟨bq1, 0, none⟩) 6 6)], 32, true⟩, ⟨bq1, [(.int .u32 1), (.int .u32 2), (.int .u32 3), (.int .u32 4), (.int .u32 5), (.int .u32 6)], 72, true⟩]) rfl rfl rfl T.sz32 rfl rfl rfl rfl) (fun _ _ => ?_)
  refine GL.val (v := (.int .i64 0)) (Ex.assign rfl) (by decide) ?_
  refine GL.nil ?_
  refine GE.thenN ?_
  refine GC.seq ?_
  refine GC.region ?_
  refine GL.val (v := (.agg #[(.int .i64 2), (.int .i64 3), (.slice (some ⟨bq1, 0, none⟩) 6 6)])) (Ex.loadA rfl T.ag32 T.sz32 (i := 2) rfl (vs := [(.int .i64 2), (.int .i64 3), (.slice (some ⟨bq1, 0, none⟩) 6 6)]) rfl rfl) (by decide) ?_
  refine GL.step (Stp.callR (σ := Nat) (p := fun rz => True) (v := fun rz => (.tuple #[(.agg #[(.int .i64 (((3 : Nat) : Int))), (.int .i64 (((2 : Nat) : Int))), (.slice (some ⟨rz, 0, none⟩) (3 * 2) (3 * 2))]), (.int .i64 0)])) (N := fun rz => [⟨rz, (tab 3 (fun x y => smp [1, 2, 3, 4, 5, 6] 2 y x) (3 * 2)).map u32, 72, true⟩]) (vs := [(.agg #[(.int .i64 2), (.int .i64 3), (.slice (some ⟨bq1, 0, none⟩) 6 6)])]) rfl rfl T.own31 (by decide) (fun wc hw => transp 2 3 6 6 bq1 0 [1, 2, 3, 4, 5, 6] wc (by decide) rfl rfl (hw.rdOf (i := 3) rfl 0))) (fun xq6 hq7 => ?_)
  refine GL.val (v := (.tuple #[(.agg #[(.int .i64 (((3 : Nat) : Int))), (.int .i64 (((2 : Nat) : Int))), (.slice (some ⟨xq6, 0, none⟩) (3 * 2) (3 * 2))]), (.int .i64 0)])) (Ex.move rfl) (by decide) ?_
  refine GL.val (v := (.agg #[(.int .i64 (((3 : Nat) : Int))), (.int .i64 (((2 : Nat) : Int))), (.slice (some ⟨xq6, 0, none⟩) (3 * 2) (3 * 2))])) (Ex.extract rfl rfl) (by decide) ?_
  refine GL.val (v := (.int .i64 0)) (Ex.extract rfl rfl) (by decide) ?_
  refine GL.step (Stp.alloc T.zr32 (by decide)) (fun bq8 _ => ?_)
  refine GL.step (Stp.storeL (i := 0) (L1 := [⟨bq8, [(.int .i64 (((3 : Nat) : Int))), (.int .i64 (((2 : Nat) : Int))), (.slice (some ⟨xq6, 0, none⟩) (3 * 2) (3 * 2))], 32, true⟩, ⟨xq6, (tab 3 (fun x y => smp [1, 2, 3, 4, 5, 6] 2 y x) (3 * 2)).map u32, 72, true⟩, ⟨bq5, [(.int .i64 (((3 : Nat) : Int))), (.int .i64 (((2 : Nat) : Int))), (.slice (some ⟨xq3, 0, none⟩) (3 * 2) (3 * 2))], 32, true⟩, ⟨xq3, (tab 3 (fun x y => smp [1, 2, 3, 4, 5, 6] 2 y (3 - 1 - x)) (3 * 2)).map u32, 72, true⟩, ⟨bq2, [(.int .i64 2), (.int .i64 3), (.slice (some ⟨bq1, 0, none⟩) 6 6)], 32, true⟩, ⟨bq1, [(.int .u32 1), (.int .u32 2), (.int .u32 3), (.int .u32 4), (.int .u32 5), (.int .u32 6)], 72, true⟩]) rfl rfl rfl T.sz32 rfl rfl rfl rfl) (fun _ _ => ?_)
  refine GL.val (v := (.int .i64 0)) (Ex.assign rfl) (by decide) ?_
  refine GL.nil ?_
  refine GE.thenN ?_
  refine GC.seq ?_
  refine GC.region ?_
  refine GL.val (v := (.agg #[(.int .i64 2), (.int .i64 3), (.slice (some ⟨bq1, 0, none⟩) 6 6)])) (Ex.loadA rfl T.ag32 T.sz32 (i := 4) rfl (vs := [(.int .i64 2), (.int .i64 3), (.slice (some ⟨bq1, 0, none⟩) 6 6)]) rfl rfl) (by decide) ?_
  refine GL.val (v := (.agg #[(.int .i64 1), (.int .i64 0), (.int .i64 2), (.int .i64 2)])) (Ex.build (vs := [(0, (.int .i64 1)), (2, (.int .i64 2)), (3, (.int .i64 2))]) rfl (by first | rfl | kernel_rfl)) (by decide) ?_
  refine GL.step (Stp.callR (σ := Nat) (p := fun rz => True) (v := fun rz => (.tuple #[(.agg #[(.int .i64 ((((2 - 1) : Nat) : Int))), (.int .i64 ((((2 - 0) : Nat) : Int))), (.slice (some ⟨rz, 0, none⟩) ((2 - 1) * (2 - 0)) ((2 - 1) * (2 - 0)))]), (.int .i64 0)])) (N := fun rz => [⟨rz, (tab (2 - 1) (fun x y => smp [1, 2, 3, 4, 5, 6] 2 (1 + x) (0 + y)) ((2 - 1) * (2 - 0))).map u32, 72, true⟩]) (vs := [(.agg #[(.int .i64 2), (.int .i64 3), (.slice (some ⟨bq1, 0, none⟩) 6 6)]), (.agg #[(.int .i64 1), (.int .i64 0), (.int .i64 2), (.int .i64 2)])]) rfl rfl T.own24 (by decide) (fun wc hw => crop_in 2 3 6 6 bq1 0 1 0 2 2 [1, 2, 3, 4, 5, 6] wc (by decide) rfl rfl (hw.rdOf (i := 5) rfl 0) (by decide) (by decide) (by decide) (by decide))) (fun xq9 hq10 => ?_)
  refine GL.val (v := (.tuple #[(.agg #[(.int .i64 ((((2 - 1) : Nat) : Int))), (.int .i64 ((((2 - 0) : Nat) : Int))), (.slice (some ⟨xq9, 0, none⟩) ((2 - 1) * (2 - 0)) ((2 - 1) * (2 - 0)))]), (.int .i64 0)])) (Ex.move rfl) (by decide) ?_
  refine GL.val (v := (.agg #[(.int .i64 ((((2 - 1) : Nat) : Int))), (.int .i64 ((((2 - 0) : Nat) : Int))), (.slice (some ⟨xq9, 0, none⟩) ((2 - 1) * (2 - 0)) ((2 - 1) * (2 - 0)))])) (Ex.extract rfl rfl) (by decide) ?_
  refine GL.val (v := (.int .i64 0)) (Ex.extract rfl rfl) (by decide) ?_
  refine GL.step (Stp.alloc T.zr32 (by decide)) (fun bq11 _ => ?_)
  refine GL.step (Stp.storeL (i := 0) (L1 := [⟨bq11, [(.int .i64 ((((2 - 1) : Nat) : Int))), (.int .i64 ((((2 - 0) : Nat) : Int))), (.slice (some ⟨xq9, 0, none⟩) ((2 - 1) * (2 - 0)) ((2 - 1) * (2 - 0)))], 32, true⟩, ⟨xq9, (tab (2 - 1) (fun x y => smp [1, 2, 3, 4, 5, 6] 2 (1 + x) (0 + y)) ((2 - 1) * (2 - 0))).map u32, 72, true⟩, ⟨bq8, [(.int .i64 (((3 : Nat) : Int))), (.int .i64 (((2 : Nat) : Int))), (.slice (some ⟨xq6, 0, none⟩) (3 * 2) (3 * 2))], 32, true⟩, ⟨xq6, (tab 3 (fun x y => smp [1, 2, 3, 4, 5, 6] 2 y x) (3 * 2)).map u32, 72, true⟩, ⟨bq5, [(.int .i64 (((3 : Nat) : Int))), (.int .i64 (((2 : Nat) : Int))), (.slice (some ⟨xq3, 0, none⟩) (3 * 2) (3 * 2))], 32, true⟩, ⟨xq3, (tab 3 (fun x y => smp [1, 2, 3, 4, 5, 6] 2 y (3 - 1 - x)) (3 * 2)).map u32, 72, true⟩, ⟨bq2, [(.int .i64 2), (.int .i64 3), (.slice (some ⟨bq1, 0, none⟩) 6 6)], 32, true⟩, ⟨bq1, [(.int .u32 1), (.int .u32 2), (.int .u32 3), (.int .u32 4), (.int .u32 5), (.int .u32 6)], 72, true⟩]) rfl rfl rfl T.sz32 rfl rfl rfl rfl) (fun _ _ => ?_)
  refine GL.val (v := (.int .i64 0)) (Ex.assign rfl) (by decide) ?_
  refine GL.nil ?_
  refine GE.thenN ?_
  refine GC.seq ?_
  refine GC.region ?_
  refine GL.val (v := (.agg #[(.int .i64 2), (.int .i64 3), (.slice (some ⟨bq1, 0, none⟩) 6 6)])) (Ex.loadA rfl T.ag32 T.sz32 (i := 6) rfl (vs := [(.int .i64 2), (.int .i64 3), (.slice (some ⟨bq1, 0, none⟩) 6 6)]) rfl rfl) (by decide) ?_
  refine GL.step (Stp.buildSlice (cs := [(.int .u32 9), (.int .u32 9)]) (vs := [(0, (.int .u32 9)), (1, (.int .u32 9))]) Try.underlying30 T.zr72 T.sz72 rfl (by decide) (by decide) (by first | rfl | kernel_rfl) (by decide)) (fun bq12 _ => ?_)
  refine GL.val (v := (.agg #[(.int .i64 1), (.int .i64 2), (.slice (some ⟨bq12, 0, none⟩) 2 2)])) (Ex.build (vs := [(0, (.int .i64 1)), (1, (.int .i64 2)), (2, (.slice (some ⟨bq12, 0, none⟩) 2 2))]) rfl (by first | rfl | kernel_rfl)) (by decide) ?_
  refine GL.step (Stp.callR (σ := Nat) (p := fun rz => True) (v := fun rz => (.tuple #[(.agg #[(.int .i64 (((2 : Nat) : Int))), (.int .i64 (((3 : Nat) : Int))), (.slice (some ⟨rz, 0, none⟩) (2 * 3) (2 * 3))]), (.int .i64 0)])) (N := fun rz => [⟨rz, (tab 2 (pst 1 (-1) 1 2 (smp [1, 2, 3, 4, 5, 6] 2) (smp [9, 9] 1)) (2 * 3)).map u32, 72, true⟩]) (vs := [(.agg #[(.int .i64 2), (.int .i64 3), (.slice (some ⟨bq1, 0, none⟩) 6 6)]), (.agg #[(.int .i64 1), (.int .i64 2), (.slice (some ⟨bq12, 0, none⟩) 2 2)]), (.int .i64 1), (.int .i64 (-1))]) rfl rfl T.own25 (by decide) (fun wc hw => paste 2 3 6 6 bq1 0 1 2 2 2 bq12 0 [1, 2, 3, 4, 5, 6] [9, 9] 1 (-1) wc (by decide) rfl rfl (hw.rdOf (i := 8) rfl 0) (by decide) rfl rfl (hw.rdOf (i := 0) rfl 0) (by decide) (by decide))) (fun xq13 hq14 => ?_)
  refine GL.val (v := (.tuple #[(.agg #[(.int .i64 (((2 : Nat) : Int))), (.int .i64 (((3 : Nat) : Int))), (.slice (some ⟨xq13, 0, none⟩) (2 * 3) (2 * 3))]), (.int .i64 0)])) (Ex.move rfl) (by decide) ?_
  refine GL.val (v := (.agg #[(.int .i64 (((2 : Nat) : Int))), (.int .i64 (((3 : Nat) : Int))), (.slice (some ⟨xq13, 0, none⟩) (2 * 3) (2 * 3))])) (Ex.extract rfl rfl) (by decide) ?_
  refine GL.val (v := (.int .i64 0)) (Ex.extract rfl rfl) (by decide) ?_
  refine GL.step (Stp.alloc T.zr32 (by decide)) (fun bq15 _ => ?_)
  refine GL.step (Stp.storeL (i := 0) (L1 := [⟨bq15, [(.int .i64 (((2 : Nat) : Int))), (.int .i64 (((3 : Nat) : Int))), (.slice (some ⟨xq13, 0, none⟩) (2 * 3) (2 * 3))], 32, true⟩, ⟨xq13, (tab 2 (pst 1 (-1) 1 2 (smp [1, 2, 3, 4, 5, 6] 2) (smp [9, 9] 1)) (2 * 3)).map u32, 72, true⟩, ⟨bq12, [(.int .u32 9), (.int .u32 9)], 72, true⟩, ⟨bq11, [(.int .i64 ((((2 - 1) : Nat) : Int))), (.int .i64 ((((2 - 0) : Nat) : Int))), (.slice (some ⟨xq9, 0, none⟩) ((2 - 1) * (2 - 0)) ((2 - 1) * (2 - 0)))], 32, true⟩, ⟨xq9, (tab (2 - 1) (fun x y => smp [1, 2, 3, 4, 5, 6] 2 (1 + x) (0 + y)) ((2 - 1) * (2 - 0))).map u32, 72, true⟩, ⟨bq8, [(.int .i64 (((3 : Nat) : Int))), (.int .i64 (((2 : Nat) : Int))), (.slice (some ⟨xq6, 0, none⟩) (3 * 2) (3 * 2))], 32, true⟩, ⟨xq6, (tab 3 (fun x y => smp [1, 2, 3, 4, 5, 6] 2 y x) (3 * 2)).map u32, 72, true⟩, ⟨bq5, [(.int .i64 (((3 : Nat) : Int))), (.int .i64 (((2 : Nat) : Int))), (.slice (some ⟨xq3, 0, none⟩) (3 * 2) (3 * 2))], 32, true⟩, ⟨xq3, (tab 3 (fun x y => smp [1, 2, 3, 4, 5, 6] 2 y (3 - 1 - x)) (3 * 2)).map u32, 72, true⟩, ⟨bq2, [(.int .i64 2), (.int .i64 3), (.slice (some ⟨bq1, 0, none⟩) 6 6)], 32, true⟩, ⟨bq1, [(.int .u32 1), (.int .u32 2), (.int .u32 3), (.int .u32 4), (.int .u32 5), (.int .u32 6)], 72, true⟩]) rfl rfl rfl T.sz32 rfl rfl rfl rfl) (fun _ _ => ?_)
  refine GL.val (v := (.int .i64 0)) (Ex.assign rfl) (by decide) ?_
  refine GL.nil ?_
  refine GE.thenN ?_
  refine GC.seq ?_
  refine GC.region ?_
  refine GL.val (v := (.agg #[(.int .i64 2), (.int .i64 3), (.slice (some ⟨bq1, 0, none⟩) 6 6)])) (Ex.loadA rfl T.ag32 T.sz32 (i := 9) rfl (vs := [(.int .i64 2), (.int .i64 3), (.slice (some ⟨bq1, 0, none⟩) 6 6)]) rfl rfl) (by decide) ?_
  refine GL.step (Stp.callR (σ := Nat) (p := fun rz => True) (v := fun rz => (.tuple #[(.agg #[(.int .i64 ((((1 + 2 + 0) : Nat) : Int))), (.int .i64 ((((0 + 3 + 0) : Nat) : Int))), (.slice (some ⟨rz, 0, none⟩) ((1 + 2 + 0) * (0 + 3 + 0)) ((1 + 2 + 0) * (0 + 3 + 0)))]), (.int .i64 0)])) (N := fun rz => [⟨rz, (tab (1 + 2 + 0) (fun x y => smp [1, 2, 3, 4, 5, 6] 2 (bord 2 2 ((x : Int) - ((1 : Nat) : Int))).1.toNat (bord 2 3 ((y : Int) - ((0 : Nat) : Int))).1.toNat) ((1 + 2 + 0) * (0 + 3 + 0))).map u32, 72, true⟩]) (vs := [(.agg #[(.int .i64 2), (.int .i64 3), (.slice (some ⟨bq1, 0, none⟩) 6 6)]), (.int .i64 2), (.int .i64 1), (.int .i64 0), (.int .i64 0), (.int .i64 0)]) rfl rfl T.own19 (by decide) (fun wc hw => extend 2 3 6 6 bq1 0 1 0 0 0 [1, 2, 3, 4, 5, 6] 2 wc (by decide) rfl rfl (hw.rdOf (i := 10) rfl 0) (by decide) (by decide) (by decide))) (fun xq16 hq17 => ?_)
  refine GL.val (v := (.tuple #[(.agg #[(.int .i64 ((((1 + 2 + 0) : Nat) : Int))), (.int .i64 ((((0 + 3 + 0) : Nat) : Int))), (.slice (some ⟨xq16, 0, none⟩) ((1 + 2 + 0) * (0 + 3 + 0)) ((1 + 2 + 0) * (0 + 3 + 0)))]), (.int .i64 0)])) (Ex.move rfl) (by decide) ?_
  refine GL.val (v := (.agg #[(.int .i64 ((((1 + 2 + 0) : Nat) : Int))), (.int .i64 ((((0 + 3 + 0) : Nat) : Int))), (.slice (some ⟨xq16, 0, none⟩) ((1 + 2 + 0) * (0 + 3 + 0)) ((1 + 2 + 0) * (0 + 3 + 0)))])) (Ex.extract rfl rfl) (by decide) ?_
  refine GL.val (v := (.int .i64 0)) (Ex.extract rfl rfl) (by decide) ?_
  refine GL.step (Stp.alloc T.zr32 (by decide)) (fun bq18 _ => ?_)
  refine GL.step (Stp.storeL (i := 0) (L1 := [⟨bq18, [(.int .i64 ((((1 + 2 + 0) : Nat) : Int))), (.int .i64 ((((0 + 3 + 0) : Nat) : Int))), (.slice (some ⟨xq16, 0, none⟩) ((1 + 2 + 0) * (0 + 3 + 0)) ((1 + 2 + 0) * (0 + 3 + 0)))], 32, true⟩, ⟨xq16, (tab (1 + 2 + 0) (fun x y => smp [1, 2, 3, 4, 5, 6] 2 (bord 2 2 ((x : Int) - ((1 : Nat) : Int))).1.toNat (bord 2 3 ((y : Int) - ((0 : Nat) : Int))).1.toNat) ((1 + 2 + 0) * (0 + 3 + 0))).map u32, 72, true⟩, ⟨bq15, [(.int .i64 (((2 : Nat) : Int))), (.int .i64 (((3 : Nat) : Int))), (.slice (some ⟨xq13, 0, none⟩) (2 * 3) (2 * 3))], 32, true⟩, ⟨xq13, (tab 2 (pst 1 (-1) 1 2 (smp [1, 2, 3, 4, 5, 6] 2) (smp [9, 9] 1)) (2 * 3)).map u32, 72, true⟩, ⟨bq12, [(.int .u32 9), (.int .u32 9)], 72, true⟩, ⟨bq11, [(.int .i64 ((((2 - 1) : Nat) : Int))), (.int .i64 ((((2 - 0) : Nat) : Int))), (.slice (some ⟨xq9, 0, none⟩) ((2 - 1) * (2 - 0)) ((2 - 1) * (2 - 0)))], 32, true⟩, ⟨xq9, (tab (2 - 1) (fun x y => smp [1, 2, 3, 4, 5, 6] 2 (1 + x) (0 + y)) ((2 - 1) * (2 - 0))).map u32, 72, true⟩, ⟨bq8, [(.int .i64 (((3 : Nat) : Int))), (.int .i64 (((2 : Nat) : Int))), (.slice (some ⟨xq6, 0, none⟩) (3 * 2) (3 * 2))], 32, true⟩, ⟨xq6, (tab 3 (fun x y => smp [1, 2, 3, 4, 5, 6] 2 y x) (3 * 2)).map u32, 72, true⟩, ⟨bq5, [(.int .i64 (((3 : Nat) : Int))), (.int .i64 (((2 : Nat) : Int))), (.slice (some ⟨xq3, 0, none⟩) (3 * 2) (3 * 2))], 32, true⟩, ⟨xq3, (tab 3 (fun x y => smp [1, 2, 3, 4, 5, 6] 2 y (3 - 1 - x)) (3 * 2)).map u32, 72, true⟩, ⟨bq2, [(.int .i64 2), (.int .i64 3), (.slice (some ⟨bq1, 0, none⟩) 6 6)], 32, true⟩, ⟨bq1, [(.int .u32 1), (.int .u32 2), (.int .u32 3), (.int .u32 4), (.int .u32 5), (.int .u32 6)], 72, true⟩]) rfl rfl rfl T.sz32 rfl rfl rfl rfl) (fun _ _ => ?_)
  refine GL.val (v := (.int .i64 0)) (Ex.assign rfl) (by decide) ?_
  refine GL.nil ?_
  refine GE.thenN ?_
  refine GC.seq ?_
  refine GC.region ?_
  refine GL.step (Stp.callR (σ := Unit) (p := fun rz => True) (v := fun rz => (.tuple #[(.int .i64 1), (.int .i64 0)])) (N := fun rz => []) (vs := [(.int .i64 2), (.int .i64 4), (.int .i64 (-1))]) rfl rfl T.own14 (by decide) (fun wc hw => by have h := border 2 4 (-1) wc; rw [show bord 2 4 (-1) = (1, 0) from by decide] at h; exact h)) (fun xq19 hq20 => ?_)
  refine GL.val (v := (.tuple #[(.int .i64 1), (.int .i64 0)])) (Ex.move rfl) (by decide) ?_
  refine GL.val (v := (.int .i64 1)) (Ex.extract rfl rfl) (by decide) ?_
  refine GL.val (v := (.int .i64 0)) (Ex.extract rfl rfl) (by decide) ?_
  refine GL.val (v := (.int .i64 1)) (Ex.assign rfl) (by decide) ?_
  refine GL.val (v := (.int .i64 0)) (Ex.assign rfl) (by decide) ?_
  refine GL.nil ?_
  refine GE.thenN ?_
  refine GC.seq ?_
  refine GC.region ?_
  refine GL.step (Stp.callR (σ := Unit) (p := fun rz => True) (v := fun rz => (.tuple #[(.int .i64 1), (.int .i64 0)])) (N := fun rz => []) (vs := [(.int .i64 2), (.int .i64 4), (.int .i64 5)]) rfl rfl T.own14 (by decide) (fun wc hw => by have h := border 2 4 5 wc; rw [show bord 2 4 5 = (1, 0) from by decide] at h; exact h)) (fun xq21 hq22 => ?_)
  refine GL.val (v := (.tuple #[(.int .i64 1), (.int .i64 0)])) (Ex.move rfl) (by decide) ?_
  refine GL.val (v := (.int .i64 1)) (Ex.extract rfl rfl) (by decide) ?_
  refine GL.val (v := (.int .i64 0)) (Ex.extract rfl rfl) (by decide) ?_
  refine GL.val (v := (.int .i64 1)) (Ex.assign rfl) (by decide) ?_
  refine GL.val (v := (.int .i64 0)) (Ex.assign rfl) (by decide) ?_
  refine GL.nil ?_
  refine GE.thenN ?_
  refine GC.seq ?_
  refine GC.region ?_
  refine GL.step (Stp.callR (σ := Unit) (p := fun rz => True) (v := fun rz => (.tuple #[(.int .i64 0), (.int .i64 0)])) (N := fun rz => []) (vs := [(.int .i64 2), (.int .i64 4), (.int .i64 6)]) rfl rfl T.own14 (by decide) (fun wc hw => by have h := border 2 4 6 wc; rw [show bord 2 4 6 = (0, 0) from by decide] at h; exact h)) (fun xq23 hq24 => ?_)
  refine GL.val (v := (.tuple #[(.int .i64 0), (.int .i64 0)])) (Ex.move rfl) (by decide) ?_
  refine GL.val (v := (.int .i64 0)) (Ex.extract rfl rfl) (by decide) ?_
  refine GL.val (v := (.int .i64 0)) (Ex.extract rfl rfl) (by decide) ?_
  refine GL.val (v := (.int .i64 0)) (Ex.assign rfl) (by decide) ?_
  refine GL.val (v := (.int .i64 0)) (Ex.assign rfl) (by decide) ?_
  refine GL.nil ?_
  refine GE.thenN ?_
  refine GC.seq ?_
  refine GC.region ?_
  refine GL.step (Stp.callR (σ := Unit) (p := fun rz => True) (v := fun rz => (.tuple #[(.int .i64 3), (.int .i64 0)])) (N := fun rz => []) (vs := [(.int .i64 3), (.int .i64 4), (.int .i64 (-1))]) rfl rfl T.own14 (by decide) (fun wc hw => by have h := border 3 4 (-1) wc; rw [show bord 3 4 (-1) = (3, 0) from by decide] at h; exact h)) (fun xq25 hq26 => ?_)
  refine GL.val (v := (.tuple #[(.int .i64 3), (.int .i64 0)])) (Ex.move rfl) (by decide) ?_
  refine GL.val (v := (.int .i64 3)) (Ex.extract rfl rfl) (by decide) ?_
  refine GL.val (v := (.int .i64 0)) (Ex.extract rfl rfl) (by decide) ?_
  refine GL.val (v := (.int .i64 3)) (Ex.assign rfl) (by decide) ?_
  refine GL.val (v := (.int .i64 0)) (Ex.assign rfl) (by decide) ?_
  refine GL.nil ?_
  refine GE.thenN ?_
  refine GC.seq ?_
  refine GC.region ?_
  refine GL.val (v := (.agg #[(.int .i64 (((3 : Nat) : Int))), (.int .i64 (((2 : Nat) : Int))), (.slice (some ⟨xq3, 0, none⟩) (3 * 2) (3 * 2))])) (Ex.loadA rfl T.ag32 T.sz32 (i := 9) rfl (vs := [(.int .i64 (((3 : Nat) : Int))), (.int .i64 (((2 : Nat) : Int))), (.slice (some ⟨xq3, 0, none⟩) (3 * 2) (3 * 2))]) rfl rfl) (by decide) ?_
  refine GL.step (Stp.buildSlice (cs := [(.int .u32 5), (.int .u32 3), (.int .u32 1), (.int .u32 6), (.int .u32 4), (.int .u32 2)]) (vs := [(0, (.int .u32 5)), (1, (.int .u32 3)), (2, (.int .u32 1)), (3, (.int .u32 6)), (4, (.int .u32 4)), (5, (.int .u32 2))]) Try.underlying30 T.zr72 T.sz72 rfl (by decide) (by decide) (by first | rfl | kernel_rfl) (by decide)) (fun bq27 _ => ?_)
  refine GL.step (Stp.callR (σ := Unit) (p := fun rz => True) (v := fun rz => (.bool true)) (N := fun rz => []) (vs := [(.agg #[(.int .i64 (((3 : Nat) : Int))), (.int .i64 (((2 : Nat) : Int))), (.slice (some ⟨xq3, 0, none⟩) (3 * 2) (3 * 2))]), (.int .i64 3), (.int .i64 2), (.slice (some ⟨bq27, 0, none⟩) 6 6)]) rfl rfl T.own44 (by decide) (fun wc hw => by have h := is_ 3 2 3 2 xq3 0 (3 * 2) (3 * 2) bq27 0 (6) (6) (tab 3 (fun x y => smp [1, 2, 3, 4, 5, 6] 2 y (3 - 1 - x)) (3 * 2)) [5, 3, 1, 6, 4, 2] wc rfl rfl (hw.rdOf (i := 11) rfl 0) (hw.rdOf (i := 0) rfl 0) (by decide); rw [show eqB 3 2 (tab 3 (fun x y => smp [1, 2, 3, 4, 5, 6] 2 y (3 - 1 - x)) (3 * 2)) 3 2 [5, 3, 1, 6, 4, 2] = true from by decide] at h; exact h)) (fun xq28 hq29 => ?_)
  refine GL.val (v := (.bool true)) (Ex.move rfl) (by decide) ?_
  refine GL.stepG (tj := 69) rfl rfl (Ex.wp (v := (.agg #[(.int .i64 (((3 : Nat) : Int))), (.int .i64 (((2 : Nat) : Int))), (.slice (some ⟨xq6, 0, none⟩) (3 * 2) (3 * 2))])) (Ex.loadA rfl T.ag32 T.sz32 (i := 8) rfl (vs := [(.int .i64 (((3 : Nat) : Int))), (.int .i64 (((2 : Nat) : Int))), (.slice (some ⟨xq6, 0, none⟩) (3 * 2) (3 * 2))]) rfl rfl) (by decide)) (fun _ _ => ?_)
  refine GL.stepG (tj := 69) rfl rfl (Stp.buildSlice (cs := [(.int .u32 1), (.int .u32 3), (.int .u32 5), (.int .u32 2), (.int .u32 4), (.int .u32 6)]) (vs := [(0, (.int .u32 1)), (1, (.int .u32 3)), (2, (.int .u32 5)), (3, (.int .u32 2)), (4, (.int .u32 4)), (5, (.int .u32 6))]) Try.underlying30 T.zr72 T.sz72 rfl (by decide) (by decide) (by first | rfl | kernel_rfl) (by decide)) (fun bq30 _ => ?_)
  refine GL.stepG (tj := 69) rfl rfl (Stp.callR (σ := Unit) (p := fun rz => True) (v := fun rz => (.bool true)) (N := fun rz => []) (vs := [(.agg #[(.int .i64 (((3 : Nat) : Int))), (.int .i64 (((2 : Nat) : Int))), (.slice (some ⟨xq6, 0, none⟩) (3 * 2) (3 * 2))]), (.int .i64 3), (.int .i64 2), (.slice (some ⟨bq30, 0, none⟩) 6 6)]) rfl rfl T.own44 (by decide) (fun wc hw => by have h := is_ 3 2 3 2 xq6 0 (3 * 2) (3 * 2) bq30 0 (6) (6) (tab 3 (fun x y => smp [1, 2, 3, 4, 5, 6] 2 y x) (3 * 2)) [1, 3, 5, 2, 4, 6] wc rfl rfl (hw.rdOf (i := 10) rfl 0) (hw.rdOf (i := 0) rfl 0) (by decide); rw [show eqB 3 2 (tab 3 (fun x y => smp [1, 2, 3, 4, 5, 6] 2 y x) (3 * 2)) 3 2 [1, 3, 5, 2, 4, 6] = true from by decide] at h; exact h)) (fun xq31 hq32 => ?_)
  refine GL.val (v := (.bool true)) (Ex.pickT rfl rfl) (by decide) ?_
  refine GL.val (v := (.bool true)) (Ex.move rfl) (by decide) ?_
  refine GL.stepG (tj := 74) rfl rfl (Ex.wp (v := (.agg #[(.int .i64 ((((2 - 1) : Nat) : Int))), (.int .i64 ((((2 - 0) : Nat) : Int))), (.slice (some ⟨xq9, 0, none⟩) ((2 - 1) * (2 - 0)) ((2 - 1) * (2 - 0)))])) (Ex.loadA rfl T.ag32 T.sz32 (i := 7) rfl (vs := [(.int .i64 ((((2 - 1) : Nat) : Int))), (.int .i64 ((((2 - 0) : Nat) : Int))), (.slice (some ⟨xq9, 0, none⟩) ((2 - 1) * (2 - 0)) ((2 - 1) * (2 - 0)))]) rfl rfl) (by decide)) (fun _ _ => ?_)
  refine GL.stepG (tj := 74) rfl rfl (Stp.buildSlice (cs := [(.int .u32 2), (.int .u32 4)]) (vs := [(0, (.int .u32 2)), (1, (.int .u32 4))]) Try.underlying30 T.zr72 T.sz72 rfl (by decide) (by decide) (by first | rfl | kernel_rfl) (by decide)) (fun bq33 _ => ?_)
  refine GL.stepG (tj := 74) rfl rfl (Stp.callR (σ := Unit) (p := fun rz => True) (v := fun rz => (.bool true)) (N := fun rz => []) (vs := [(.agg #[(.int .i64 ((((2 - 1) : Nat) : Int))), (.int .i64 ((((2 - 0) : Nat) : Int))), (.slice (some ⟨xq9, 0, none⟩) ((2 - 1) * (2 - 0)) ((2 - 1) * (2 - 0)))]), (.int .i64 1), (.int .i64 2), (.slice (some ⟨bq33, 0, none⟩) 2 2)]) rfl rfl T.own44 (by decide) (fun wc hw => by have h := is_ 1 2 1 2 xq9 0 ((2 - 1) * (2 - 0)) ((2 - 1) * (2 - 0)) bq33 0 (2) (2) (tab (2 - 1) (fun x y => smp [1, 2, 3, 4, 5, 6] 2 (1 + x) (0 + y)) ((2 - 1) * (2 - 0))) [2, 4] wc rfl rfl (hw.rdOf (i := 9) rfl 0) (hw.rdOf (i := 0) rfl 0) (by decide); rw [show eqB 1 2 (tab (2 - 1) (fun x y => smp [1, 2, 3, 4, 5, 6] 2 (1 + x) (0 + y)) ((2 - 1) * (2 - 0))) 1 2 [2, 4] = true from by decide] at h; exact h)) (fun xq34 hq35 => ?_)
  refine GL.val (v := (.bool true)) (Ex.pickT rfl rfl) (by decide) ?_
  refine GL.val (v := (.bool true)) (Ex.move rfl) (by decide) ?_
  refine GL.stepG (tj := 79) rfl rfl (Ex.wp (v := (.agg #[(.int .i64 (((2 : Nat) : Int))), (.int .i64 (((3 : Nat) : Int))), (.slice (some ⟨xq13, 0, none⟩) (2 * 3) (2 * 3))])) (Ex.loadA rfl T.ag32 T.sz32 (i := 5) rfl (vs := [(.int .i64 (((2 : Nat) : Int))), (.int .i64 (((3 : Nat) : Int))), (.slice (some ⟨xq13, 0, none⟩) (2 * 3) (2 * 3))]) rfl rfl) (by decide)) (fun _ _ => ?_)
  refine GL.stepG (tj := 79) rfl rfl (Stp.buildSlice (cs := [(.int .u32 1), (.int .u32 9), (.int .u32 3), (.int .u32 4), (.int .u32 5), (.int .u32 6)]) (vs := [(0, (.int .u32 1)), (1, (.int .u32 9)), (2, (.int .u32 3)), (3, (.int .u32 4)), (4, (.int .u32 5)), (5, (.int .u32 6))]) Try.underlying30 T.zr72 T.sz72 rfl (by decide) (by decide) (by first | rfl | kernel_rfl) (by decide)) (fun bq36 _ => ?_)
  refine GL.stepG (tj := 79) rfl rfl (Stp.callR (σ := Unit) (p := fun rz => True) (v := fun rz => (.bool true)) (N := fun rz => []) (vs := [(.agg #[(.int .i64 (((2 : Nat) : Int))), (.int .i64 (((3 : Nat) : Int))), (.slice (some ⟨xq13, 0, none⟩) (2 * 3) (2 * 3))]), (.int .i64 2), (.int .i64 3), (.slice (some ⟨bq36, 0, none⟩) 6 6)]) rfl rfl T.own44 (by decide) (fun wc hw => by have h := is_ 2 3 2 3 xq13 0 (2 * 3) (2 * 3) bq36 0 (6) (6) (tab 2 (pst 1 (-1) 1 2 (smp [1, 2, 3, 4, 5, 6] 2) (smp [9, 9] 1)) (2 * 3)) [1, 9, 3, 4, 5, 6] wc rfl rfl (hw.rdOf (i := 7) rfl 0) (hw.rdOf (i := 0) rfl 0) (by decide); rw [show eqB 2 3 (tab 2 (pst 1 (-1) 1 2 (smp [1, 2, 3, 4, 5, 6] 2) (smp [9, 9] 1)) (2 * 3)) 2 3 [1, 9, 3, 4, 5, 6] = true from by decide] at h; exact h)) (fun xq37 hq38 => ?_)
  refine GL.val (v := (.bool true)) (Ex.pickT rfl rfl) (by decide) ?_
  refine GL.val (v := (.bool true)) (Ex.move rfl) (by decide) ?_
  refine GL.stepG (tj := 84) rfl rfl (Ex.wp (v := (.agg #[(.int .i64 ((((1 + 2 + 0) : Nat) : Int))), (.int .i64 ((((0 + 3 + 0) : Nat) : Int))), (.slice (some ⟨xq16, 0, none⟩) ((1 + 2 + 0) * (0 + 3 + 0)) ((1 + 2 + 0) * (0 + 3 + 0)))])) (Ex.loadA rfl T.ag32 T.sz32 (i := 4) rfl (vs := [(.int .i64 ((((1 + 2 + 0) : Nat) : Int))), (.int .i64 ((((0 + 3 + 0) : Nat) : Int))), (.slice (some ⟨xq16, 0, none⟩) ((1 + 2 + 0) * (0 + 3 + 0)) ((1 + 2 + 0) * (0 + 3 + 0)))]) rfl rfl) (by decide)) (fun _ _ => ?_)
  refine GL.stepG (tj := 84) rfl rfl (Stp.buildSlice (cs := [(.int .u32 2), (.int .u32 1), (.int .u32 2), (.int .u32 4), (.int .u32 3), (.int .u32 4), (.int .u32 6), (.int .u32 5), (.int .u32 6)]) (vs := [(0, (.int .u32 2)), (1, (.int .u32 1)), (2, (.int .u32 2)), (3, (.int .u32 4)), (4, (.int .u32 3)), (5, (.int .u32 4)), (6, (.int .u32 6)), (7, (.int .u32 5)), (8, (.int .u32 6))]) Try.underlying30 T.zr72 T.sz72 rfl (by decide) (by decide) (by first | rfl | kernel_rfl) (by decide)) (fun bq39 _ => ?_)
  refine GL.stepG (tj := 84) rfl rfl (Stp.callR (σ := Unit) (p := fun rz => True) (v := fun rz => (.bool true)) (N := fun rz => []) (vs := [(.agg #[(.int .i64 ((((1 + 2 + 0) : Nat) : Int))), (.int .i64 ((((0 + 3 + 0) : Nat) : Int))), (.slice (some ⟨xq16, 0, none⟩) ((1 + 2 + 0) * (0 + 3 + 0)) ((1 + 2 + 0) * (0 + 3 + 0)))]), (.int .i64 3), (.int .i64 3), (.slice (some ⟨bq39, 0, none⟩) 9 9)]) rfl rfl T.own44 (by decide) (fun wc hw => by have h := is_ 3 3 3 3 xq16 0 ((1 + 2 + 0) * (0 + 3 + 0)) ((1 + 2 + 0) * (0 + 3 + 0)) bq39 0 (9) (9) (tab (1 + 2 + 0) (fun x y => smp [1, 2, 3, 4, 5, 6] 2 (bord 2 2 ((x : Int) - ((1 : Nat) : Int))).1.toNat (bord 2 3 ((y : Int) - ((0 : Nat) : Int))).1.toNat) ((1 + 2 + 0) * (0 + 3 + 0))) [2, 1, 2, 4, 3, 4, 6, 5, 6] wc rfl rfl (hw.rdOf (i := 6) rfl 0) (hw.rdOf (i := 0) rfl 0) (by decide); rw [show eqB 3 3 (tab (1 + 2 + 0) (fun x y => smp [1, 2, 3, 4, 5, 6] 2 (bord 2 2 ((x : Int) - ((1 : Nat) : Int))).1.toNat (bord 2 3 ((y : Int) - ((0 : Nat) : Int))).1.toNat) ((1 + 2 + 0) * (0 + 3 + 0))) 3 3 [2, 1, 2, 4, 3, 4, 6, 5, 6] = true from by decide] at h; exact h)) (fun xq40 hq41 => ?_)
  refine GL.val (v := (.bool true)) (Ex.pickT rfl rfl) (by decide) ?_
  refine GL.val (v := (.bool true)) (Ex.move rfl) (by decide) ?_
  refine GL.stepG (tj := 89) rfl rfl (Ex.wp (v := (.int .i64 1)) (Ex.move rfl) (by decide)) (fun _ _ => ?_)
  refine GL.stepG (tj := 89) rfl rfl (Ex.wp (v := (.bool true)) (Ex.cast (Ex.eql rfl rfl) rfl) (by decide)) (fun _ _ => ?_)
  refine GL.val (v := (.bool true)) (Ex.pickT rfl rfl) (by decide) ?_
  refine GL.val (v := (.bool true)) (Ex.move rfl) (by decide) ?_
  refine GL.stepG (tj := 93) rfl rfl (Ex.wp (v := (.int .i64 1)) (Ex.move rfl) (by decide)) (fun _ _ => ?_)
  refine GL.stepG (tj := 93) rfl rfl (Ex.wp (v := (.bool true)) (Ex.cast (Ex.eql rfl rfl) rfl) (by decide)) (fun _ _ => ?_)
  refine GL.val (v := (.bool true)) (Ex.pickT rfl rfl) (by decide) ?_
  refine GL.val (v := (.bool true)) (Ex.move rfl) (by decide) ?_
  refine GL.stepG (tj := 97) rfl rfl (Ex.wp (v := (.int .i64 0)) (Ex.move rfl) (by decide)) (fun _ _ => ?_)
  refine GL.stepG (tj := 97) rfl rfl (Ex.wp (v := (.bool true)) (Ex.cast (Ex.eql rfl rfl) rfl) (by decide)) (fun _ _ => ?_)
  refine GL.val (v := (.bool true)) (Ex.pickT rfl rfl) (by decide) ?_
  refine GL.val (v := (.bool true)) (Ex.move rfl) (by decide) ?_
  refine GL.stepG (tj := 101) rfl rfl (Ex.wp (v := (.int .i64 3)) (Ex.move rfl) (by decide)) (fun _ _ => ?_)
  refine GL.stepG (tj := 101) rfl rfl (Ex.wp (v := (.bool true)) (Ex.cast (Ex.eql rfl rfl) rfl) (by decide)) (fun _ _ => ?_)
  refine GL.val (v := (.bool true)) (Ex.pickT rfl rfl) (by decide) ?_
  refine GL.val (v := (.bool true)) (Ex.assign rfl) (by decide) ?_
  refine GL.nil ?_
  refine GE.thenN ?_
  refine GC.ret ?_
  refine GC.ret1 rfl (Rv.tmp rfl) (fun wN HN => ?_)
  exact HN.ret () trivial rfl (List.nil_sublist _) rfl

set_option maxRecDepth 100000 in
set_option maxHeartbeats 1000000 in
theorem lawBorders (k n i : Int) (w : World) :
    Calls Try.prog 4 #[(.int .i64 k), (.int .i64 n), (.int .i64 i)] w (Ret w (fun _ : Unit => True) (fun _ => .bool true) (fun _ => [])) := by
  refine enter (M := None) (L := []) (n := 36) (l := [(0, (.int .i64 k)), (1, (.int .i64 n)), (2, (.int .i64 i))]) Try.func4 rfl rfl (Args.cons rfl (Args.cons rfl (Args.cons rfl (Args.nil _)))) (Hp.start _ _) ?_
  refine GC.seq ?_
  refine GC.region ?_
  refine GL.val (v := (.bool false)) (Ex.assign rfl) (by decide) ?_
  refine GL.nil ?_
  refine GE.thenN ?_
  refine GC.seq ?_
  refine GC.seq ?_
  refine GC.region ?_
  refine GL.step (Stp.callR (σ := Unit) (p := fun rz => True) (v := fun rz => (.bool true)) (N := fun rz => []) (vs := []) rfl rfl T.own13 (by decide) (fun wc hw => known wc)) (fun xq1 hq2 => ?_)
  refine GL.val (v := (.bool false)) (Ex.cast (Ex.not rfl) rfl) (by decide) ?_
  refine GL.nil ?_
  refine GE.thenN ?_
  refine GC.cond rfl (fun hq3 => by cases hq3) (fun _ => ?_)
  refine GC.skip ?_
  refine GE.thenN ?_
  refine GC.seq ?_
  refine GC.region ?_
  refine GL.val (v := (.int .i64 k)) (Ex.move rfl) (by decide) ?_
  refine GL.val (v := (.int .i64 n)) (Ex.move rfl) (by decide) ?_
  refine GL.val (v := (.int .i64 i)) (Ex.move rfl) (by decide) ?_
  refine GL.step (Stp.callR (σ := Unit) (p := fun rz => True) (v := fun rz => (.tuple #[(.int .i64 ((bord k n i).1)), (.int .i64 ((bord k n i).2))])) (N := fun rz => []) (vs := [(.int .i64 k), (.int .i64 n), (.int .i64 i)]) rfl rfl T.own14 (by decide) (fun wc hw => border k n i wc)) (fun xq4 hq5 => ?_)
  refine GL.val (v := (.tuple #[(.int .i64 ((bord k n i).1)), (.int .i64 ((bord k n i).2))])) (Ex.move rfl) (by decide) ?_
  refine GL.val (v := (.int .i64 ((bord k n i).1))) (Ex.extract rfl rfl) (by decide) ?_
  refine GL.val (v := (.int .i64 ((bord k n i).2))) (Ex.extract rfl rfl) (by decide) ?_
  refine GL.val (v := (.int .i64 ((bord k n i).1))) (Ex.assign rfl) (by decide) ?_
  refine GL.val (v := (.int .i64 ((bord k n i).2))) (Ex.assign rfl) (by decide) ?_
  refine GL.nil ?_
  refine GE.thenN ?_
  refine GC.seq ?_
  refine GC.region ?_
  refine GL.val (v := (.int .i64 k)) (Ex.move rfl) (by decide) ?_
  refine GL.val (v := (.int .i64 n)) (Ex.move rfl) (by decide) ?_
  refine GL.val (v := (.int .i64 i)) (Ex.move rfl) (by decide) ?_
  refine GL.step (Stp.callR (σ := Unit) (p := fun rz => True) (v := fun rz => (.tuple #[(.int .i64 ((bord k n i).1)), (.int .i64 ((bord k n i).2))])) (N := fun rz => []) (vs := [(.int .i64 k), (.int .i64 n), (.int .i64 i)]) rfl rfl T.own15 (by decide) (fun wc hw => ref_border k n i wc)) (fun xq6 hq7 => ?_)
  refine GL.val (v := (.tuple #[(.int .i64 ((bord k n i).1)), (.int .i64 ((bord k n i).2))])) (Ex.move rfl) (by decide) ?_
  refine GL.val (v := (.int .i64 ((bord k n i).1))) (Ex.extract rfl rfl) (by decide) ?_
  refine GL.val (v := (.int .i64 ((bord k n i).2))) (Ex.extract rfl rfl) (by decide) ?_
  refine GL.val (v := (.int .i64 ((bord k n i).1))) (Ex.assign rfl) (by decide) ?_
  refine GL.val (v := (.int .i64 ((bord k n i).2))) (Ex.assign rfl) (by decide) ?_
  refine GL.nil ?_
  refine GE.thenN ?_
  refine GC.seq ?_
  refine GC.region ?_
  refine GL.val (v := (.int .i64 ((bord k n i).1))) (Ex.move rfl) (by decide) ?_
  refine GL.val (v := (.int .i64 ((bord k n i).1))) (Ex.move rfl) (by decide) ?_
  refine GL.val (v := (.bool true)) (Ex.cast (Ex.eql rfl rfl) (congrArg Value.bool (decide_eq_true (by rfl)))) (by decide) ?_
  refine GL.val (v := (.bool true)) (Ex.move rfl) (by decide) ?_
  refine GL.stepG (tj := 30) rfl rfl (Ex.wp (v := (.int .i64 ((bord k n i).2))) (Ex.move rfl) (by decide)) (fun _ _ => ?_)
  refine GL.stepG (tj := 30) rfl rfl (Stp.callR (σ := Unit) (p := fun rz => True) (v := fun rz => (.int .i64 ((bord k n i).2))) (N := fun rz => []) (vs := [(.int .i64 ((bord k n i).2))]) rfl rfl T.own16 (by decide) (fun wc hw => num ((bord k n i).2) wc)) (fun xq8 hq9 => ?_)
  refine GL.stepG (tj := 30) rfl rfl (Ex.wp (v := (.int .i64 ((bord k n i).2))) (Ex.move rfl) (by decide)) (fun _ _ => ?_)
  refine GL.stepG (tj := 30) rfl rfl (Ex.wp (v := (.bool true)) (Ex.cast (Ex.eql rfl rfl) (congrArg Value.bool (decide_eq_true (by rfl)))) (by decide)) (fun _ _ => ?_)
  refine GL.val (v := (.bool true)) (Ex.pickT rfl rfl) (by decide) ?_
  refine GL.val (v := (.bool true)) (Ex.assign rfl) (by decide) ?_
  refine GL.nil ?_
  refine GE.thenN ?_
  refine GC.ret ?_
  refine GC.ret1 rfl (Rv.tmp rfl) (fun wN HN => ?_)
  exact HN.ret () trivial rfl (List.nil_sublist _) rfl

set_option maxRecDepth 100000 in
set_option maxHeartbeats 1000000 in
theorem lawEdges (n i : Int) (w : World) :
    Calls Try.prog 7 #[(.int .i64 n), (.int .i64 i)] w (Ret w (fun _ : Unit => True) (fun _ => .bool true) (fun _ => [])) := by
  refine enter (M := None) (L := []) (n := 126) (l := [(0, (.int .i64 n)), (1, (.int .i64 i))]) Try.func7 rfl rfl (Args.cons rfl (Args.cons rfl (Args.nil _))) (Hp.start _ _) ?_
  refine GC.seq ?_
  refine GC.region ?_
  refine GL.val (v := (.bool false)) (Ex.assign rfl) (by decide) ?_
  refine GL.nil ?_
  refine GE.thenN ?_
  refine GC.seq ?_
  refine GC.seq ?_
  refine GC.region ?_
  refine GL.step (Stp.callR (σ := Unit) (p := fun rz => True) (v := fun rz => (.bool true)) (N := fun rz => []) (vs := []) rfl rfl T.own13 (by decide) (fun wc hw => known wc)) (fun xq1 hq2 => ?_)
  refine GL.val (v := (.bool false)) (Ex.cast (Ex.not rfl) rfl) (by decide) ?_
  refine GL.nil ?_
  refine GE.thenN ?_
  refine GC.cond rfl (fun hq3 => by cases hq3) (fun _ => ?_)
  refine GC.skip ?_
  refine GE.thenN ?_
  refine GC.seq ?_
  refine GC.seq ?_
  refine GC.region ?_
  refine GL.val (v := (.int .i64 n)) (Ex.move rfl) (by decide) ?_
  by_cases hq4 : n < 1
  · refine GL.val (v := (.bool true)) (Ex.cast (Ex.lss rfl rfl) (congrArg Value.bool (decide_eq_true hq4))) (by decide) ?_
    refine GL.val (v := (.bool true)) (Ex.move rfl) (by decide) ?_
    refine GL.skipG (tj := 23) rfl rfl rfl (by decide) ?_
    refine GL.skipG (tj := 23) rfl rfl rfl (by decide) ?_
    refine GL.val (v := (.bool true)) (Ex.pickT rfl rfl) (by decide) ?_
    refine GL.val (v := (.bool true)) (Ex.move rfl) (by decide) ?_
    refine GL.skipG (tj := 27) rfl rfl rfl (by decide) ?_
    refine GL.skipG (tj := 27) rfl rfl rfl (by decide) ?_
    refine GL.val (v := (.bool true)) (Ex.pickT rfl rfl) (by decide) ?_
    refine GL.val (v := (.bool true)) (Ex.move rfl) (by decide) ?_
    refine GL.skipG (tj := 31) rfl rfl rfl (by decide) ?_
    refine GL.skipG (tj := 31) rfl rfl rfl (by decide) ?_
    refine GL.val (v := (.bool true)) (Ex.pickT rfl rfl) (by decide) ?_
    refine GL.nil ?_
    refine GE.thenN ?_
    refine GC.cond rfl (fun _ => ?_) (fun hq5 => by cases hq5)
    refine GC.seq ?_
    refine GC.region ?_
    refine GL.val (v := (.bool true)) (Ex.assign rfl) (by decide) ?_
    refine GL.nil ?_
    refine GE.thenN ?_
    refine GC.ret ?_
    refine GE.thenR ?_
    refine GC.ret1 rfl (Rv.tmp rfl) (fun wN HN => ?_)
    exact HN.ret () trivial (by first | rfl | (exfalso; omega)) (List.nil_sublist _) rfl
  · refine GL.val (v := (.bool false)) (Ex.cast (Ex.lss rfl rfl) (congrArg Value.bool (decide_eq_false hq4))) (by decide) ?_
    refine GL.val (v := (.bool false)) (Ex.move rfl) (by decide) ?_
    refine GL.stepG (tj := 23) rfl rfl (Ex.wp (v := (.int .i64 n)) (Ex.move rfl) (by decide)) (fun _ _ => ?_)
    by_cases hq6 : 1024 < n
    · refine GL.stepG (tj := 23) rfl rfl (Ex.wp (v := (.bool true)) (Ex.cast (Ex.gtr rfl rfl) (congrArg Value.bool (decide_eq_true hq6))) (by decide)) (fun _ _ => ?_)
      refine GL.val (v := (.bool true)) (Ex.pickF rfl rfl) (by decide) ?_
      refine GL.val (v := (.bool true)) (Ex.move rfl) (by decide) ?_
      refine GL.skipG (tj := 27) rfl rfl rfl (by decide) ?_
      refine GL.skipG (tj := 27) rfl rfl rfl (by decide) ?_
      refine GL.val (v := (.bool true)) (Ex.pickT rfl rfl) (by decide) ?_
      refine GL.val (v := (.bool true)) (Ex.move rfl) (by decide) ?_
      refine GL.skipG (tj := 31) rfl rfl rfl (by decide) ?_
      refine GL.skipG (tj := 31) rfl rfl rfl (by decide) ?_
      refine GL.val (v := (.bool true)) (Ex.pickT rfl rfl) (by decide) ?_
      refine GL.nil ?_
      refine GE.thenN ?_
      refine GC.cond rfl (fun _ => ?_) (fun hq7 => by cases hq7)
      refine GC.seq ?_
      refine GC.region ?_
      refine GL.val (v := (.bool true)) (Ex.assign rfl) (by decide) ?_
      refine GL.nil ?_
      refine GE.thenN ?_
      refine GC.ret ?_
      refine GE.thenR ?_
      refine GC.ret1 rfl (Rv.tmp rfl) (fun wN HN => ?_)
      exact HN.ret () trivial (by first | rfl | (exfalso; omega)) (List.nil_sublist _) rfl
    · refine GL.stepG (tj := 23) rfl rfl (Ex.wp (v := (.bool false)) (Ex.cast (Ex.gtr rfl rfl) (congrArg Value.bool (decide_eq_false hq6))) (by decide)) (fun _ _ => ?_)
      refine GL.val (v := (.bool false)) (Ex.pickF rfl rfl) (by decide) ?_
      refine GL.val (v := (.bool false)) (Ex.move rfl) (by decide) ?_
      refine GL.stepG (tj := 27) rfl rfl (Ex.wp (v := (.int .i64 i)) (Ex.move rfl) (by decide)) (fun _ _ => ?_)
      by_cases hq8 : i < (-1099511627776)
      · refine GL.stepG (tj := 27) rfl rfl (Ex.wp (v := (.bool true)) (Ex.cast (Ex.lss rfl rfl) (congrArg Value.bool (decide_eq_true hq8))) (by decide)) (fun _ _ => ?_)
        refine GL.val (v := (.bool true)) (Ex.pickF rfl rfl) (by decide) ?_
        refine GL.val (v := (.bool true)) (Ex.move rfl) (by decide) ?_
        refine GL.skipG (tj := 31) rfl rfl rfl (by decide) ?_
        refine GL.skipG (tj := 31) rfl rfl rfl (by decide) ?_
        refine GL.val (v := (.bool true)) (Ex.pickT rfl rfl) (by decide) ?_
        refine GL.nil ?_
        refine GE.thenN ?_
        refine GC.cond rfl (fun _ => ?_) (fun hq9 => by cases hq9)
        refine GC.seq ?_
        refine GC.region ?_
        refine GL.val (v := (.bool true)) (Ex.assign rfl) (by decide) ?_
        refine GL.nil ?_
        refine GE.thenN ?_
        refine GC.ret ?_
        refine GE.thenR ?_
        refine GC.ret1 rfl (Rv.tmp rfl) (fun wN HN => ?_)
        exact HN.ret () trivial (by first | rfl | (exfalso; omega)) (List.nil_sublist _) rfl
      · refine GL.stepG (tj := 27) rfl rfl (Ex.wp (v := (.bool false)) (Ex.cast (Ex.lss rfl rfl) (congrArg Value.bool (decide_eq_false hq8))) (by decide)) (fun _ _ => ?_)
        refine GL.val (v := (.bool false)) (Ex.pickF rfl rfl) (by decide) ?_
        refine GL.val (v := (.bool false)) (Ex.move rfl) (by decide) ?_
        refine GL.stepG (tj := 31) rfl rfl (Ex.wp (v := (.int .i64 i)) (Ex.move rfl) (by decide)) (fun _ _ => ?_)
        refine GL.stepG (tj := 31) rfl rfl (Ex.wp (v := (.bool (decide (1099511627776 < i)))) (Ex.gtr rfl rfl) (by decide)) (fun _ _ => ?_)
        refine GL.val (v := (.bool (decide (1099511627776 < i)))) (Ex.pickF rfl rfl) (by decide) ?_
        refine GL.nil ?_
        refine GE.thenN ?_
        refine GC.cond rfl (fun hq10 => ?_) (fun hq10 => ?_)
        · replace hq10 := of_decide_eq_true hq10
          refine GC.seq ?_
          refine GC.region ?_
          refine GL.val (v := (.bool true)) (Ex.assign rfl) (by decide) ?_
          refine GL.nil ?_
          refine GE.thenN ?_
          refine GC.ret ?_
          refine GE.thenR ?_
          refine GC.ret1 rfl (Rv.tmp rfl) (fun wN HN => ?_)
          exact HN.ret () trivial (by first | rfl | (exfalso; omega)) (List.nil_sublist _) rfl
        · replace hq10 := of_decide_eq_false hq10
          refine GC.skip ?_
          refine GE.thenN ?_
          refine GC.seq ?_
          by_cases s1 : 0 ≤ i
          · by_cases s2 : i < n
            · refine GC.region ?_
              refine GL.step (Stp.buildSlice (cs := [(.int .i64 1), (.int .i64 2), (.int .i64 3)]) (vs := [(0, (.int .i64 1)), (1, (.int .i64 2)), (2, (.int .i64 3))]) Try.underlying38 T.zr3 T.sz3 rfl (by decide) (by decide) (by first | rfl | kernel_rfl) (by decide)) (fun bq11 _ => ?_)
              refine GL.val (v := (.slice (some ⟨bq11, 0, none⟩) 3 3)) (Ex.assign rfl) (by decide) ?_
              refine GL.nil ?_
              refine GE.thenN ?_
              refine GC.seq ?_
              refine GC.seq ?_
              refine GC.region ?_
              refine GL.val (v := (.int .i64 0)) (Ex.assign rfl) (by decide) ?_
              refine GL.nil ?_
              refine GE.thenN ?_
              refine GC.block ?_
              refine GC.unroll 4 ?_
              refine GE.round ?_
              refine GC.seq ?_
              refine GC.seq ?_
              refine GC.region ?_
              refine GL.val (v := (.int .i64 0)) (Ex.move rfl) (by decide) ?_
              refine GL.val (v := (.bool true)) (Ex.cast (Ex.lss rfl rfl) rfl) (by decide) ?_
              refine GL.nil ?_
              refine GE.thenN ?_
              refine GC.cond rfl (fun _ => ?_) (fun hq12 => by cases hq12)
              refine GC.skip ?_
              refine GE.thenN ?_
              refine GC.seq ?_
              refine GC.block ?_
              refine GC.seq ?_
              refine GC.region ?_
              refine GL.val (v := (.slice (some ⟨bq11, 0, none⟩) 3 3)) (Ex.move rfl) (by decide) ?_
              refine GL.val (v := (.int .i64 0)) (Ex.move rfl) (by decide) ?_
              refine GL.val (v := (.pointer (some ⟨bq11, 0, none⟩))) (Ex.cast (Ex.indexAddr rfl rfl Try.underlying38 T.sz3 (by omega) (by omega)) rfl) (by decide) ?_
              refine GL.val (v := (.int .i64 1)) (Ex.load rfl T.ag3 (i := 0) rfl rfl) (by decide) ?_
              refine GL.val (v := (.int .i64 n)) (Ex.move rfl) (by decide) ?_
              refine GL.val (v := (.int .i64 i)) (Ex.move rfl) (by decide) ?_
              refine GL.step (Stp.callR (σ := Unit) (p := fun rz => True) (v := fun rz => (.tuple #[(.int .i64 ((bord 1 n i).1)), (.int .i64 ((bord 1 n i).2))])) (N := fun rz => []) (vs := [(.int .i64 1), (.int .i64 n), (.int .i64 i)]) rfl rfl T.own14 (by decide) (fun wc hw => border 1 n i wc)) (fun xq13 hq14 => ?_)
              refine GL.val (v := (.tuple #[(.int .i64 ((bord 1 n i).1)), (.int .i64 ((bord 1 n i).2))])) (Ex.move rfl) (by decide) ?_
              refine GL.val (v := (.int .i64 ((bord 1 n i).1))) (Ex.extract rfl rfl) (by decide) ?_
              refine GL.val (v := (.int .i64 ((bord 1 n i).2))) (Ex.extract rfl rfl) (by decide) ?_
              refine GL.val (v := (.int .i64 ((bord 1 n i).1))) (Ex.assign rfl) (by decide) ?_
              refine GL.val (v := (.int .i64 ((bord 1 n i).2))) (Ex.assign rfl) (by decide) ?_
              refine GL.nil ?_
              refine GE.thenN ?_
              refine GC.seq ?_
              refine GC.region ?_
              refine GL.val (v := (.int .i64 ((bord 1 n i).2))) (Ex.move rfl) (by decide) ?_
              refine GL.step (Stp.callR (σ := Unit) (p := fun rz => True) (v := fun rz => (.int .i64 ((bord 1 n i).2))) (N := fun rz => []) (vs := [(.int .i64 ((bord 1 n i).2))]) rfl rfl T.own16 (by decide) (fun wc hw => num ((bord 1 n i).2) wc)) (fun xq15 hq16 => ?_)
              refine GL.val (v := (.bool false)) (Ex.cast (Ex.neq rfl rfl) (congrArg Value.bool (decide_eq_false (by exact fun h => h (bord_ok (k := 1) (by decide) (by decide) (by omega) (by omega)).1)))) (by decide) ?_
              refine GL.val (v := (.bool false)) (Ex.move rfl) (by decide) ?_
              refine GL.stepG (tj := 53) rfl rfl (Ex.wp (v := (.int .i64 ((bord 1 n i).1))) (Ex.move rfl) (by decide)) (fun _ _ => ?_)
              refine GL.stepG (tj := 53) rfl rfl (Ex.wp (v := (.bool false)) (Ex.cast (Ex.lss rfl rfl) (congrArg Value.bool (decide_eq_false (by have h := bord_ok (k := 1) (n := n) (i := i) (by decide) (by decide) (by omega) (by omega); omega)))) (by decide)) (fun _ _ => ?_)
              refine GL.val (v := (.bool false)) (Ex.pickF rfl rfl) (by decide) ?_
              refine GL.val (v := (.bool false)) (Ex.move rfl) (by decide) ?_
              refine GL.stepG (tj := 57) rfl rfl (Ex.wp (v := (.int .i64 ((bord 1 n i).1))) (Ex.move rfl) (by decide)) (fun _ _ => ?_)
              refine GL.stepG (tj := 57) rfl rfl (Ex.wp (v := (.int .i64 n)) (Ex.move rfl) (by decide)) (fun _ _ => ?_)
              refine GL.stepG (tj := 57) rfl rfl (Ex.wp (v := (.bool false)) (Ex.cast (Ex.geq rfl rfl) (congrArg Value.bool (decide_eq_false (by have h := bord_ok (k := 1) (n := n) (i := i) (by decide) (by decide) (by omega) (by omega); omega)))) (by decide)) (fun _ _ => ?_)
              refine GL.val (v := (.bool false)) (Ex.pickF rfl rfl) (by decide) ?_
              refine GL.val (v := (.bool false)) (Ex.move rfl) (by decide) ?_
              refine GL.stepG (tj := 62) rfl rfl (Ex.wp (v := (.int .i64 i)) (Ex.move rfl) (by decide)) (fun _ _ => ?_)
              refine GL.stepG (tj := 62) rfl rfl (Ex.wp (v := (.bool true)) (Ex.cast (Ex.geq rfl rfl) (congrArg Value.bool (decide_eq_true (by first | assumption | omega)))) (by decide)) (fun _ _ => ?_)
              refine GL.stepG (tj := 62) rfl rfl (Ex.wp (v := (.bool true)) (Ex.move rfl) (by decide)) (fun _ _ => ?_)
              refine GL.stepG (tj := 65) rfl rfl (Ex.wp (v := (.int .i64 i)) (Ex.move rfl) (by decide)) (fun _ _ => ?_)
              refine GL.stepG (tj := 65) rfl rfl (Ex.wp (v := (.int .i64 n)) (Ex.move rfl) (by decide)) (fun _ _ => ?_)
              refine GL.stepG (tj := 65) rfl rfl (Ex.wp (v := (.bool true)) (Ex.cast (Ex.lss rfl rfl) (congrArg Value.bool (decide_eq_true (by first | assumption | omega)))) (by decide)) (fun _ _ => ?_)
              refine GL.stepG (tj := 62) rfl rfl (Ex.wp (v := (.bool true)) (Ex.pickT rfl rfl) (by decide)) (fun _ _ => ?_)
              refine GL.stepG (tj := 62) rfl rfl (Ex.wp (v := (.bool true)) (Ex.move rfl) (by decide)) (fun _ _ => ?_)
              refine GL.stepG (tj := 70) rfl rfl (Ex.wp (v := (.int .i64 ((bord 1 n i).1))) (Ex.move rfl) (by decide)) (fun _ _ => ?_)
              refine GL.stepG (tj := 70) rfl rfl (Ex.wp (v := (.int .i64 i)) (Ex.move rfl) (by decide)) (fun _ _ => ?_)
              refine GL.stepG (tj := 70) rfl rfl (Ex.wp (v := (.bool false)) (Ex.cast (Ex.neq rfl rfl) (congrArg Value.bool (decide_eq_false (by exact fun h => h (bord_in (by decide) (by decide) (by omega) (by omega) (by omega) (by omega)))))) (by decide)) (fun _ _ => ?_)
              refine GL.stepG (tj := 62) rfl rfl (Ex.wp (v := (.bool false)) (Ex.pickT rfl rfl) (by decide)) (fun _ _ => ?_)
              refine GL.val (v := (.bool false)) (Ex.pickF rfl rfl) (by decide) ?_
              refine GL.nil ?_
              refine GE.thenN ?_
              refine GC.cond rfl (fun hq17 => by cases hq17) (fun _ => ?_)
              refine GC.skip ?_
              refine GE.blockN ?_
              refine GE.thenN ?_
              refine GC.region ?_
              refine GL.val (v := (.int .i64 0)) (Ex.move rfl) (by decide) ?_
              refine GL.val (v := (.int .i64 1)) (Ex.add rfl rfl (Z := 1) (by decide)) (by decide) ?_
              refine GL.val (v := (.int .i64 1)) (Ex.assign rfl) (by decide) ?_
              refine GL.nil ?_
              refine GE.thenN ?_
              refine GE.round ?_
              refine GC.seq ?_
              refine GC.seq ?_
              refine GC.region ?_
              refine GL.val (v := (.int .i64 1)) (Ex.move rfl) (by decide) ?_
              refine GL.val (v := (.bool true)) (Ex.cast (Ex.lss rfl rfl) rfl) (by decide) ?_
              refine GL.nil ?_
              refine GE.thenN ?_
              refine GC.cond rfl (fun _ => ?_) (fun hq18 => by cases hq18)
              refine GC.skip ?_
              refine GE.thenN ?_
              refine GC.seq ?_
              refine GC.block ?_
              refine GC.seq ?_
              refine GC.region ?_
              refine GL.val (v := (.slice (some ⟨bq11, 0, none⟩) 3 3)) (Ex.move rfl) (by decide) ?_
              refine GL.val (v := (.int .i64 1)) (Ex.move rfl) (by decide) ?_
              refine GL.val (v := (.pointer (some ⟨bq11, 1, none⟩))) (Ex.cast (Ex.indexAddr rfl rfl Try.underlying38 T.sz3 (by omega) (by omega)) rfl) (by decide) ?_
              refine GL.val (v := (.int .i64 2)) (Ex.load rfl T.ag3 (i := 0) rfl rfl) (by decide) ?_
              refine GL.val (v := (.int .i64 n)) (Ex.move rfl) (by decide) ?_
              refine GL.val (v := (.int .i64 i)) (Ex.move rfl) (by decide) ?_
              refine GL.step (Stp.callR (σ := Unit) (p := fun rz => True) (v := fun rz => (.tuple #[(.int .i64 ((bord 2 n i).1)), (.int .i64 ((bord 2 n i).2))])) (N := fun rz => []) (vs := [(.int .i64 2), (.int .i64 n), (.int .i64 i)]) rfl rfl T.own14 (by decide) (fun wc hw => border 2 n i wc)) (fun xq19 hq20 => ?_)
              refine GL.val (v := (.tuple #[(.int .i64 ((bord 2 n i).1)), (.int .i64 ((bord 2 n i).2))])) (Ex.move rfl) (by decide) ?_
              refine GL.val (v := (.int .i64 ((bord 2 n i).1))) (Ex.extract rfl rfl) (by decide) ?_
              refine GL.val (v := (.int .i64 ((bord 2 n i).2))) (Ex.extract rfl rfl) (by decide) ?_
              refine GL.val (v := (.int .i64 ((bord 2 n i).1))) (Ex.assign rfl) (by decide) ?_
              refine GL.val (v := (.int .i64 ((bord 2 n i).2))) (Ex.assign rfl) (by decide) ?_
              refine GL.nil ?_
              refine GE.thenN ?_
              refine GC.seq ?_
              refine GC.region ?_
              refine GL.val (v := (.int .i64 ((bord 2 n i).2))) (Ex.move rfl) (by decide) ?_
              refine GL.step (Stp.callR (σ := Unit) (p := fun rz => True) (v := fun rz => (.int .i64 ((bord 2 n i).2))) (N := fun rz => []) (vs := [(.int .i64 ((bord 2 n i).2))]) rfl rfl T.own16 (by decide) (fun wc hw => num ((bord 2 n i).2) wc)) (fun xq21 hq22 => ?_)
              refine GL.val (v := (.bool false)) (Ex.cast (Ex.neq rfl rfl) (congrArg Value.bool (decide_eq_false (by exact fun h => h (bord_ok (k := 2) (by decide) (by decide) (by omega) (by omega)).1)))) (by decide) ?_
              refine GL.val (v := (.bool false)) (Ex.move rfl) (by decide) ?_
              refine GL.stepG (tj := 53) rfl rfl (Ex.wp (v := (.int .i64 ((bord 2 n i).1))) (Ex.move rfl) (by decide)) (fun _ _ => ?_)
              refine GL.stepG (tj := 53) rfl rfl (Ex.wp (v := (.bool false)) (Ex.cast (Ex.lss rfl rfl) (congrArg Value.bool (decide_eq_false (by have h := bord_ok (k := 2) (n := n) (i := i) (by decide) (by decide) (by omega) (by omega); omega)))) (by decide)) (fun _ _ => ?_)
              refine GL.val (v := (.bool false)) (Ex.pickF rfl rfl) (by decide) ?_
              refine GL.val (v := (.bool false)) (Ex.move rfl) (by decide) ?_
              refine GL.stepG (tj := 57) rfl rfl (Ex.wp (v := (.int .i64 ((bord 2 n i).1))) (Ex.move rfl) (by decide)) (fun _ _ => ?_)
              refine GL.stepG (tj := 57) rfl rfl (Ex.wp (v := (.int .i64 n)) (Ex.move rfl) (by decide)) (fun _ _ => ?_)
              refine GL.stepG (tj := 57) rfl rfl (Ex.wp (v := (.bool false)) (Ex.cast (Ex.geq rfl rfl) (congrArg Value.bool (decide_eq_false (by have h := bord_ok (k := 2) (n := n) (i := i) (by decide) (by decide) (by omega) (by omega); omega)))) (by decide)) (fun _ _ => ?_)
              refine GL.val (v := (.bool false)) (Ex.pickF rfl rfl) (by decide) ?_
              refine GL.val (v := (.bool false)) (Ex.move rfl) (by decide) ?_
              refine GL.stepG (tj := 62) rfl rfl (Ex.wp (v := (.int .i64 i)) (Ex.move rfl) (by decide)) (fun _ _ => ?_)
              refine GL.stepG (tj := 62) rfl rfl (Ex.wp (v := (.bool true)) (Ex.cast (Ex.geq rfl rfl) (congrArg Value.bool (decide_eq_true (by first | assumption | omega)))) (by decide)) (fun _ _ => ?_)
              refine GL.stepG (tj := 62) rfl rfl (Ex.wp (v := (.bool true)) (Ex.move rfl) (by decide)) (fun _ _ => ?_)
              refine GL.stepG (tj := 65) rfl rfl (Ex.wp (v := (.int .i64 i)) (Ex.move rfl) (by decide)) (fun _ _ => ?_)
              refine GL.stepG (tj := 65) rfl rfl (Ex.wp (v := (.int .i64 n)) (Ex.move rfl) (by decide)) (fun _ _ => ?_)
              refine GL.stepG (tj := 65) rfl rfl (Ex.wp (v := (.bool true)) (Ex.cast (Ex.lss rfl rfl) (congrArg Value.bool (decide_eq_true (by first | assumption | omega)))) (by decide)) (fun _ _ => ?_)
              refine GL.stepG (tj := 62) rfl rfl (Ex.wp (v := (.bool true)) (Ex.pickT rfl rfl) (by decide)) (fun _ _ => ?_)
              refine GL.stepG (tj := 62) rfl rfl (Ex.wp (v := (.bool true)) (Ex.move rfl) (by decide)) (fun _ _ => ?_)
              refine GL.stepG (tj := 70) rfl rfl (Ex.wp (v := (.int .i64 ((bord 2 n i).1))) (Ex.move rfl) (by decide)) (fun _ _ => ?_)
              refine GL.stepG (tj := 70) rfl rfl (Ex.wp (v := (.int .i64 i)) (Ex.move rfl) (by decide)) (fun _ _ => ?_)
              refine GL.stepG (tj := 70) rfl rfl (Ex.wp (v := (.bool false)) (Ex.cast (Ex.neq rfl rfl) (congrArg Value.bool (decide_eq_false (by exact fun h => h (bord_in (by decide) (by decide) (by omega) (by omega) (by omega) (by omega)))))) (by decide)) (fun _ _ => ?_)
              refine GL.stepG (tj := 62) rfl rfl (Ex.wp (v := (.bool false)) (Ex.pickT rfl rfl) (by decide)) (fun _ _ => ?_)
              refine GL.val (v := (.bool false)) (Ex.pickF rfl rfl) (by decide) ?_
              refine GL.nil ?_
              refine GE.thenN ?_
              refine GC.cond rfl (fun hq23 => by cases hq23) (fun _ => ?_)
              refine GC.skip ?_
              refine GE.blockN ?_
              refine GE.thenN ?_
              refine GC.region ?_
              refine GL.val (v := (.int .i64 1)) (Ex.move rfl) (by decide) ?_
              refine GL.val (v := (.int .i64 2)) (Ex.add rfl rfl (Z := 2) (by decide)) (by decide) ?_
              refine GL.val (v := (.int .i64 2)) (Ex.assign rfl) (by decide) ?_
              refine GL.nil ?_
              refine GE.thenN ?_
              refine GE.round ?_
              refine GC.seq ?_
              refine GC.seq ?_
              refine GC.region ?_
              refine GL.val (v := (.int .i64 2)) (Ex.move rfl) (by decide) ?_
              refine GL.val (v := (.bool true)) (Ex.cast (Ex.lss rfl rfl) rfl) (by decide) ?_
              refine GL.nil ?_
              refine GE.thenN ?_
              refine GC.cond rfl (fun _ => ?_) (fun hq24 => by cases hq24)
              refine GC.skip ?_
              refine GE.thenN ?_
              refine GC.seq ?_
              refine GC.block ?_
              refine GC.seq ?_
              refine GC.region ?_
              refine GL.val (v := (.slice (some ⟨bq11, 0, none⟩) 3 3)) (Ex.move rfl) (by decide) ?_
              refine GL.val (v := (.int .i64 2)) (Ex.move rfl) (by decide) ?_
              refine GL.val (v := (.pointer (some ⟨bq11, 2, none⟩))) (Ex.cast (Ex.indexAddr rfl rfl Try.underlying38 T.sz3 (by omega) (by omega)) rfl) (by decide) ?_
              refine GL.val (v := (.int .i64 3)) (Ex.load rfl T.ag3 (i := 0) rfl rfl) (by decide) ?_
              refine GL.val (v := (.int .i64 n)) (Ex.move rfl) (by decide) ?_
              refine GL.val (v := (.int .i64 i)) (Ex.move rfl) (by decide) ?_
              refine GL.step (Stp.callR (σ := Unit) (p := fun rz => True) (v := fun rz => (.tuple #[(.int .i64 ((bord 3 n i).1)), (.int .i64 ((bord 3 n i).2))])) (N := fun rz => []) (vs := [(.int .i64 3), (.int .i64 n), (.int .i64 i)]) rfl rfl T.own14 (by decide) (fun wc hw => border 3 n i wc)) (fun xq25 hq26 => ?_)
              refine GL.val (v := (.tuple #[(.int .i64 ((bord 3 n i).1)), (.int .i64 ((bord 3 n i).2))])) (Ex.move rfl) (by decide) ?_
              refine GL.val (v := (.int .i64 ((bord 3 n i).1))) (Ex.extract rfl rfl) (by decide) ?_
              refine GL.val (v := (.int .i64 ((bord 3 n i).2))) (Ex.extract rfl rfl) (by decide) ?_
              refine GL.val (v := (.int .i64 ((bord 3 n i).1))) (Ex.assign rfl) (by decide) ?_
              refine GL.val (v := (.int .i64 ((bord 3 n i).2))) (Ex.assign rfl) (by decide) ?_
              refine GL.nil ?_
              refine GE.thenN ?_
              refine GC.seq ?_
              refine GC.region ?_
              refine GL.val (v := (.int .i64 ((bord 3 n i).2))) (Ex.move rfl) (by decide) ?_
              refine GL.step (Stp.callR (σ := Unit) (p := fun rz => True) (v := fun rz => (.int .i64 ((bord 3 n i).2))) (N := fun rz => []) (vs := [(.int .i64 ((bord 3 n i).2))]) rfl rfl T.own16 (by decide) (fun wc hw => num ((bord 3 n i).2) wc)) (fun xq27 hq28 => ?_)
              refine GL.val (v := (.bool false)) (Ex.cast (Ex.neq rfl rfl) (congrArg Value.bool (decide_eq_false (by exact fun h => h (bord_ok (k := 3) (by decide) (by decide) (by omega) (by omega)).1)))) (by decide) ?_
              refine GL.val (v := (.bool false)) (Ex.move rfl) (by decide) ?_
              refine GL.stepG (tj := 53) rfl rfl (Ex.wp (v := (.int .i64 ((bord 3 n i).1))) (Ex.move rfl) (by decide)) (fun _ _ => ?_)
              refine GL.stepG (tj := 53) rfl rfl (Ex.wp (v := (.bool false)) (Ex.cast (Ex.lss rfl rfl) (congrArg Value.bool (decide_eq_false (by have h := bord_ok (k := 3) (n := n) (i := i) (by decide) (by decide) (by omega) (by omega); omega)))) (by decide)) (fun _ _ => ?_)
              refine GL.val (v := (.bool false)) (Ex.pickF rfl rfl) (by decide) ?_
              refine GL.val (v := (.bool false)) (Ex.move rfl) (by decide) ?_
              refine GL.stepG (tj := 57) rfl rfl (Ex.wp (v := (.int .i64 ((bord 3 n i).1))) (Ex.move rfl) (by decide)) (fun _ _ => ?_)
              refine GL.stepG (tj := 57) rfl rfl (Ex.wp (v := (.int .i64 n)) (Ex.move rfl) (by decide)) (fun _ _ => ?_)
              refine GL.stepG (tj := 57) rfl rfl (Ex.wp (v := (.bool false)) (Ex.cast (Ex.geq rfl rfl) (congrArg Value.bool (decide_eq_false (by have h := bord_ok (k := 3) (n := n) (i := i) (by decide) (by decide) (by omega) (by omega); omega)))) (by decide)) (fun _ _ => ?_)
              refine GL.val (v := (.bool false)) (Ex.pickF rfl rfl) (by decide) ?_
              refine GL.val (v := (.bool false)) (Ex.move rfl) (by decide) ?_
              refine GL.stepG (tj := 62) rfl rfl (Ex.wp (v := (.int .i64 i)) (Ex.move rfl) (by decide)) (fun _ _ => ?_)
              refine GL.stepG (tj := 62) rfl rfl (Ex.wp (v := (.bool true)) (Ex.cast (Ex.geq rfl rfl) (congrArg Value.bool (decide_eq_true (by first | assumption | omega)))) (by decide)) (fun _ _ => ?_)
              refine GL.stepG (tj := 62) rfl rfl (Ex.wp (v := (.bool true)) (Ex.move rfl) (by decide)) (fun _ _ => ?_)
              refine GL.stepG (tj := 65) rfl rfl (Ex.wp (v := (.int .i64 i)) (Ex.move rfl) (by decide)) (fun _ _ => ?_)
              refine GL.stepG (tj := 65) rfl rfl (Ex.wp (v := (.int .i64 n)) (Ex.move rfl) (by decide)) (fun _ _ => ?_)
              refine GL.stepG (tj := 65) rfl rfl (Ex.wp (v := (.bool true)) (Ex.cast (Ex.lss rfl rfl) (congrArg Value.bool (decide_eq_true (by first | assumption | omega)))) (by decide)) (fun _ _ => ?_)
              refine GL.stepG (tj := 62) rfl rfl (Ex.wp (v := (.bool true)) (Ex.pickT rfl rfl) (by decide)) (fun _ _ => ?_)
              refine GL.stepG (tj := 62) rfl rfl (Ex.wp (v := (.bool true)) (Ex.move rfl) (by decide)) (fun _ _ => ?_)
              refine GL.stepG (tj := 70) rfl rfl (Ex.wp (v := (.int .i64 ((bord 3 n i).1))) (Ex.move rfl) (by decide)) (fun _ _ => ?_)
              refine GL.stepG (tj := 70) rfl rfl (Ex.wp (v := (.int .i64 i)) (Ex.move rfl) (by decide)) (fun _ _ => ?_)
              refine GL.stepG (tj := 70) rfl rfl (Ex.wp (v := (.bool false)) (Ex.cast (Ex.neq rfl rfl) (congrArg Value.bool (decide_eq_false (by exact fun h => h (bord_in (by decide) (by decide) (by omega) (by omega) (by omega) (by omega)))))) (by decide)) (fun _ _ => ?_)
              refine GL.stepG (tj := 62) rfl rfl (Ex.wp (v := (.bool false)) (Ex.pickT rfl rfl) (by decide)) (fun _ _ => ?_)
              refine GL.val (v := (.bool false)) (Ex.pickF rfl rfl) (by decide) ?_
              refine GL.nil ?_
              refine GE.thenN ?_
              refine GC.cond rfl (fun hq29 => by cases hq29) (fun _ => ?_)
              refine GC.skip ?_
              refine GE.blockN ?_
              refine GE.thenN ?_
              refine GC.region ?_
              refine GL.val (v := (.int .i64 2)) (Ex.move rfl) (by decide) ?_
              refine GL.val (v := (.int .i64 3)) (Ex.add rfl rfl (Z := 3) (by decide)) (by decide) ?_
              refine GL.val (v := (.int .i64 3)) (Ex.assign rfl) (by decide) ?_
              refine GL.nil ?_
              refine GE.thenN ?_
              refine GE.round ?_
              refine GC.seq ?_
              refine GC.seq ?_
              refine GC.region ?_
              refine GL.val (v := (.int .i64 3)) (Ex.move rfl) (by decide) ?_
              refine GL.val (v := (.bool false)) (Ex.cast (Ex.lss rfl rfl) rfl) (by decide) ?_
              refine GL.nil ?_
              refine GE.thenN ?_
              refine GC.cond rfl (fun hq30 => by cases hq30) (fun _ => ?_)
              refine GC.exit ?_
              refine GE.thenE ?_
              refine GE.thenE ?_
              refine GE.blockE ?_
              refine GE.thenN ?_
              refine GC.seq ?_
              refine GC.region ?_
              refine GL.val (v := (.int .i64 n)) (Ex.move rfl) (by decide) ?_
              refine GL.val (v := (.int .i64 i)) (Ex.move rfl) (by decide) ?_
              refine GL.step (Stp.callR (σ := Unit) (p := fun rz => True) (v := fun rz => (.tuple #[(.int .i64 ((bord 3 n i).1)), (.int .i64 ((bord 3 n i).2))])) (N := fun rz => []) (vs := [(.int .i64 3), (.int .i64 n), (.int .i64 i)]) rfl rfl T.own14 (by decide) (fun wc hw => border 3 n i wc)) (fun xq31 hq32 => ?_)
              refine GL.val (v := (.tuple #[(.int .i64 ((bord 3 n i).1)), (.int .i64 ((bord 3 n i).2))])) (Ex.move rfl) (by decide) ?_
              refine GL.val (v := (.int .i64 ((bord 3 n i).1))) (Ex.extract rfl rfl) (by decide) ?_
              refine GL.val (v := (.int .i64 ((bord 3 n i).2))) (Ex.extract rfl rfl) (by decide) ?_
              refine GL.val (v := (.int .i64 ((bord 3 n i).1))) (Ex.assign rfl) (by decide) ?_
              refine GL.val (v := (.int .i64 ((bord 3 n i).2))) (Ex.assign rfl) (by decide) ?_
              refine GL.nil ?_
              refine GE.thenN ?_
              refine GC.seq ?_
              refine GC.region ?_
              refine GL.val (v := (.int .i64 n)) (Ex.move rfl) (by decide) ?_
              refine GL.val (v := (.int .i64 i)) (Ex.move rfl) (by decide) ?_
              refine GL.val (v := (.int .i64 n)) (Ex.move rfl) (by decide) ?_
              refine GL.val (v := (.int .i64 (i + n))) (Ex.add rfl rfl (Z := i + n) (w64 (by omega))) (by decide) ?_
              refine GL.step (Stp.callR (σ := Unit) (p := fun rz => True) (v := fun rz => (.tuple #[(.int .i64 ((bord 3 n (i + n)).1)), (.int .i64 ((bord 3 n (i + n)).2))])) (N := fun rz => []) (vs := [(.int .i64 3), (.int .i64 n), (.int .i64 (i + n))]) rfl rfl T.own14 (by decide) (fun wc hw => border 3 n (i + n) wc)) (fun xq33 hq34 => ?_)
              refine GL.val (v := (.tuple #[(.int .i64 ((bord 3 n (i + n)).1)), (.int .i64 ((bord 3 n (i + n)).2))])) (Ex.move rfl) (by decide) ?_
              refine GL.val (v := (.int .i64 ((bord 3 n (i + n)).1))) (Ex.extract rfl rfl) (by decide) ?_
              refine GL.val (v := (.int .i64 ((bord 3 n (i + n)).2))) (Ex.extract rfl rfl) (by decide) ?_
              refine GL.val (v := (.int .i64 ((bord 3 n (i + n)).1))) (Ex.assign rfl) (by decide) ?_
              refine GL.val (v := (.int .i64 ((bord 3 n (i + n)).2))) (Ex.assign rfl) (by decide) ?_
              refine GL.nil ?_
              refine GE.thenN ?_
              refine GC.seq ?_
              refine GC.region ?_
              refine GL.val (v := (.int .i64 n)) (Ex.move rfl) (by decide) ?_
              refine GL.val (v := (.int .i64 i)) (Ex.move rfl) (by decide) ?_
              refine GL.step (Stp.callR (σ := Unit) (p := fun rz => True) (v := fun rz => (.tuple #[(.int .i64 ((bord 2 n i).1)), (.int .i64 ((bord 2 n i).2))])) (N := fun rz => []) (vs := [(.int .i64 2), (.int .i64 n), (.int .i64 i)]) rfl rfl T.own14 (by decide) (fun wc hw => border 2 n i wc)) (fun xq35 hq36 => ?_)
              refine GL.val (v := (.tuple #[(.int .i64 ((bord 2 n i).1)), (.int .i64 ((bord 2 n i).2))])) (Ex.move rfl) (by decide) ?_
              refine GL.val (v := (.int .i64 ((bord 2 n i).1))) (Ex.extract rfl rfl) (by decide) ?_
              refine GL.val (v := (.int .i64 ((bord 2 n i).2))) (Ex.extract rfl rfl) (by decide) ?_
              refine GL.val (v := (.int .i64 ((bord 2 n i).1))) (Ex.assign rfl) (by decide) ?_
              refine GL.val (v := (.int .i64 ((bord 2 n i).2))) (Ex.assign rfl) (by decide) ?_
              refine GL.nil ?_
              refine GE.thenN ?_
              refine GC.seq ?_
              refine GC.region ?_
              refine GL.val (v := (.int .i64 n)) (Ex.move rfl) (by decide) ?_
              refine GL.val (v := (.int .i64 i)) (Ex.move rfl) (by decide) ?_
              refine GL.val (v := (.int .i64 n)) (Ex.move rfl) (by decide) ?_
              refine GL.val (v := (.int .i64 (n - 1))) (Ex.sub' rfl rfl (Z := n - 1) (w64 (by omega))) (by decide) ?_
              refine GL.val (v := (.int .i64 (2 * (n - 1)))) (Ex.mul rfl rfl (Z := 2 * (n - 1)) (w64 (by omega))) (by decide) ?_
              refine GL.val (v := (.int .i64 (i + (2 * (n - 1))))) (Ex.add rfl rfl (Z := i + (2 * (n - 1))) (w64 (by omega))) (by decide) ?_
              refine GL.step (Stp.callR (σ := Unit) (p := fun rz => True) (v := fun rz => (.tuple #[(.int .i64 ((bord 2 n (i + (2 * (n - 1)))).1)), (.int .i64 ((bord 2 n (i + (2 * (n - 1)))).2))])) (N := fun rz => []) (vs := [(.int .i64 2), (.int .i64 n), (.int .i64 (i + (2 * (n - 1))))]) rfl rfl T.own14 (by decide) (fun wc hw => border 2 n (i + (2 * (n - 1))) wc)) (fun xq37 hq38 => ?_)
              refine GL.val (v := (.tuple #[(.int .i64 ((bord 2 n (i + (2 * (n - 1)))).1)), (.int .i64 ((bord 2 n (i + (2 * (n - 1)))).2))])) (Ex.move rfl) (by decide) ?_
              refine GL.val (v := (.int .i64 ((bord 2 n (i + (2 * (n - 1)))).1))) (Ex.extract rfl rfl) (by decide) ?_
              refine GL.val (v := (.int .i64 ((bord 2 n (i + (2 * (n - 1)))).2))) (Ex.extract rfl rfl) (by decide) ?_
              refine GL.val (v := (.int .i64 ((bord 2 n (i + (2 * (n - 1)))).1))) (Ex.assign rfl) (by decide) ?_
              refine GL.val (v := (.int .i64 ((bord 2 n (i + (2 * (n - 1)))).2))) (Ex.assign rfl) (by decide) ?_
              refine GL.nil ?_
              refine GE.thenN ?_
              refine GC.seq ?_
              refine GC.region ?_
              refine GL.val (v := (.int .i64 n)) (Ex.move rfl) (by decide) ?_
              refine GL.val (v := (.int .i64 i)) (Ex.move rfl) (by decide) ?_
              refine GL.val (v := (.int .i64 (-i))) (Ex.neg rfl (Z := -i) (by rw [w64 (by omega)]; omega)) (by decide) ?_
              refine GL.step (Stp.callR (σ := Unit) (p := fun rz => True) (v := fun rz => (.tuple #[(.int .i64 ((bord 2 n (-i)).1)), (.int .i64 ((bord 2 n (-i)).2))])) (N := fun rz => []) (vs := [(.int .i64 2), (.int .i64 n), (.int .i64 (-i))]) rfl rfl T.own14 (by decide) (fun wc hw => border 2 n (-i) wc)) (fun xq39 hq40 => ?_)
              refine GL.val (v := (.tuple #[(.int .i64 ((bord 2 n (-i)).1)), (.int .i64 ((bord 2 n (-i)).2))])) (Ex.move rfl) (by decide) ?_
              refine GL.val (v := (.int .i64 ((bord 2 n (-i)).1))) (Ex.extract rfl rfl) (by decide) ?_
              refine GL.val (v := (.int .i64 ((bord 2 n (-i)).2))) (Ex.extract rfl rfl) (by decide) ?_
              refine GL.val (v := (.int .i64 ((bord 2 n (-i)).1))) (Ex.assign rfl) (by decide) ?_
              refine GL.val (v := (.int .i64 ((bord 2 n (-i)).2))) (Ex.assign rfl) (by decide) ?_
              refine GL.nil ?_
              refine GE.thenN ?_
              refine GC.seq ?_
              refine GC.region ?_
              refine GL.val (v := (.int .i64 ((bord 3 n i).1))) (Ex.move rfl) (by decide) ?_
              refine GL.val (v := (.int .i64 ((bord 3 n (i + n)).1))) (Ex.move rfl) (by decide) ?_
              refine GL.val (v := (.bool true)) (Ex.cast (Ex.eql rfl rfl) (congrArg Value.bool (decide_eq_true (by rw [bord_wrap (by omega)])))) (by decide) ?_
              refine GL.val (v := (.bool true)) (Ex.move rfl) (by decide) ?_
              refine GL.stepG (tj := 116) rfl rfl (Ex.wp (v := (.int .i64 ((bord 2 n i).1))) (Ex.move rfl) (by decide)) (fun _ _ => ?_)
              refine GL.stepG (tj := 116) rfl rfl (Ex.wp (v := (.int .i64 ((bord 2 n (i + (2 * (n - 1)))).1))) (Ex.move rfl) (by decide)) (fun _ _ => ?_)
              refine GL.stepG (tj := 116) rfl rfl (Ex.wp (v := (.bool true)) (Ex.cast (Ex.eql rfl rfl) (congrArg Value.bool (decide_eq_true (by rw [bord_two (by omega)])))) (by decide)) (fun _ _ => ?_)
              refine GL.val (v := (.bool true)) (Ex.pickT rfl rfl) (by decide) ?_
              refine GL.val (v := (.bool true)) (Ex.move rfl) (by decide) ?_
              refine GL.stepG (tj := 121) rfl rfl (Ex.wp (v := (.int .i64 ((bord 2 n i).1))) (Ex.move rfl) (by decide)) (fun _ _ => ?_)
              refine GL.stepG (tj := 121) rfl rfl (Ex.wp (v := (.int .i64 ((bord 2 n (-i)).1))) (Ex.move rfl) (by decide)) (fun _ _ => ?_)
              refine GL.stepG (tj := 121) rfl rfl (Ex.wp (v := (.bool true)) (Ex.cast (Ex.eql rfl rfl) (congrArg Value.bool (decide_eq_true (by rw [bord_neg (by omega)])))) (by decide)) (fun _ _ => ?_)
              refine GL.val (v := (.bool true)) (Ex.pickT rfl rfl) (by decide) ?_
              refine GL.val (v := (.bool true)) (Ex.assign rfl) (by decide) ?_
              refine GL.nil ?_
              refine GE.thenN ?_
              refine GC.ret ?_
              refine GC.ret1 rfl (Rv.tmp rfl) (fun wN HN => ?_)
              exact HN.ret () trivial (by first | rfl | (exfalso; omega)) (List.nil_sublist _) rfl
            · refine GC.region ?_
              refine GL.step (Stp.buildSlice (cs := [(.int .i64 1), (.int .i64 2), (.int .i64 3)]) (vs := [(0, (.int .i64 1)), (1, (.int .i64 2)), (2, (.int .i64 3))]) Try.underlying38 T.zr3 T.sz3 rfl (by decide) (by decide) (by first | rfl | kernel_rfl) (by decide)) (fun bq41 _ => ?_)
              refine GL.val (v := (.slice (some ⟨bq41, 0, none⟩) 3 3)) (Ex.assign rfl) (by decide) ?_
              refine GL.nil ?_
              refine GE.thenN ?_
              refine GC.seq ?_
              refine GC.seq ?_
              refine GC.region ?_
              refine GL.val (v := (.int .i64 0)) (Ex.assign rfl) (by decide) ?_
              refine GL.nil ?_
              refine GE.thenN ?_
              refine GC.block ?_
              refine GC.unroll 4 ?_
              refine GE.round ?_
              refine GC.seq ?_
              refine GC.seq ?_
              refine GC.region ?_
              refine GL.val (v := (.int .i64 0)) (Ex.move rfl) (by decide) ?_
              refine GL.val (v := (.bool true)) (Ex.cast (Ex.lss rfl rfl) rfl) (by decide) ?_
              refine GL.nil ?_
              refine GE.thenN ?_
              refine GC.cond rfl (fun _ => ?_) (fun hq42 => by cases hq42)
              refine GC.skip ?_
              refine GE.thenN ?_
              refine GC.seq ?_
              refine GC.block ?_
              refine GC.seq ?_
              refine GC.region ?_
              refine GL.val (v := (.slice (some ⟨bq41, 0, none⟩) 3 3)) (Ex.move rfl) (by decide) ?_
              refine GL.val (v := (.int .i64 0)) (Ex.move rfl) (by decide) ?_
              refine GL.val (v := (.pointer (some ⟨bq41, 0, none⟩))) (Ex.cast (Ex.indexAddr rfl rfl Try.underlying38 T.sz3 (by omega) (by omega)) rfl) (by decide) ?_
              refine GL.val (v := (.int .i64 1)) (Ex.load rfl T.ag3 (i := 0) rfl rfl) (by decide) ?_
              refine GL.val (v := (.int .i64 n)) (Ex.move rfl) (by decide) ?_
              refine GL.val (v := (.int .i64 i)) (Ex.move rfl) (by decide) ?_
              refine GL.step (Stp.callR (σ := Unit) (p := fun rz => True) (v := fun rz => (.tuple #[(.int .i64 ((bord 1 n i).1)), (.int .i64 ((bord 1 n i).2))])) (N := fun rz => []) (vs := [(.int .i64 1), (.int .i64 n), (.int .i64 i)]) rfl rfl T.own14 (by decide) (fun wc hw => border 1 n i wc)) (fun xq43 hq44 => ?_)
              refine GL.val (v := (.tuple #[(.int .i64 ((bord 1 n i).1)), (.int .i64 ((bord 1 n i).2))])) (Ex.move rfl) (by decide) ?_
              refine GL.val (v := (.int .i64 ((bord 1 n i).1))) (Ex.extract rfl rfl) (by decide) ?_
              refine GL.val (v := (.int .i64 ((bord 1 n i).2))) (Ex.extract rfl rfl) (by decide) ?_
              refine GL.val (v := (.int .i64 ((bord 1 n i).1))) (Ex.assign rfl) (by decide) ?_
              refine GL.val (v := (.int .i64 ((bord 1 n i).2))) (Ex.assign rfl) (by decide) ?_
              refine GL.nil ?_
              refine GE.thenN ?_
              refine GC.seq ?_
              refine GC.region ?_
              refine GL.val (v := (.int .i64 ((bord 1 n i).2))) (Ex.move rfl) (by decide) ?_
              refine GL.step (Stp.callR (σ := Unit) (p := fun rz => True) (v := fun rz => (.int .i64 ((bord 1 n i).2))) (N := fun rz => []) (vs := [(.int .i64 ((bord 1 n i).2))]) rfl rfl T.own16 (by decide) (fun wc hw => num ((bord 1 n i).2) wc)) (fun xq45 hq46 => ?_)
              refine GL.val (v := (.bool false)) (Ex.cast (Ex.neq rfl rfl) (congrArg Value.bool (decide_eq_false (by exact fun h => h (bord_ok (k := 1) (by decide) (by decide) (by omega) (by omega)).1)))) (by decide) ?_
              refine GL.val (v := (.bool false)) (Ex.move rfl) (by decide) ?_
              refine GL.stepG (tj := 53) rfl rfl (Ex.wp (v := (.int .i64 ((bord 1 n i).1))) (Ex.move rfl) (by decide)) (fun _ _ => ?_)
              refine GL.stepG (tj := 53) rfl rfl (Ex.wp (v := (.bool false)) (Ex.cast (Ex.lss rfl rfl) (congrArg Value.bool (decide_eq_false (by have h := bord_ok (k := 1) (n := n) (i := i) (by decide) (by decide) (by omega) (by omega); omega)))) (by decide)) (fun _ _ => ?_)
              refine GL.val (v := (.bool false)) (Ex.pickF rfl rfl) (by decide) ?_
              refine GL.val (v := (.bool false)) (Ex.move rfl) (by decide) ?_
              refine GL.stepG (tj := 57) rfl rfl (Ex.wp (v := (.int .i64 ((bord 1 n i).1))) (Ex.move rfl) (by decide)) (fun _ _ => ?_)
              refine GL.stepG (tj := 57) rfl rfl (Ex.wp (v := (.int .i64 n)) (Ex.move rfl) (by decide)) (fun _ _ => ?_)
              refine GL.stepG (tj := 57) rfl rfl (Ex.wp (v := (.bool false)) (Ex.cast (Ex.geq rfl rfl) (congrArg Value.bool (decide_eq_false (by have h := bord_ok (k := 1) (n := n) (i := i) (by decide) (by decide) (by omega) (by omega); omega)))) (by decide)) (fun _ _ => ?_)
              refine GL.val (v := (.bool false)) (Ex.pickF rfl rfl) (by decide) ?_
              refine GL.val (v := (.bool false)) (Ex.move rfl) (by decide) ?_
              refine GL.stepG (tj := 62) rfl rfl (Ex.wp (v := (.int .i64 i)) (Ex.move rfl) (by decide)) (fun _ _ => ?_)
              refine GL.stepG (tj := 62) rfl rfl (Ex.wp (v := (.bool true)) (Ex.cast (Ex.geq rfl rfl) (congrArg Value.bool (decide_eq_true (by first | assumption | omega)))) (by decide)) (fun _ _ => ?_)
              refine GL.stepG (tj := 62) rfl rfl (Ex.wp (v := (.bool true)) (Ex.move rfl) (by decide)) (fun _ _ => ?_)
              refine GL.stepG (tj := 65) rfl rfl (Ex.wp (v := (.int .i64 i)) (Ex.move rfl) (by decide)) (fun _ _ => ?_)
              refine GL.stepG (tj := 65) rfl rfl (Ex.wp (v := (.int .i64 n)) (Ex.move rfl) (by decide)) (fun _ _ => ?_)
              refine GL.stepG (tj := 65) rfl rfl (Ex.wp (v := (.bool false)) (Ex.cast (Ex.lss rfl rfl) (congrArg Value.bool (decide_eq_false (by first | assumption | omega)))) (by decide)) (fun _ _ => ?_)
              refine GL.stepG (tj := 62) rfl rfl (Ex.wp (v := (.bool false)) (Ex.pickT rfl rfl) (by decide)) (fun _ _ => ?_)
              refine GL.stepG (tj := 62) rfl rfl (Ex.wp (v := (.bool false)) (Ex.move rfl) (by decide)) (fun _ _ => ?_)
              refine GL.skipG (tj := 70) rfl rfl rfl (by decide) ?_
              refine GL.skipG (tj := 70) rfl rfl rfl (by decide) ?_
              refine GL.skipG (tj := 70) rfl rfl rfl (by decide) ?_
              refine GL.stepG (tj := 62) rfl rfl (Ex.wp (v := (.bool false)) (Ex.pickF rfl rfl) (by decide)) (fun _ _ => ?_)
              refine GL.val (v := (.bool false)) (Ex.pickF rfl rfl) (by decide) ?_
              refine GL.nil ?_
              refine GE.thenN ?_
              refine GC.cond rfl (fun hq47 => by cases hq47) (fun _ => ?_)
              refine GC.skip ?_
              refine GE.blockN ?_
              refine GE.thenN ?_
              refine GC.region ?_
              refine GL.val (v := (.int .i64 0)) (Ex.move rfl) (by decide) ?_
              refine GL.val (v := (.int .i64 1)) (Ex.add rfl rfl (Z := 1) (by decide)) (by decide) ?_
              refine GL.val (v := (.int .i64 1)) (Ex.assign rfl) (by decide) ?_
              refine GL.nil ?_
              refine GE.thenN ?_
              refine GE.round ?_
              refine GC.seq ?_
              refine GC.seq ?_
              refine GC.region ?_
              refine GL.val (v := (.int .i64 1)) (Ex.move rfl) (by decide) ?_
              refine GL.val (v := (.bool true)) (Ex.cast (Ex.lss rfl rfl) rfl) (by decide) ?_
              refine GL.nil ?_
              refine GE.thenN ?_
              refine GC.cond rfl (fun _ => ?_) (fun hq48 => by cases hq48)
              refine GC.skip ?_
              refine GE.thenN ?_
              refine GC.seq ?_
              refine GC.block ?_
              refine GC.seq ?_
              refine GC.region ?_
              refine GL.val (v := (.slice (some ⟨bq41, 0, none⟩) 3 3)) (Ex.move rfl) (by decide) ?_
              refine GL.val (v := (.int .i64 1)) (Ex.move rfl) (by decide) ?_
              refine GL.val (v := (.pointer (some ⟨bq41, 1, none⟩))) (Ex.cast (Ex.indexAddr rfl rfl Try.underlying38 T.sz3 (by omega) (by omega)) rfl) (by decide) ?_
              refine GL.val (v := (.int .i64 2)) (Ex.load rfl T.ag3 (i := 0) rfl rfl) (by decide) ?_
              refine GL.val (v := (.int .i64 n)) (Ex.move rfl) (by decide) ?_
              refine GL.val (v := (.int .i64 i)) (Ex.move rfl) (by decide) ?_
              refine GL.step (Stp.callR (σ := Unit) (p := fun rz => True) (v := fun rz => (.tuple #[(.int .i64 ((bord 2 n i).1)), (.int .i64 ((bord 2 n i).2))])) (N := fun rz => []) (vs := [(.int .i64 2), (.int .i64 n), (.int .i64 i)]) rfl rfl T.own14 (by decide) (fun wc hw => border 2 n i wc)) (fun xq49 hq50 => ?_)
              refine GL.val (v := (.tuple #[(.int .i64 ((bord 2 n i).1)), (.int .i64 ((bord 2 n i).2))])) (Ex.move rfl) (by decide) ?_
              refine GL.val (v := (.int .i64 ((bord 2 n i).1))) (Ex.extract rfl rfl) (by decide) ?_
              refine GL.val (v := (.int .i64 ((bord 2 n i).2))) (Ex.extract rfl rfl) (by decide) ?_
              refine GL.val (v := (.int .i64 ((bord 2 n i).1))) (Ex.assign rfl) (by decide) ?_
              refine GL.val (v := (.int .i64 ((bord 2 n i).2))) (Ex.assign rfl) (by decide) ?_
              refine GL.nil ?_
              refine GE.thenN ?_
              refine GC.seq ?_
              refine GC.region ?_
              refine GL.val (v := (.int .i64 ((bord 2 n i).2))) (Ex.move rfl) (by decide) ?_
              refine GL.step (Stp.callR (σ := Unit) (p := fun rz => True) (v := fun rz => (.int .i64 ((bord 2 n i).2))) (N := fun rz => []) (vs := [(.int .i64 ((bord 2 n i).2))]) rfl rfl T.own16 (by decide) (fun wc hw => num ((bord 2 n i).2) wc)) (fun xq51 hq52 => ?_)
              refine GL.val (v := (.bool false)) (Ex.cast (Ex.neq rfl rfl) (congrArg Value.bool (decide_eq_false (by exact fun h => h (bord_ok (k := 2) (by decide) (by decide) (by omega) (by omega)).1)))) (by decide) ?_
              refine GL.val (v := (.bool false)) (Ex.move rfl) (by decide) ?_
              refine GL.stepG (tj := 53) rfl rfl (Ex.wp (v := (.int .i64 ((bord 2 n i).1))) (Ex.move rfl) (by decide)) (fun _ _ => ?_)
              refine GL.stepG (tj := 53) rfl rfl (Ex.wp (v := (.bool false)) (Ex.cast (Ex.lss rfl rfl) (congrArg Value.bool (decide_eq_false (by have h := bord_ok (k := 2) (n := n) (i := i) (by decide) (by decide) (by omega) (by omega); omega)))) (by decide)) (fun _ _ => ?_)
              refine GL.val (v := (.bool false)) (Ex.pickF rfl rfl) (by decide) ?_
              refine GL.val (v := (.bool false)) (Ex.move rfl) (by decide) ?_
              refine GL.stepG (tj := 57) rfl rfl (Ex.wp (v := (.int .i64 ((bord 2 n i).1))) (Ex.move rfl) (by decide)) (fun _ _ => ?_)
              refine GL.stepG (tj := 57) rfl rfl (Ex.wp (v := (.int .i64 n)) (Ex.move rfl) (by decide)) (fun _ _ => ?_)
              refine GL.stepG (tj := 57) rfl rfl (Ex.wp (v := (.bool false)) (Ex.cast (Ex.geq rfl rfl) (congrArg Value.bool (decide_eq_false (by have h := bord_ok (k := 2) (n := n) (i := i) (by decide) (by decide) (by omega) (by omega); omega)))) (by decide)) (fun _ _ => ?_)
              refine GL.val (v := (.bool false)) (Ex.pickF rfl rfl) (by decide) ?_
              refine GL.val (v := (.bool false)) (Ex.move rfl) (by decide) ?_
              refine GL.stepG (tj := 62) rfl rfl (Ex.wp (v := (.int .i64 i)) (Ex.move rfl) (by decide)) (fun _ _ => ?_)
              refine GL.stepG (tj := 62) rfl rfl (Ex.wp (v := (.bool true)) (Ex.cast (Ex.geq rfl rfl) (congrArg Value.bool (decide_eq_true (by first | assumption | omega)))) (by decide)) (fun _ _ => ?_)
              refine GL.stepG (tj := 62) rfl rfl (Ex.wp (v := (.bool true)) (Ex.move rfl) (by decide)) (fun _ _ => ?_)
              refine GL.stepG (tj := 65) rfl rfl (Ex.wp (v := (.int .i64 i)) (Ex.move rfl) (by decide)) (fun _ _ => ?_)
              refine GL.stepG (tj := 65) rfl rfl (Ex.wp (v := (.int .i64 n)) (Ex.move rfl) (by decide)) (fun _ _ => ?_)
              refine GL.stepG (tj := 65) rfl rfl (Ex.wp (v := (.bool false)) (Ex.cast (Ex.lss rfl rfl) (congrArg Value.bool (decide_eq_false (by first | assumption | omega)))) (by decide)) (fun _ _ => ?_)
              refine GL.stepG (tj := 62) rfl rfl (Ex.wp (v := (.bool false)) (Ex.pickT rfl rfl) (by decide)) (fun _ _ => ?_)
              refine GL.stepG (tj := 62) rfl rfl (Ex.wp (v := (.bool false)) (Ex.move rfl) (by decide)) (fun _ _ => ?_)
              refine GL.skipG (tj := 70) rfl rfl rfl (by decide) ?_
              refine GL.skipG (tj := 70) rfl rfl rfl (by decide) ?_
              refine GL.skipG (tj := 70) rfl rfl rfl (by decide) ?_
              refine GL.stepG (tj := 62) rfl rfl (Ex.wp (v := (.bool false)) (Ex.pickF rfl rfl) (by decide)) (fun _ _ => ?_)
              refine GL.val (v := (.bool false)) (Ex.pickF rfl rfl) (by decide) ?_
              refine GL.nil ?_
              refine GE.thenN ?_
              refine GC.cond rfl (fun hq53 => by cases hq53) (fun _ => ?_)
              refine GC.skip ?_
              refine GE.blockN ?_
              refine GE.thenN ?_
              refine GC.region ?_
              refine GL.val (v := (.int .i64 1)) (Ex.move rfl) (by decide) ?_
              refine GL.val (v := (.int .i64 2)) (Ex.add rfl rfl (Z := 2) (by decide)) (by decide) ?_
              refine GL.val (v := (.int .i64 2)) (Ex.assign rfl) (by decide) ?_
              refine GL.nil ?_
              refine GE.thenN ?_
              refine GE.round ?_
              refine GC.seq ?_
              refine GC.seq ?_
              refine GC.region ?_
              refine GL.val (v := (.int .i64 2)) (Ex.move rfl) (by decide) ?_
              refine GL.val (v := (.bool true)) (Ex.cast (Ex.lss rfl rfl) rfl) (by decide) ?_
              refine GL.nil ?_
              refine GE.thenN ?_
              refine GC.cond rfl (fun _ => ?_) (fun hq54 => by cases hq54)
              refine GC.skip ?_
              refine GE.thenN ?_
              refine GC.seq ?_
              refine GC.block ?_
              refine GC.seq ?_
              refine GC.region ?_
              refine GL.val (v := (.slice (some ⟨bq41, 0, none⟩) 3 3)) (Ex.move rfl) (by decide) ?_
              refine GL.val (v := (.int .i64 2)) (Ex.move rfl) (by decide) ?_
              refine GL.val (v := (.pointer (some ⟨bq41, 2, none⟩))) (Ex.cast (Ex.indexAddr rfl rfl Try.underlying38 T.sz3 (by omega) (by omega)) rfl) (by decide) ?_
              refine GL.val (v := (.int .i64 3)) (Ex.load rfl T.ag3 (i := 0) rfl rfl) (by decide) ?_
              refine GL.val (v := (.int .i64 n)) (Ex.move rfl) (by decide) ?_
              refine GL.val (v := (.int .i64 i)) (Ex.move rfl) (by decide) ?_
              refine GL.step (Stp.callR (σ := Unit) (p := fun rz => True) (v := fun rz => (.tuple #[(.int .i64 ((bord 3 n i).1)), (.int .i64 ((bord 3 n i).2))])) (N := fun rz => []) (vs := [(.int .i64 3), (.int .i64 n), (.int .i64 i)]) rfl rfl T.own14 (by decide) (fun wc hw => border 3 n i wc)) (fun xq55 hq56 => ?_)
              refine GL.val (v := (.tuple #[(.int .i64 ((bord 3 n i).1)), (.int .i64 ((bord 3 n i).2))])) (Ex.move rfl) (by decide) ?_
              refine GL.val (v := (.int .i64 ((bord 3 n i).1))) (Ex.extract rfl rfl) (by decide) ?_
              refine GL.val (v := (.int .i64 ((bord 3 n i).2))) (Ex.extract rfl rfl) (by decide) ?_
              refine GL.val (v := (.int .i64 ((bord 3 n i).1))) (Ex.assign rfl) (by decide) ?_
              refine GL.val (v := (.int .i64 ((bord 3 n i).2))) (Ex.assign rfl) (by decide) ?_
              refine GL.nil ?_
              refine GE.thenN ?_
              refine GC.seq ?_
              refine GC.region ?_
              refine GL.val (v := (.int .i64 ((bord 3 n i).2))) (Ex.move rfl) (by decide) ?_
              refine GL.step (Stp.callR (σ := Unit) (p := fun rz => True) (v := fun rz => (.int .i64 ((bord 3 n i).2))) (N := fun rz => []) (vs := [(.int .i64 ((bord 3 n i).2))]) rfl rfl T.own16 (by decide) (fun wc hw => num ((bord 3 n i).2) wc)) (fun xq57 hq58 => ?_)
              refine GL.val (v := (.bool false)) (Ex.cast (Ex.neq rfl rfl) (congrArg Value.bool (decide_eq_false (by exact fun h => h (bord_ok (k := 3) (by decide) (by decide) (by omega) (by omega)).1)))) (by decide) ?_
              refine GL.val (v := (.bool false)) (Ex.move rfl) (by decide) ?_
              refine GL.stepG (tj := 53) rfl rfl (Ex.wp (v := (.int .i64 ((bord 3 n i).1))) (Ex.move rfl) (by decide)) (fun _ _ => ?_)
              refine GL.stepG (tj := 53) rfl rfl (Ex.wp (v := (.bool false)) (Ex.cast (Ex.lss rfl rfl) (congrArg Value.bool (decide_eq_false (by have h := bord_ok (k := 3) (n := n) (i := i) (by decide) (by decide) (by omega) (by omega); omega)))) (by decide)) (fun _ _ => ?_)
              refine GL.val (v := (.bool false)) (Ex.pickF rfl rfl) (by decide) ?_
              refine GL.val (v := (.bool false)) (Ex.move rfl) (by decide) ?_
              refine GL.stepG (tj := 57) rfl rfl (Ex.wp (v := (.int .i64 ((bord 3 n i).1))) (Ex.move rfl) (by decide)) (fun _ _ => ?_)
              refine GL.stepG (tj := 57) rfl rfl (Ex.wp (v := (.int .i64 n)) (Ex.move rfl) (by decide)) (fun _ _ => ?_)
              refine GL.stepG (tj := 57) rfl rfl (Ex.wp (v := (.bool false)) (Ex.cast (Ex.geq rfl rfl) (congrArg Value.bool (decide_eq_false (by have h := bord_ok (k := 3) (n := n) (i := i) (by decide) (by decide) (by omega) (by omega); omega)))) (by decide)) (fun _ _ => ?_)
              refine GL.val (v := (.bool false)) (Ex.pickF rfl rfl) (by decide) ?_
              refine GL.val (v := (.bool false)) (Ex.move rfl) (by decide) ?_
              refine GL.stepG (tj := 62) rfl rfl (Ex.wp (v := (.int .i64 i)) (Ex.move rfl) (by decide)) (fun _ _ => ?_)
              refine GL.stepG (tj := 62) rfl rfl (Ex.wp (v := (.bool true)) (Ex.cast (Ex.geq rfl rfl) (congrArg Value.bool (decide_eq_true (by first | assumption | omega)))) (by decide)) (fun _ _ => ?_)
              refine GL.stepG (tj := 62) rfl rfl (Ex.wp (v := (.bool true)) (Ex.move rfl) (by decide)) (fun _ _ => ?_)
              refine GL.stepG (tj := 65) rfl rfl (Ex.wp (v := (.int .i64 i)) (Ex.move rfl) (by decide)) (fun _ _ => ?_)
              refine GL.stepG (tj := 65) rfl rfl (Ex.wp (v := (.int .i64 n)) (Ex.move rfl) (by decide)) (fun _ _ => ?_)
              refine GL.stepG (tj := 65) rfl rfl (Ex.wp (v := (.bool false)) (Ex.cast (Ex.lss rfl rfl) (congrArg Value.bool (decide_eq_false (by first | assumption | omega)))) (by decide)) (fun _ _ => ?_)
              refine GL.stepG (tj := 62) rfl rfl (Ex.wp (v := (.bool false)) (Ex.pickT rfl rfl) (by decide)) (fun _ _ => ?_)
              refine GL.stepG (tj := 62) rfl rfl (Ex.wp (v := (.bool false)) (Ex.move rfl) (by decide)) (fun _ _ => ?_)
              refine GL.skipG (tj := 70) rfl rfl rfl (by decide) ?_
              refine GL.skipG (tj := 70) rfl rfl rfl (by decide) ?_
              refine GL.skipG (tj := 70) rfl rfl rfl (by decide) ?_
              refine GL.stepG (tj := 62) rfl rfl (Ex.wp (v := (.bool false)) (Ex.pickF rfl rfl) (by decide)) (fun _ _ => ?_)
              refine GL.val (v := (.bool false)) (Ex.pickF rfl rfl) (by decide) ?_
              refine GL.nil ?_
              refine GE.thenN ?_
              refine GC.cond rfl (fun hq59 => by cases hq59) (fun _ => ?_)
              refine GC.skip ?_
              refine GE.blockN ?_
              refine GE.thenN ?_
              refine GC.region ?_
              refine GL.val (v := (.int .i64 2)) (Ex.move rfl) (by decide) ?_
              refine GL.val (v := (.int .i64 3)) (Ex.add rfl rfl (Z := 3) (by decide)) (by decide) ?_
              refine GL.val (v := (.int .i64 3)) (Ex.assign rfl) (by decide) ?_
              refine GL.nil ?_
              refine GE.thenN ?_
              refine GE.round ?_
              refine GC.seq ?_
              refine GC.seq ?_
              refine GC.region ?_
              refine GL.val (v := (.int .i64 3)) (Ex.move rfl) (by decide) ?_
              refine GL.val (v := (.bool false)) (Ex.cast (Ex.lss rfl rfl) rfl) (by decide) ?_
              refine GL.nil ?_
              refine GE.thenN ?_
              refine GC.cond rfl (fun hq60 => by cases hq60) (fun _ => ?_)
              refine GC.exit ?_
              refine GE.thenE ?_
              refine GE.thenE ?_
              refine GE.blockE ?_
              refine GE.thenN ?_
              refine GC.seq ?_
              refine GC.region ?_
              refine GL.val (v := (.int .i64 n)) (Ex.move rfl) (by decide) ?_
              refine GL.val (v := (.int .i64 i)) (Ex.move rfl) (by decide) ?_
              refine GL.step (Stp.callR (σ := Unit) (p := fun rz => True) (v := fun rz => (.tuple #[(.int .i64 ((bord 3 n i).1)), (.int .i64 ((bord 3 n i).2))])) (N := fun rz => []) (vs := [(.int .i64 3), (.int .i64 n), (.int .i64 i)]) rfl rfl T.own14 (by decide) (fun wc hw => border 3 n i wc)) (fun xq61 hq62 => ?_)
              refine GL.val (v := (.tuple #[(.int .i64 ((bord 3 n i).1)), (.int .i64 ((bord 3 n i).2))])) (Ex.move rfl) (by decide) ?_
              refine GL.val (v := (.int .i64 ((bord 3 n i).1))) (Ex.extract rfl rfl) (by decide) ?_
              refine GL.val (v := (.int .i64 ((bord 3 n i).2))) (Ex.extract rfl rfl) (by decide) ?_
              refine GL.val (v := (.int .i64 ((bord 3 n i).1))) (Ex.assign rfl) (by decide) ?_
              refine GL.val (v := (.int .i64 ((bord 3 n i).2))) (Ex.assign rfl) (by decide) ?_
              refine GL.nil ?_
              refine GE.thenN ?_
              refine GC.seq ?_
              refine GC.region ?_
              refine GL.val (v := (.int .i64 n)) (Ex.move rfl) (by decide) ?_
              refine GL.val (v := (.int .i64 i)) (Ex.move rfl) (by decide) ?_
              refine GL.val (v := (.int .i64 n)) (Ex.move rfl) (by decide) ?_
              refine GL.val (v := (.int .i64 (i + n))) (Ex.add rfl rfl (Z := i + n) (w64 (by omega))) (by decide) ?_
              refine GL.step (Stp.callR (σ := Unit) (p := fun rz => True) (v := fun rz => (.tuple #[(.int .i64 ((bord 3 n (i + n)).1)), (.int .i64 ((bord 3 n (i + n)).2))])) (N := fun rz => []) (vs := [(.int .i64 3), (.int .i64 n), (.int .i64 (i + n))]) rfl rfl T.own14 (by decide) (fun wc hw => border 3 n (i + n) wc)) (fun xq63 hq64 => ?_)
              refine GL.val (v := (.tuple #[(.int .i64 ((bord 3 n (i + n)).1)), (.int .i64 ((bord 3 n (i + n)).2))])) (Ex.move rfl) (by decide) ?_
              refine GL.val (v := (.int .i64 ((bord 3 n (i + n)).1))) (Ex.extract rfl rfl) (by decide) ?_
              refine GL.val (v := (.int .i64 ((bord 3 n (i + n)).2))) (Ex.extract rfl rfl) (by decide) ?_
              refine GL.val (v := (.int .i64 ((bord 3 n (i + n)).1))) (Ex.assign rfl) (by decide) ?_
              refine GL.val (v := (.int .i64 ((bord 3 n (i + n)).2))) (Ex.assign rfl) (by decide) ?_
              refine GL.nil ?_
              refine GE.thenN ?_
              refine GC.seq ?_
              refine GC.region ?_
              refine GL.val (v := (.int .i64 n)) (Ex.move rfl) (by decide) ?_
              refine GL.val (v := (.int .i64 i)) (Ex.move rfl) (by decide) ?_
              refine GL.step (Stp.callR (σ := Unit) (p := fun rz => True) (v := fun rz => (.tuple #[(.int .i64 ((bord 2 n i).1)), (.int .i64 ((bord 2 n i).2))])) (N := fun rz => []) (vs := [(.int .i64 2), (.int .i64 n), (.int .i64 i)]) rfl rfl T.own14 (by decide) (fun wc hw => border 2 n i wc)) (fun xq65 hq66 => ?_)
              refine GL.val (v := (.tuple #[(.int .i64 ((bord 2 n i).1)), (.int .i64 ((bord 2 n i).2))])) (Ex.move rfl) (by decide) ?_
              refine GL.val (v := (.int .i64 ((bord 2 n i).1))) (Ex.extract rfl rfl) (by decide) ?_
              refine GL.val (v := (.int .i64 ((bord 2 n i).2))) (Ex.extract rfl rfl) (by decide) ?_
              refine GL.val (v := (.int .i64 ((bord 2 n i).1))) (Ex.assign rfl) (by decide) ?_
              refine GL.val (v := (.int .i64 ((bord 2 n i).2))) (Ex.assign rfl) (by decide) ?_
              refine GL.nil ?_
              refine GE.thenN ?_
              refine GC.seq ?_
              refine GC.region ?_
              refine GL.val (v := (.int .i64 n)) (Ex.move rfl) (by decide) ?_
              refine GL.val (v := (.int .i64 i)) (Ex.move rfl) (by decide) ?_
              refine GL.val (v := (.int .i64 n)) (Ex.move rfl) (by decide) ?_
              refine GL.val (v := (.int .i64 (n - 1))) (Ex.sub' rfl rfl (Z := n - 1) (w64 (by omega))) (by decide) ?_
              refine GL.val (v := (.int .i64 (2 * (n - 1)))) (Ex.mul rfl rfl (Z := 2 * (n - 1)) (w64 (by omega))) (by decide) ?_
              refine GL.val (v := (.int .i64 (i + (2 * (n - 1))))) (Ex.add rfl rfl (Z := i + (2 * (n - 1))) (w64 (by omega))) (by decide) ?_
              refine GL.step (Stp.callR (σ := Unit) (p := fun rz => True) (v := fun rz => (.tuple #[(.int .i64 ((bord 2 n (i + (2 * (n - 1)))).1)), (.int .i64 ((bord 2 n (i + (2 * (n - 1)))).2))])) (N := fun rz => []) (vs := [(.int .i64 2), (.int .i64 n), (.int .i64 (i + (2 * (n - 1))))]) rfl rfl T.own14 (by decide) (fun wc hw => border 2 n (i + (2 * (n - 1))) wc)) (fun xq67 hq68 => ?_)
              refine GL.val (v := (.tuple #[(.int .i64 ((bord 2 n (i + (2 * (n - 1)))).1)), (.int .i64 ((bord 2 n (i + (2 * (n - 1)))).2))])) (Ex.move rfl) (by decide) ?_
              refine GL.val (v := (.int .i64 ((bord 2 n (i + (2 * (n - 1)))).1))) (Ex.extract rfl rfl) (by decide) ?_
              refine GL.val (v := (.int .i64 ((bord 2 n (i + (2 * (n - 1)))).2))) (Ex.extract rfl rfl) (by decide) ?_
              refine GL.val (v := (.int .i64 ((bord 2 n (i + (2 * (n - 1)))).1))) (Ex.assign rfl) (by decide) ?_
              refine GL.val (v := (.int .i64 ((bord 2 n (i + (2 * (n - 1)))).2))) (Ex.assign rfl) (by decide) ?_
              refine GL.nil ?_
              refine GE.thenN ?_
              refine GC.seq ?_
              refine GC.region ?_
              refine GL.val (v := (.int .i64 n)) (Ex.move rfl) (by decide) ?_
              refine GL.val (v := (.int .i64 i)) (Ex.move rfl) (by decide) ?_
              refine GL.val (v := (.int .i64 (-i))) (Ex.neg rfl (Z := -i) (by rw [w64 (by omega)]; omega)) (by decide) ?_
              refine GL.step (Stp.callR (σ := Unit) (p := fun rz => True) (v := fun rz => (.tuple #[(.int .i64 ((bord 2 n (-i)).1)), (.int .i64 ((bord 2 n (-i)).2))])) (N := fun rz => []) (vs := [(.int .i64 2), (.int .i64 n), (.int .i64 (-i))]) rfl rfl T.own14 (by decide) (fun wc hw => border 2 n (-i) wc)) (fun xq69 hq70 => ?_)
              refine GL.val (v := (.tuple #[(.int .i64 ((bord 2 n (-i)).1)), (.int .i64 ((bord 2 n (-i)).2))])) (Ex.move rfl) (by decide) ?_
              refine GL.val (v := (.int .i64 ((bord 2 n (-i)).1))) (Ex.extract rfl rfl) (by decide) ?_
              refine GL.val (v := (.int .i64 ((bord 2 n (-i)).2))) (Ex.extract rfl rfl) (by decide) ?_
              refine GL.val (v := (.int .i64 ((bord 2 n (-i)).1))) (Ex.assign rfl) (by decide) ?_
              refine GL.val (v := (.int .i64 ((bord 2 n (-i)).2))) (Ex.assign rfl) (by decide) ?_
              refine GL.nil ?_
              refine GE.thenN ?_
              refine GC.seq ?_
              refine GC.region ?_
              refine GL.val (v := (.int .i64 ((bord 3 n i).1))) (Ex.move rfl) (by decide) ?_
              refine GL.val (v := (.int .i64 ((bord 3 n (i + n)).1))) (Ex.move rfl) (by decide) ?_
              refine GL.val (v := (.bool true)) (Ex.cast (Ex.eql rfl rfl) (congrArg Value.bool (decide_eq_true (by rw [bord_wrap (by omega)])))) (by decide) ?_
              refine GL.val (v := (.bool true)) (Ex.move rfl) (by decide) ?_
              refine GL.stepG (tj := 116) rfl rfl (Ex.wp (v := (.int .i64 ((bord 2 n i).1))) (Ex.move rfl) (by decide)) (fun _ _ => ?_)
              refine GL.stepG (tj := 116) rfl rfl (Ex.wp (v := (.int .i64 ((bord 2 n (i + (2 * (n - 1)))).1))) (Ex.move rfl) (by decide)) (fun _ _ => ?_)
              refine GL.stepG (tj := 116) rfl rfl (Ex.wp (v := (.bool true)) (Ex.cast (Ex.eql rfl rfl) (congrArg Value.bool (decide_eq_true (by rw [bord_two (by omega)])))) (by decide)) (fun _ _ => ?_)
              refine GL.val (v := (.bool true)) (Ex.pickT rfl rfl) (by decide) ?_
              refine GL.val (v := (.bool true)) (Ex.move rfl) (by decide) ?_
              refine GL.stepG (tj := 121) rfl rfl (Ex.wp (v := (.int .i64 ((bord 2 n i).1))) (Ex.move rfl) (by decide)) (fun _ _ => ?_)
              refine GL.stepG (tj := 121) rfl rfl (Ex.wp (v := (.int .i64 ((bord 2 n (-i)).1))) (Ex.move rfl) (by decide)) (fun _ _ => ?_)
              refine GL.stepG (tj := 121) rfl rfl (Ex.wp (v := (.bool true)) (Ex.cast (Ex.eql rfl rfl) (congrArg Value.bool (decide_eq_true (by rw [bord_neg (by omega)])))) (by decide)) (fun _ _ => ?_)
              refine GL.val (v := (.bool true)) (Ex.pickT rfl rfl) (by decide) ?_
              refine GL.val (v := (.bool true)) (Ex.assign rfl) (by decide) ?_
              refine GL.nil ?_
              refine GE.thenN ?_
              refine GC.ret ?_
              refine GC.ret1 rfl (Rv.tmp rfl) (fun wN HN => ?_)
              exact HN.ret () trivial (by first | rfl | (exfalso; omega)) (List.nil_sublist _) rfl
          · by_cases s2 : i < n
            · refine GC.region ?_
              refine GL.step (Stp.buildSlice (cs := [(.int .i64 1), (.int .i64 2), (.int .i64 3)]) (vs := [(0, (.int .i64 1)), (1, (.int .i64 2)), (2, (.int .i64 3))]) Try.underlying38 T.zr3 T.sz3 rfl (by decide) (by decide) (by first | rfl | kernel_rfl) (by decide)) (fun bq71 _ => ?_)
              refine GL.val (v := (.slice (some ⟨bq71, 0, none⟩) 3 3)) (Ex.assign rfl) (by decide) ?_
              refine GL.nil ?_
              refine GE.thenN ?_
              refine GC.seq ?_
              refine GC.seq ?_
              refine GC.region ?_
              refine GL.val (v := (.int .i64 0)) (Ex.assign rfl) (by decide) ?_
              refine GL.nil ?_
              refine GE.thenN ?_
              refine GC.block ?_
              refine GC.unroll 4 ?_
              refine GE.round ?_
              refine GC.seq ?_
              refine GC.seq ?_
              refine GC.region ?_
              refine GL.val (v := (.int .i64 0)) (Ex.move rfl) (by decide) ?_
              refine GL.val (v := (.bool true)) (Ex.cast (Ex.lss rfl rfl) rfl) (by decide) ?_
              refine GL.nil ?_
              refine GE.thenN ?_
              refine GC.cond rfl (fun _ => ?_) (fun hq72 => by cases hq72)
              refine GC.skip ?_
              refine GE.thenN ?_
              refine GC.seq ?_
              refine GC.block ?_
              refine GC.seq ?_
              refine GC.region ?_
              refine GL.val (v := (.slice (some ⟨bq71, 0, none⟩) 3 3)) (Ex.move rfl) (by decide) ?_
              refine GL.val (v := (.int .i64 0)) (Ex.move rfl) (by decide) ?_
              refine GL.val (v := (.pointer (some ⟨bq71, 0, none⟩))) (Ex.cast (Ex.indexAddr rfl rfl Try.underlying38 T.sz3 (by omega) (by omega)) rfl) (by decide) ?_
              refine GL.val (v := (.int .i64 1)) (Ex.load rfl T.ag3 (i := 0) rfl rfl) (by decide) ?_
              refine GL.val (v := (.int .i64 n)) (Ex.move rfl) (by decide) ?_
              refine GL.val (v := (.int .i64 i)) (Ex.move rfl) (by decide) ?_
              refine GL.step (Stp.callR (σ := Unit) (p := fun rz => True) (v := fun rz => (.tuple #[(.int .i64 ((bord 1 n i).1)), (.int .i64 ((bord 1 n i).2))])) (N := fun rz => []) (vs := [(.int .i64 1), (.int .i64 n), (.int .i64 i)]) rfl rfl T.own14 (by decide) (fun wc hw => border 1 n i wc)) (fun xq73 hq74 => ?_)
              refine GL.val (v := (.tuple #[(.int .i64 ((bord 1 n i).1)), (.int .i64 ((bord 1 n i).2))])) (Ex.move rfl) (by decide) ?_
              refine GL.val (v := (.int .i64 ((bord 1 n i).1))) (Ex.extract rfl rfl) (by decide) ?_
              refine GL.val (v := (.int .i64 ((bord 1 n i).2))) (Ex.extract rfl rfl) (by decide) ?_
              refine GL.val (v := (.int .i64 ((bord 1 n i).1))) (Ex.assign rfl) (by decide) ?_
              refine GL.val (v := (.int .i64 ((bord 1 n i).2))) (Ex.assign rfl) (by decide) ?_
              refine GL.nil ?_
              refine GE.thenN ?_
              refine GC.seq ?_
              refine GC.region ?_
              refine GL.val (v := (.int .i64 ((bord 1 n i).2))) (Ex.move rfl) (by decide) ?_
              refine GL.step (Stp.callR (σ := Unit) (p := fun rz => True) (v := fun rz => (.int .i64 ((bord 1 n i).2))) (N := fun rz => []) (vs := [(.int .i64 ((bord 1 n i).2))]) rfl rfl T.own16 (by decide) (fun wc hw => num ((bord 1 n i).2) wc)) (fun xq75 hq76 => ?_)
              refine GL.val (v := (.bool false)) (Ex.cast (Ex.neq rfl rfl) (congrArg Value.bool (decide_eq_false (by exact fun h => h (bord_ok (k := 1) (by decide) (by decide) (by omega) (by omega)).1)))) (by decide) ?_
              refine GL.val (v := (.bool false)) (Ex.move rfl) (by decide) ?_
              refine GL.stepG (tj := 53) rfl rfl (Ex.wp (v := (.int .i64 ((bord 1 n i).1))) (Ex.move rfl) (by decide)) (fun _ _ => ?_)
              refine GL.stepG (tj := 53) rfl rfl (Ex.wp (v := (.bool false)) (Ex.cast (Ex.lss rfl rfl) (congrArg Value.bool (decide_eq_false (by have h := bord_ok (k := 1) (n := n) (i := i) (by decide) (by decide) (by omega) (by omega); omega)))) (by decide)) (fun _ _ => ?_)
              refine GL.val (v := (.bool false)) (Ex.pickF rfl rfl) (by decide) ?_
              refine GL.val (v := (.bool false)) (Ex.move rfl) (by decide) ?_
              refine GL.stepG (tj := 57) rfl rfl (Ex.wp (v := (.int .i64 ((bord 1 n i).1))) (Ex.move rfl) (by decide)) (fun _ _ => ?_)
              refine GL.stepG (tj := 57) rfl rfl (Ex.wp (v := (.int .i64 n)) (Ex.move rfl) (by decide)) (fun _ _ => ?_)
              refine GL.stepG (tj := 57) rfl rfl (Ex.wp (v := (.bool false)) (Ex.cast (Ex.geq rfl rfl) (congrArg Value.bool (decide_eq_false (by have h := bord_ok (k := 1) (n := n) (i := i) (by decide) (by decide) (by omega) (by omega); omega)))) (by decide)) (fun _ _ => ?_)
              refine GL.val (v := (.bool false)) (Ex.pickF rfl rfl) (by decide) ?_
              refine GL.val (v := (.bool false)) (Ex.move rfl) (by decide) ?_
              refine GL.stepG (tj := 62) rfl rfl (Ex.wp (v := (.int .i64 i)) (Ex.move rfl) (by decide)) (fun _ _ => ?_)
              refine GL.stepG (tj := 62) rfl rfl (Ex.wp (v := (.bool false)) (Ex.cast (Ex.geq rfl rfl) (congrArg Value.bool (decide_eq_false (by first | assumption | omega)))) (by decide)) (fun _ _ => ?_)
              refine GL.stepG (tj := 62) rfl rfl (Ex.wp (v := (.bool false)) (Ex.move rfl) (by decide)) (fun _ _ => ?_)
              refine GL.skipG (tj := 65) rfl rfl rfl (by decide) ?_
              refine GL.skipG (tj := 65) rfl rfl rfl (by decide) ?_
              refine GL.skipG (tj := 65) rfl rfl rfl (by decide) ?_
              refine GL.stepG (tj := 62) rfl rfl (Ex.wp (v := (.bool false)) (Ex.pickF rfl rfl) (by decide)) (fun _ _ => ?_)
              refine GL.stepG (tj := 62) rfl rfl (Ex.wp (v := (.bool false)) (Ex.move rfl) (by decide)) (fun _ _ => ?_)
              refine GL.skipG (tj := 70) rfl rfl rfl (by decide) ?_
              refine GL.skipG (tj := 70) rfl rfl rfl (by decide) ?_
              refine GL.skipG (tj := 70) rfl rfl rfl (by decide) ?_
              refine GL.stepG (tj := 62) rfl rfl (Ex.wp (v := (.bool false)) (Ex.pickF rfl rfl) (by decide)) (fun _ _ => ?_)
              refine GL.val (v := (.bool false)) (Ex.pickF rfl rfl) (by decide) ?_
              refine GL.nil ?_
              refine GE.thenN ?_
              refine GC.cond rfl (fun hq77 => by cases hq77) (fun _ => ?_)
              refine GC.skip ?_
              refine GE.blockN ?_
              refine GE.thenN ?_
              refine GC.region ?_
              refine GL.val (v := (.int .i64 0)) (Ex.move rfl) (by decide) ?_
              refine GL.val (v := (.int .i64 1)) (Ex.add rfl rfl (Z := 1) (by decide)) (by decide) ?_
              refine GL.val (v := (.int .i64 1)) (Ex.assign rfl) (by decide) ?_
              refine GL.nil ?_
              refine GE.thenN ?_
              refine GE.round ?_
              refine GC.seq ?_
              refine GC.seq ?_
              refine GC.region ?_
              refine GL.val (v := (.int .i64 1)) (Ex.move rfl) (by decide) ?_
              refine GL.val (v := (.bool true)) (Ex.cast (Ex.lss rfl rfl) rfl) (by decide) ?_
              refine GL.nil ?_
              refine GE.thenN ?_
              refine GC.cond rfl (fun _ => ?_) (fun hq78 => by cases hq78)
              refine GC.skip ?_
              refine GE.thenN ?_
              refine GC.seq ?_
              refine GC.block ?_
              refine GC.seq ?_
              refine GC.region ?_
              refine GL.val (v := (.slice (some ⟨bq71, 0, none⟩) 3 3)) (Ex.move rfl) (by decide) ?_
              refine GL.val (v := (.int .i64 1)) (Ex.move rfl) (by decide) ?_
              refine GL.val (v := (.pointer (some ⟨bq71, 1, none⟩))) (Ex.cast (Ex.indexAddr rfl rfl Try.underlying38 T.sz3 (by omega) (by omega)) rfl) (by decide) ?_
              refine GL.val (v := (.int .i64 2)) (Ex.load rfl T.ag3 (i := 0) rfl rfl) (by decide) ?_
              refine GL.val (v := (.int .i64 n)) (Ex.move rfl) (by decide) ?_
              refine GL.val (v := (.int .i64 i)) (Ex.move rfl) (by decide) ?_
              refine GL.step (Stp.callR (σ := Unit) (p := fun rz => True) (v := fun rz => (.tuple #[(.int .i64 ((bord 2 n i).1)), (.int .i64 ((bord 2 n i).2))])) (N := fun rz => []) (vs := [(.int .i64 2), (.int .i64 n), (.int .i64 i)]) rfl rfl T.own14 (by decide) (fun wc hw => border 2 n i wc)) (fun xq79 hq80 => ?_)
              refine GL.val (v := (.tuple #[(.int .i64 ((bord 2 n i).1)), (.int .i64 ((bord 2 n i).2))])) (Ex.move rfl) (by decide) ?_
              refine GL.val (v := (.int .i64 ((bord 2 n i).1))) (Ex.extract rfl rfl) (by decide) ?_
              refine GL.val (v := (.int .i64 ((bord 2 n i).2))) (Ex.extract rfl rfl) (by decide) ?_
              refine GL.val (v := (.int .i64 ((bord 2 n i).1))) (Ex.assign rfl) (by decide) ?_
              refine GL.val (v := (.int .i64 ((bord 2 n i).2))) (Ex.assign rfl) (by decide) ?_
              refine GL.nil ?_
              refine GE.thenN ?_
              refine GC.seq ?_
              refine GC.region ?_
              refine GL.val (v := (.int .i64 ((bord 2 n i).2))) (Ex.move rfl) (by decide) ?_
              refine GL.step (Stp.callR (σ := Unit) (p := fun rz => True) (v := fun rz => (.int .i64 ((bord 2 n i).2))) (N := fun rz => []) (vs := [(.int .i64 ((bord 2 n i).2))]) rfl rfl T.own16 (by decide) (fun wc hw => num ((bord 2 n i).2) wc)) (fun xq81 hq82 => ?_)
              refine GL.val (v := (.bool false)) (Ex.cast (Ex.neq rfl rfl) (congrArg Value.bool (decide_eq_false (by exact fun h => h (bord_ok (k := 2) (by decide) (by decide) (by omega) (by omega)).1)))) (by decide) ?_
              refine GL.val (v := (.bool false)) (Ex.move rfl) (by decide) ?_
              refine GL.stepG (tj := 53) rfl rfl (Ex.wp (v := (.int .i64 ((bord 2 n i).1))) (Ex.move rfl) (by decide)) (fun _ _ => ?_)
              refine GL.stepG (tj := 53) rfl rfl (Ex.wp (v := (.bool false)) (Ex.cast (Ex.lss rfl rfl) (congrArg Value.bool (decide_eq_false (by have h := bord_ok (k := 2) (n := n) (i := i) (by decide) (by decide) (by omega) (by omega); omega)))) (by decide)) (fun _ _ => ?_)
              refine GL.val (v := (.bool false)) (Ex.pickF rfl rfl) (by decide) ?_
              refine GL.val (v := (.bool false)) (Ex.move rfl) (by decide) ?_
              refine GL.stepG (tj := 57) rfl rfl (Ex.wp (v := (.int .i64 ((bord 2 n i).1))) (Ex.move rfl) (by decide)) (fun _ _ => ?_)
              refine GL.stepG (tj := 57) rfl rfl (Ex.wp (v := (.int .i64 n)) (Ex.move rfl) (by decide)) (fun _ _ => ?_)
              refine GL.stepG (tj := 57) rfl rfl (Ex.wp (v := (.bool false)) (Ex.cast (Ex.geq rfl rfl) (congrArg Value.bool (decide_eq_false (by have h := bord_ok (k := 2) (n := n) (i := i) (by decide) (by decide) (by omega) (by omega); omega)))) (by decide)) (fun _ _ => ?_)
              refine GL.val (v := (.bool false)) (Ex.pickF rfl rfl) (by decide) ?_
              refine GL.val (v := (.bool false)) (Ex.move rfl) (by decide) ?_
              refine GL.stepG (tj := 62) rfl rfl (Ex.wp (v := (.int .i64 i)) (Ex.move rfl) (by decide)) (fun _ _ => ?_)
              refine GL.stepG (tj := 62) rfl rfl (Ex.wp (v := (.bool false)) (Ex.cast (Ex.geq rfl rfl) (congrArg Value.bool (decide_eq_false (by first | assumption | omega)))) (by decide)) (fun _ _ => ?_)
              refine GL.stepG (tj := 62) rfl rfl (Ex.wp (v := (.bool false)) (Ex.move rfl) (by decide)) (fun _ _ => ?_)
              refine GL.skipG (tj := 65) rfl rfl rfl (by decide) ?_
              refine GL.skipG (tj := 65) rfl rfl rfl (by decide) ?_
              refine GL.skipG (tj := 65) rfl rfl rfl (by decide) ?_
              refine GL.stepG (tj := 62) rfl rfl (Ex.wp (v := (.bool false)) (Ex.pickF rfl rfl) (by decide)) (fun _ _ => ?_)
              refine GL.stepG (tj := 62) rfl rfl (Ex.wp (v := (.bool false)) (Ex.move rfl) (by decide)) (fun _ _ => ?_)
              refine GL.skipG (tj := 70) rfl rfl rfl (by decide) ?_
              refine GL.skipG (tj := 70) rfl rfl rfl (by decide) ?_
              refine GL.skipG (tj := 70) rfl rfl rfl (by decide) ?_
              refine GL.stepG (tj := 62) rfl rfl (Ex.wp (v := (.bool false)) (Ex.pickF rfl rfl) (by decide)) (fun _ _ => ?_)
              refine GL.val (v := (.bool false)) (Ex.pickF rfl rfl) (by decide) ?_
              refine GL.nil ?_
              refine GE.thenN ?_
              refine GC.cond rfl (fun hq83 => by cases hq83) (fun _ => ?_)
              refine GC.skip ?_
              refine GE.blockN ?_
              refine GE.thenN ?_
              refine GC.region ?_
              refine GL.val (v := (.int .i64 1)) (Ex.move rfl) (by decide) ?_
              refine GL.val (v := (.int .i64 2)) (Ex.add rfl rfl (Z := 2) (by decide)) (by decide) ?_
              refine GL.val (v := (.int .i64 2)) (Ex.assign rfl) (by decide) ?_
              refine GL.nil ?_
              refine GE.thenN ?_
              refine GE.round ?_
              refine GC.seq ?_
              refine GC.seq ?_
              refine GC.region ?_
              refine GL.val (v := (.int .i64 2)) (Ex.move rfl) (by decide) ?_
              refine GL.val (v := (.bool true)) (Ex.cast (Ex.lss rfl rfl) rfl) (by decide) ?_
              refine GL.nil ?_
              refine GE.thenN ?_
              refine GC.cond rfl (fun _ => ?_) (fun hq84 => by cases hq84)
              refine GC.skip ?_
              refine GE.thenN ?_
              refine GC.seq ?_
              refine GC.block ?_
              refine GC.seq ?_
              refine GC.region ?_
              refine GL.val (v := (.slice (some ⟨bq71, 0, none⟩) 3 3)) (Ex.move rfl) (by decide) ?_
              refine GL.val (v := (.int .i64 2)) (Ex.move rfl) (by decide) ?_
              refine GL.val (v := (.pointer (some ⟨bq71, 2, none⟩))) (Ex.cast (Ex.indexAddr rfl rfl Try.underlying38 T.sz3 (by omega) (by omega)) rfl) (by decide) ?_
              refine GL.val (v := (.int .i64 3)) (Ex.load rfl T.ag3 (i := 0) rfl rfl) (by decide) ?_
              refine GL.val (v := (.int .i64 n)) (Ex.move rfl) (by decide) ?_
              refine GL.val (v := (.int .i64 i)) (Ex.move rfl) (by decide) ?_
              refine GL.step (Stp.callR (σ := Unit) (p := fun rz => True) (v := fun rz => (.tuple #[(.int .i64 ((bord 3 n i).1)), (.int .i64 ((bord 3 n i).2))])) (N := fun rz => []) (vs := [(.int .i64 3), (.int .i64 n), (.int .i64 i)]) rfl rfl T.own14 (by decide) (fun wc hw => border 3 n i wc)) (fun xq85 hq86 => ?_)
              refine GL.val (v := (.tuple #[(.int .i64 ((bord 3 n i).1)), (.int .i64 ((bord 3 n i).2))])) (Ex.move rfl) (by decide) ?_
              refine GL.val (v := (.int .i64 ((bord 3 n i).1))) (Ex.extract rfl rfl) (by decide) ?_
              refine GL.val (v := (.int .i64 ((bord 3 n i).2))) (Ex.extract rfl rfl) (by decide) ?_
              refine GL.val (v := (.int .i64 ((bord 3 n i).1))) (Ex.assign rfl) (by decide) ?_
              refine GL.val (v := (.int .i64 ((bord 3 n i).2))) (Ex.assign rfl) (by decide) ?_
              refine GL.nil ?_
              refine GE.thenN ?_
              refine GC.seq ?_
              refine GC.region ?_
              refine GL.val (v := (.int .i64 ((bord 3 n i).2))) (Ex.move rfl) (by decide) ?_
              refine GL.step (Stp.callR (σ := Unit) (p := fun rz => True) (v := fun rz => (.int .i64 ((bord 3 n i).2))) (N := fun rz => []) (vs := [(.int .i64 ((bord 3 n i).2))]) rfl rfl T.own16 (by decide) (fun wc hw => num ((bord 3 n i).2) wc)) (fun xq87 hq88 => ?_)
              refine GL.val (v := (.bool false)) (Ex.cast (Ex.neq rfl rfl) (congrArg Value.bool (decide_eq_false (by exact fun h => h (bord_ok (k := 3) (by decide) (by decide) (by omega) (by omega)).1)))) (by decide) ?_
              refine GL.val (v := (.bool false)) (Ex.move rfl) (by decide) ?_
              refine GL.stepG (tj := 53) rfl rfl (Ex.wp (v := (.int .i64 ((bord 3 n i).1))) (Ex.move rfl) (by decide)) (fun _ _ => ?_)
              refine GL.stepG (tj := 53) rfl rfl (Ex.wp (v := (.bool false)) (Ex.cast (Ex.lss rfl rfl) (congrArg Value.bool (decide_eq_false (by have h := bord_ok (k := 3) (n := n) (i := i) (by decide) (by decide) (by omega) (by omega); omega)))) (by decide)) (fun _ _ => ?_)
              refine GL.val (v := (.bool false)) (Ex.pickF rfl rfl) (by decide) ?_
              refine GL.val (v := (.bool false)) (Ex.move rfl) (by decide) ?_
              refine GL.stepG (tj := 57) rfl rfl (Ex.wp (v := (.int .i64 ((bord 3 n i).1))) (Ex.move rfl) (by decide)) (fun _ _ => ?_)
              refine GL.stepG (tj := 57) rfl rfl (Ex.wp (v := (.int .i64 n)) (Ex.move rfl) (by decide)) (fun _ _ => ?_)
              refine GL.stepG (tj := 57) rfl rfl (Ex.wp (v := (.bool false)) (Ex.cast (Ex.geq rfl rfl) (congrArg Value.bool (decide_eq_false (by have h := bord_ok (k := 3) (n := n) (i := i) (by decide) (by decide) (by omega) (by omega); omega)))) (by decide)) (fun _ _ => ?_)
              refine GL.val (v := (.bool false)) (Ex.pickF rfl rfl) (by decide) ?_
              refine GL.val (v := (.bool false)) (Ex.move rfl) (by decide) ?_
              refine GL.stepG (tj := 62) rfl rfl (Ex.wp (v := (.int .i64 i)) (Ex.move rfl) (by decide)) (fun _ _ => ?_)
              refine GL.stepG (tj := 62) rfl rfl (Ex.wp (v := (.bool false)) (Ex.cast (Ex.geq rfl rfl) (congrArg Value.bool (decide_eq_false (by first | assumption | omega)))) (by decide)) (fun _ _ => ?_)
              refine GL.stepG (tj := 62) rfl rfl (Ex.wp (v := (.bool false)) (Ex.move rfl) (by decide)) (fun _ _ => ?_)
              refine GL.skipG (tj := 65) rfl rfl rfl (by decide) ?_
              refine GL.skipG (tj := 65) rfl rfl rfl (by decide) ?_
              refine GL.skipG (tj := 65) rfl rfl rfl (by decide) ?_
              refine GL.stepG (tj := 62) rfl rfl (Ex.wp (v := (.bool false)) (Ex.pickF rfl rfl) (by decide)) (fun _ _ => ?_)
              refine GL.stepG (tj := 62) rfl rfl (Ex.wp (v := (.bool false)) (Ex.move rfl) (by decide)) (fun _ _ => ?_)
              refine GL.skipG (tj := 70) rfl rfl rfl (by decide) ?_
              refine GL.skipG (tj := 70) rfl rfl rfl (by decide) ?_
              refine GL.skipG (tj := 70) rfl rfl rfl (by decide) ?_
              refine GL.stepG (tj := 62) rfl rfl (Ex.wp (v := (.bool false)) (Ex.pickF rfl rfl) (by decide)) (fun _ _ => ?_)
              refine GL.val (v := (.bool false)) (Ex.pickF rfl rfl) (by decide) ?_
              refine GL.nil ?_
              refine GE.thenN ?_
              refine GC.cond rfl (fun hq89 => by cases hq89) (fun _ => ?_)
              refine GC.skip ?_
              refine GE.blockN ?_
              refine GE.thenN ?_
              refine GC.region ?_
              refine GL.val (v := (.int .i64 2)) (Ex.move rfl) (by decide) ?_
              refine GL.val (v := (.int .i64 3)) (Ex.add rfl rfl (Z := 3) (by decide)) (by decide) ?_
              refine GL.val (v := (.int .i64 3)) (Ex.assign rfl) (by decide) ?_
              refine GL.nil ?_
              refine GE.thenN ?_
              refine GE.round ?_
              refine GC.seq ?_
              refine GC.seq ?_
              refine GC.region ?_
              refine GL.val (v := (.int .i64 3)) (Ex.move rfl) (by decide) ?_
              refine GL.val (v := (.bool false)) (Ex.cast (Ex.lss rfl rfl) rfl) (by decide) ?_
              refine GL.nil ?_
              refine GE.thenN ?_
              refine GC.cond rfl (fun hq90 => by cases hq90) (fun _ => ?_)
              refine GC.exit ?_
              refine GE.thenE ?_
              refine GE.thenE ?_
              refine GE.blockE ?_
              refine GE.thenN ?_
              refine GC.seq ?_
              refine GC.region ?_
              refine GL.val (v := (.int .i64 n)) (Ex.move rfl) (by decide) ?_
              refine GL.val (v := (.int .i64 i)) (Ex.move rfl) (by decide) ?_
              refine GL.step (Stp.callR (σ := Unit) (p := fun rz => True) (v := fun rz => (.tuple #[(.int .i64 ((bord 3 n i).1)), (.int .i64 ((bord 3 n i).2))])) (N := fun rz => []) (vs := [(.int .i64 3), (.int .i64 n), (.int .i64 i)]) rfl rfl T.own14 (by decide) (fun wc hw => border 3 n i wc)) (fun xq91 hq92 => ?_)
              refine GL.val (v := (.tuple #[(.int .i64 ((bord 3 n i).1)), (.int .i64 ((bord 3 n i).2))])) (Ex.move rfl) (by decide) ?_
              refine GL.val (v := (.int .i64 ((bord 3 n i).1))) (Ex.extract rfl rfl) (by decide) ?_
              refine GL.val (v := (.int .i64 ((bord 3 n i).2))) (Ex.extract rfl rfl) (by decide) ?_
              refine GL.val (v := (.int .i64 ((bord 3 n i).1))) (Ex.assign rfl) (by decide) ?_
              refine GL.val (v := (.int .i64 ((bord 3 n i).2))) (Ex.assign rfl) (by decide) ?_
              refine GL.nil ?_
              refine GE.thenN ?_
              refine GC.seq ?_
              refine GC.region ?_
              refine GL.val (v := (.int .i64 n)) (Ex.move rfl) (by decide) ?_
              refine GL.val (v := (.int .i64 i)) (Ex.move rfl) (by decide) ?_
              refine GL.val (v := (.int .i64 n)) (Ex.move rfl) (by decide) ?_
              refine GL.val (v := (.int .i64 (i + n))) (Ex.add rfl rfl (Z := i + n) (w64 (by omega))) (by decide) ?_
              refine GL.step (Stp.callR (σ := Unit) (p := fun rz => True) (v := fun rz => (.tuple #[(.int .i64 ((bord 3 n (i + n)).1)), (.int .i64 ((bord 3 n (i + n)).2))])) (N := fun rz => []) (vs := [(.int .i64 3), (.int .i64 n), (.int .i64 (i + n))]) rfl rfl T.own14 (by decide) (fun wc hw => border 3 n (i + n) wc)) (fun xq93 hq94 => ?_)
              refine GL.val (v := (.tuple #[(.int .i64 ((bord 3 n (i + n)).1)), (.int .i64 ((bord 3 n (i + n)).2))])) (Ex.move rfl) (by decide) ?_
              refine GL.val (v := (.int .i64 ((bord 3 n (i + n)).1))) (Ex.extract rfl rfl) (by decide) ?_
              refine GL.val (v := (.int .i64 ((bord 3 n (i + n)).2))) (Ex.extract rfl rfl) (by decide) ?_
              refine GL.val (v := (.int .i64 ((bord 3 n (i + n)).1))) (Ex.assign rfl) (by decide) ?_
              refine GL.val (v := (.int .i64 ((bord 3 n (i + n)).2))) (Ex.assign rfl) (by decide) ?_
              refine GL.nil ?_
              refine GE.thenN ?_
              refine GC.seq ?_
              refine GC.region ?_
              refine GL.val (v := (.int .i64 n)) (Ex.move rfl) (by decide) ?_
              refine GL.val (v := (.int .i64 i)) (Ex.move rfl) (by decide) ?_
              refine GL.step (Stp.callR (σ := Unit) (p := fun rz => True) (v := fun rz => (.tuple #[(.int .i64 ((bord 2 n i).1)), (.int .i64 ((bord 2 n i).2))])) (N := fun rz => []) (vs := [(.int .i64 2), (.int .i64 n), (.int .i64 i)]) rfl rfl T.own14 (by decide) (fun wc hw => border 2 n i wc)) (fun xq95 hq96 => ?_)
              refine GL.val (v := (.tuple #[(.int .i64 ((bord 2 n i).1)), (.int .i64 ((bord 2 n i).2))])) (Ex.move rfl) (by decide) ?_
              refine GL.val (v := (.int .i64 ((bord 2 n i).1))) (Ex.extract rfl rfl) (by decide) ?_
              refine GL.val (v := (.int .i64 ((bord 2 n i).2))) (Ex.extract rfl rfl) (by decide) ?_
              refine GL.val (v := (.int .i64 ((bord 2 n i).1))) (Ex.assign rfl) (by decide) ?_
              refine GL.val (v := (.int .i64 ((bord 2 n i).2))) (Ex.assign rfl) (by decide) ?_
              refine GL.nil ?_
              refine GE.thenN ?_
              refine GC.seq ?_
              refine GC.region ?_
              refine GL.val (v := (.int .i64 n)) (Ex.move rfl) (by decide) ?_
              refine GL.val (v := (.int .i64 i)) (Ex.move rfl) (by decide) ?_
              refine GL.val (v := (.int .i64 n)) (Ex.move rfl) (by decide) ?_
              refine GL.val (v := (.int .i64 (n - 1))) (Ex.sub' rfl rfl (Z := n - 1) (w64 (by omega))) (by decide) ?_
              refine GL.val (v := (.int .i64 (2 * (n - 1)))) (Ex.mul rfl rfl (Z := 2 * (n - 1)) (w64 (by omega))) (by decide) ?_
              refine GL.val (v := (.int .i64 (i + (2 * (n - 1))))) (Ex.add rfl rfl (Z := i + (2 * (n - 1))) (w64 (by omega))) (by decide) ?_
              refine GL.step (Stp.callR (σ := Unit) (p := fun rz => True) (v := fun rz => (.tuple #[(.int .i64 ((bord 2 n (i + (2 * (n - 1)))).1)), (.int .i64 ((bord 2 n (i + (2 * (n - 1)))).2))])) (N := fun rz => []) (vs := [(.int .i64 2), (.int .i64 n), (.int .i64 (i + (2 * (n - 1))))]) rfl rfl T.own14 (by decide) (fun wc hw => border 2 n (i + (2 * (n - 1))) wc)) (fun xq97 hq98 => ?_)
              refine GL.val (v := (.tuple #[(.int .i64 ((bord 2 n (i + (2 * (n - 1)))).1)), (.int .i64 ((bord 2 n (i + (2 * (n - 1)))).2))])) (Ex.move rfl) (by decide) ?_
              refine GL.val (v := (.int .i64 ((bord 2 n (i + (2 * (n - 1)))).1))) (Ex.extract rfl rfl) (by decide) ?_
              refine GL.val (v := (.int .i64 ((bord 2 n (i + (2 * (n - 1)))).2))) (Ex.extract rfl rfl) (by decide) ?_
              refine GL.val (v := (.int .i64 ((bord 2 n (i + (2 * (n - 1)))).1))) (Ex.assign rfl) (by decide) ?_
              refine GL.val (v := (.int .i64 ((bord 2 n (i + (2 * (n - 1)))).2))) (Ex.assign rfl) (by decide) ?_
              refine GL.nil ?_
              refine GE.thenN ?_
              refine GC.seq ?_
              refine GC.region ?_
              refine GL.val (v := (.int .i64 n)) (Ex.move rfl) (by decide) ?_
              refine GL.val (v := (.int .i64 i)) (Ex.move rfl) (by decide) ?_
              refine GL.val (v := (.int .i64 (-i))) (Ex.neg rfl (Z := -i) (by rw [w64 (by omega)]; omega)) (by decide) ?_
              refine GL.step (Stp.callR (σ := Unit) (p := fun rz => True) (v := fun rz => (.tuple #[(.int .i64 ((bord 2 n (-i)).1)), (.int .i64 ((bord 2 n (-i)).2))])) (N := fun rz => []) (vs := [(.int .i64 2), (.int .i64 n), (.int .i64 (-i))]) rfl rfl T.own14 (by decide) (fun wc hw => border 2 n (-i) wc)) (fun xq99 hq100 => ?_)
              refine GL.val (v := (.tuple #[(.int .i64 ((bord 2 n (-i)).1)), (.int .i64 ((bord 2 n (-i)).2))])) (Ex.move rfl) (by decide) ?_
              refine GL.val (v := (.int .i64 ((bord 2 n (-i)).1))) (Ex.extract rfl rfl) (by decide) ?_
              refine GL.val (v := (.int .i64 ((bord 2 n (-i)).2))) (Ex.extract rfl rfl) (by decide) ?_
              refine GL.val (v := (.int .i64 ((bord 2 n (-i)).1))) (Ex.assign rfl) (by decide) ?_
              refine GL.val (v := (.int .i64 ((bord 2 n (-i)).2))) (Ex.assign rfl) (by decide) ?_
              refine GL.nil ?_
              refine GE.thenN ?_
              refine GC.seq ?_
              refine GC.region ?_
              refine GL.val (v := (.int .i64 ((bord 3 n i).1))) (Ex.move rfl) (by decide) ?_
              refine GL.val (v := (.int .i64 ((bord 3 n (i + n)).1))) (Ex.move rfl) (by decide) ?_
              refine GL.val (v := (.bool true)) (Ex.cast (Ex.eql rfl rfl) (congrArg Value.bool (decide_eq_true (by rw [bord_wrap (by omega)])))) (by decide) ?_
              refine GL.val (v := (.bool true)) (Ex.move rfl) (by decide) ?_
              refine GL.stepG (tj := 116) rfl rfl (Ex.wp (v := (.int .i64 ((bord 2 n i).1))) (Ex.move rfl) (by decide)) (fun _ _ => ?_)
              refine GL.stepG (tj := 116) rfl rfl (Ex.wp (v := (.int .i64 ((bord 2 n (i + (2 * (n - 1)))).1))) (Ex.move rfl) (by decide)) (fun _ _ => ?_)
              refine GL.stepG (tj := 116) rfl rfl (Ex.wp (v := (.bool true)) (Ex.cast (Ex.eql rfl rfl) (congrArg Value.bool (decide_eq_true (by rw [bord_two (by omega)])))) (by decide)) (fun _ _ => ?_)
              refine GL.val (v := (.bool true)) (Ex.pickT rfl rfl) (by decide) ?_
              refine GL.val (v := (.bool true)) (Ex.move rfl) (by decide) ?_
              refine GL.stepG (tj := 121) rfl rfl (Ex.wp (v := (.int .i64 ((bord 2 n i).1))) (Ex.move rfl) (by decide)) (fun _ _ => ?_)
              refine GL.stepG (tj := 121) rfl rfl (Ex.wp (v := (.int .i64 ((bord 2 n (-i)).1))) (Ex.move rfl) (by decide)) (fun _ _ => ?_)
              refine GL.stepG (tj := 121) rfl rfl (Ex.wp (v := (.bool true)) (Ex.cast (Ex.eql rfl rfl) (congrArg Value.bool (decide_eq_true (by rw [bord_neg (by omega)])))) (by decide)) (fun _ _ => ?_)
              refine GL.val (v := (.bool true)) (Ex.pickT rfl rfl) (by decide) ?_
              refine GL.val (v := (.bool true)) (Ex.assign rfl) (by decide) ?_
              refine GL.nil ?_
              refine GE.thenN ?_
              refine GC.ret ?_
              refine GC.ret1 rfl (Rv.tmp rfl) (fun wN HN => ?_)
              exact HN.ret () trivial (by first | rfl | (exfalso; omega)) (List.nil_sublist _) rfl
            · refine GC.region ?_
              refine GL.step (Stp.buildSlice (cs := [(.int .i64 1), (.int .i64 2), (.int .i64 3)]) (vs := [(0, (.int .i64 1)), (1, (.int .i64 2)), (2, (.int .i64 3))]) Try.underlying38 T.zr3 T.sz3 rfl (by decide) (by decide) (by first | rfl | kernel_rfl) (by decide)) (fun bq101 _ => ?_)
              refine GL.val (v := (.slice (some ⟨bq101, 0, none⟩) 3 3)) (Ex.assign rfl) (by decide) ?_
              refine GL.nil ?_
              refine GE.thenN ?_
              refine GC.seq ?_
              refine GC.seq ?_
              refine GC.region ?_
              refine GL.val (v := (.int .i64 0)) (Ex.assign rfl) (by decide) ?_
              refine GL.nil ?_
              refine GE.thenN ?_
              refine GC.block ?_
              refine GC.unroll 4 ?_
              refine GE.round ?_
              refine GC.seq ?_
              refine GC.seq ?_
              refine GC.region ?_
              refine GL.val (v := (.int .i64 0)) (Ex.move rfl) (by decide) ?_
              refine GL.val (v := (.bool true)) (Ex.cast (Ex.lss rfl rfl) rfl) (by decide) ?_
              refine GL.nil ?_
              refine GE.thenN ?_
              refine GC.cond rfl (fun _ => ?_) (fun hq102 => by cases hq102)
              refine GC.skip ?_
              refine GE.thenN ?_
              refine GC.seq ?_
              refine GC.block ?_
              refine GC.seq ?_
              refine GC.region ?_
              refine GL.val (v := (.slice (some ⟨bq101, 0, none⟩) 3 3)) (Ex.move rfl) (by decide) ?_
              refine GL.val (v := (.int .i64 0)) (Ex.move rfl) (by decide) ?_
              refine GL.val (v := (.pointer (some ⟨bq101, 0, none⟩))) (Ex.cast (Ex.indexAddr rfl rfl Try.underlying38 T.sz3 (by omega) (by omega)) rfl) (by decide) ?_
              refine GL.val (v := (.int .i64 1)) (Ex.load rfl T.ag3 (i := 0) rfl rfl) (by decide) ?_
              refine GL.val (v := (.int .i64 n)) (Ex.move rfl) (by decide) ?_
              refine GL.val (v := (.int .i64 i)) (Ex.move rfl) (by decide) ?_
              refine GL.step (Stp.callR (σ := Unit) (p := fun rz => True) (v := fun rz => (.tuple #[(.int .i64 ((bord 1 n i).1)), (.int .i64 ((bord 1 n i).2))])) (N := fun rz => []) (vs := [(.int .i64 1), (.int .i64 n), (.int .i64 i)]) rfl rfl T.own14 (by decide) (fun wc hw => border 1 n i wc)) (fun xq103 hq104 => ?_)
              refine GL.val (v := (.tuple #[(.int .i64 ((bord 1 n i).1)), (.int .i64 ((bord 1 n i).2))])) (Ex.move rfl) (by decide) ?_
              refine GL.val (v := (.int .i64 ((bord 1 n i).1))) (Ex.extract rfl rfl) (by decide) ?_
              refine GL.val (v := (.int .i64 ((bord 1 n i).2))) (Ex.extract rfl rfl) (by decide) ?_
              refine GL.val (v := (.int .i64 ((bord 1 n i).1))) (Ex.assign rfl) (by decide) ?_
              refine GL.val (v := (.int .i64 ((bord 1 n i).2))) (Ex.assign rfl) (by decide) ?_
              refine GL.nil ?_
              refine GE.thenN ?_
              refine GC.seq ?_
              refine GC.region ?_
              refine GL.val (v := (.int .i64 ((bord 1 n i).2))) (Ex.move rfl) (by decide) ?_
              refine GL.step (Stp.callR (σ := Unit) (p := fun rz => True) (v := fun rz => (.int .i64 ((bord 1 n i).2))) (N := fun rz => []) (vs := [(.int .i64 ((bord 1 n i).2))]) rfl rfl T.own16 (by decide) (fun wc hw => num ((bord 1 n i).2) wc)) (fun xq105 hq106 => ?_)
              refine GL.val (v := (.bool false)) (Ex.cast (Ex.neq rfl rfl) (congrArg Value.bool (decide_eq_false (by exact fun h => h (bord_ok (k := 1) (by decide) (by decide) (by omega) (by omega)).1)))) (by decide) ?_
              refine GL.val (v := (.bool false)) (Ex.move rfl) (by decide) ?_
              refine GL.stepG (tj := 53) rfl rfl (Ex.wp (v := (.int .i64 ((bord 1 n i).1))) (Ex.move rfl) (by decide)) (fun _ _ => ?_)
              refine GL.stepG (tj := 53) rfl rfl (Ex.wp (v := (.bool false)) (Ex.cast (Ex.lss rfl rfl) (congrArg Value.bool (decide_eq_false (by have h := bord_ok (k := 1) (n := n) (i := i) (by decide) (by decide) (by omega) (by omega); omega)))) (by decide)) (fun _ _ => ?_)
              refine GL.val (v := (.bool false)) (Ex.pickF rfl rfl) (by decide) ?_
              refine GL.val (v := (.bool false)) (Ex.move rfl) (by decide) ?_
              refine GL.stepG (tj := 57) rfl rfl (Ex.wp (v := (.int .i64 ((bord 1 n i).1))) (Ex.move rfl) (by decide)) (fun _ _ => ?_)
              refine GL.stepG (tj := 57) rfl rfl (Ex.wp (v := (.int .i64 n)) (Ex.move rfl) (by decide)) (fun _ _ => ?_)
              refine GL.stepG (tj := 57) rfl rfl (Ex.wp (v := (.bool false)) (Ex.cast (Ex.geq rfl rfl) (congrArg Value.bool (decide_eq_false (by have h := bord_ok (k := 1) (n := n) (i := i) (by decide) (by decide) (by omega) (by omega); omega)))) (by decide)) (fun _ _ => ?_)
              refine GL.val (v := (.bool false)) (Ex.pickF rfl rfl) (by decide) ?_
              refine GL.val (v := (.bool false)) (Ex.move rfl) (by decide) ?_
              refine GL.stepG (tj := 62) rfl rfl (Ex.wp (v := (.int .i64 i)) (Ex.move rfl) (by decide)) (fun _ _ => ?_)
              refine GL.stepG (tj := 62) rfl rfl (Ex.wp (v := (.bool false)) (Ex.cast (Ex.geq rfl rfl) (congrArg Value.bool (decide_eq_false (by first | assumption | omega)))) (by decide)) (fun _ _ => ?_)
              refine GL.stepG (tj := 62) rfl rfl (Ex.wp (v := (.bool false)) (Ex.move rfl) (by decide)) (fun _ _ => ?_)
              refine GL.skipG (tj := 65) rfl rfl rfl (by decide) ?_
              refine GL.skipG (tj := 65) rfl rfl rfl (by decide) ?_
              refine GL.skipG (tj := 65) rfl rfl rfl (by decide) ?_
              refine GL.stepG (tj := 62) rfl rfl (Ex.wp (v := (.bool false)) (Ex.pickF rfl rfl) (by decide)) (fun _ _ => ?_)
              refine GL.stepG (tj := 62) rfl rfl (Ex.wp (v := (.bool false)) (Ex.move rfl) (by decide)) (fun _ _ => ?_)
              refine GL.skipG (tj := 70) rfl rfl rfl (by decide) ?_
              refine GL.skipG (tj := 70) rfl rfl rfl (by decide) ?_
              refine GL.skipG (tj := 70) rfl rfl rfl (by decide) ?_
              refine GL.stepG (tj := 62) rfl rfl (Ex.wp (v := (.bool false)) (Ex.pickF rfl rfl) (by decide)) (fun _ _ => ?_)
              refine GL.val (v := (.bool false)) (Ex.pickF rfl rfl) (by decide) ?_
              refine GL.nil ?_
              refine GE.thenN ?_
              refine GC.cond rfl (fun hq107 => by cases hq107) (fun _ => ?_)
              refine GC.skip ?_
              refine GE.blockN ?_
              refine GE.thenN ?_
              refine GC.region ?_
              refine GL.val (v := (.int .i64 0)) (Ex.move rfl) (by decide) ?_
              refine GL.val (v := (.int .i64 1)) (Ex.add rfl rfl (Z := 1) (by decide)) (by decide) ?_
              refine GL.val (v := (.int .i64 1)) (Ex.assign rfl) (by decide) ?_
              refine GL.nil ?_
              refine GE.thenN ?_
              refine GE.round ?_
              refine GC.seq ?_
              refine GC.seq ?_
              refine GC.region ?_
              refine GL.val (v := (.int .i64 1)) (Ex.move rfl) (by decide) ?_
              refine GL.val (v := (.bool true)) (Ex.cast (Ex.lss rfl rfl) rfl) (by decide) ?_
              refine GL.nil ?_
              refine GE.thenN ?_
              refine GC.cond rfl (fun _ => ?_) (fun hq108 => by cases hq108)
              refine GC.skip ?_
              refine GE.thenN ?_
              refine GC.seq ?_
              refine GC.block ?_
              refine GC.seq ?_
              refine GC.region ?_
              refine GL.val (v := (.slice (some ⟨bq101, 0, none⟩) 3 3)) (Ex.move rfl) (by decide) ?_
              refine GL.val (v := (.int .i64 1)) (Ex.move rfl) (by decide) ?_
              refine GL.val (v := (.pointer (some ⟨bq101, 1, none⟩))) (Ex.cast (Ex.indexAddr rfl rfl Try.underlying38 T.sz3 (by omega) (by omega)) rfl) (by decide) ?_
              refine GL.val (v := (.int .i64 2)) (Ex.load rfl T.ag3 (i := 0) rfl rfl) (by decide) ?_
              refine GL.val (v := (.int .i64 n)) (Ex.move rfl) (by decide) ?_
              refine GL.val (v := (.int .i64 i)) (Ex.move rfl) (by decide) ?_
              refine GL.step (Stp.callR (σ := Unit) (p := fun rz => True) (v := fun rz => (.tuple #[(.int .i64 ((bord 2 n i).1)), (.int .i64 ((bord 2 n i).2))])) (N := fun rz => []) (vs := [(.int .i64 2), (.int .i64 n), (.int .i64 i)]) rfl rfl T.own14 (by decide) (fun wc hw => border 2 n i wc)) (fun xq109 hq110 => ?_)
              refine GL.val (v := (.tuple #[(.int .i64 ((bord 2 n i).1)), (.int .i64 ((bord 2 n i).2))])) (Ex.move rfl) (by decide) ?_
              refine GL.val (v := (.int .i64 ((bord 2 n i).1))) (Ex.extract rfl rfl) (by decide) ?_
              refine GL.val (v := (.int .i64 ((bord 2 n i).2))) (Ex.extract rfl rfl) (by decide) ?_
              refine GL.val (v := (.int .i64 ((bord 2 n i).1))) (Ex.assign rfl) (by decide) ?_
              refine GL.val (v := (.int .i64 ((bord 2 n i).2))) (Ex.assign rfl) (by decide) ?_
              refine GL.nil ?_
              refine GE.thenN ?_
              refine GC.seq ?_
              refine GC.region ?_
              refine GL.val (v := (.int .i64 ((bord 2 n i).2))) (Ex.move rfl) (by decide) ?_
              refine GL.step (Stp.callR (σ := Unit) (p := fun rz => True) (v := fun rz => (.int .i64 ((bord 2 n i).2))) (N := fun rz => []) (vs := [(.int .i64 ((bord 2 n i).2))]) rfl rfl T.own16 (by decide) (fun wc hw => num ((bord 2 n i).2) wc)) (fun xq111 hq112 => ?_)
              refine GL.val (v := (.bool false)) (Ex.cast (Ex.neq rfl rfl) (congrArg Value.bool (decide_eq_false (by exact fun h => h (bord_ok (k := 2) (by decide) (by decide) (by omega) (by omega)).1)))) (by decide) ?_
              refine GL.val (v := (.bool false)) (Ex.move rfl) (by decide) ?_
              refine GL.stepG (tj := 53) rfl rfl (Ex.wp (v := (.int .i64 ((bord 2 n i).1))) (Ex.move rfl) (by decide)) (fun _ _ => ?_)
              refine GL.stepG (tj := 53) rfl rfl (Ex.wp (v := (.bool false)) (Ex.cast (Ex.lss rfl rfl) (congrArg Value.bool (decide_eq_false (by have h := bord_ok (k := 2) (n := n) (i := i) (by decide) (by decide) (by omega) (by omega); omega)))) (by decide)) (fun _ _ => ?_)
              refine GL.val (v := (.bool false)) (Ex.pickF rfl rfl) (by decide) ?_
              refine GL.val (v := (.bool false)) (Ex.move rfl) (by decide) ?_
              refine GL.stepG (tj := 57) rfl rfl (Ex.wp (v := (.int .i64 ((bord 2 n i).1))) (Ex.move rfl) (by decide)) (fun _ _ => ?_)
              refine GL.stepG (tj := 57) rfl rfl (Ex.wp (v := (.int .i64 n)) (Ex.move rfl) (by decide)) (fun _ _ => ?_)
              refine GL.stepG (tj := 57) rfl rfl (Ex.wp (v := (.bool false)) (Ex.cast (Ex.geq rfl rfl) (congrArg Value.bool (decide_eq_false (by have h := bord_ok (k := 2) (n := n) (i := i) (by decide) (by decide) (by omega) (by omega); omega)))) (by decide)) (fun _ _ => ?_)
              refine GL.val (v := (.bool false)) (Ex.pickF rfl rfl) (by decide) ?_
              refine GL.val (v := (.bool false)) (Ex.move rfl) (by decide) ?_
              refine GL.stepG (tj := 62) rfl rfl (Ex.wp (v := (.int .i64 i)) (Ex.move rfl) (by decide)) (fun _ _ => ?_)
              refine GL.stepG (tj := 62) rfl rfl (Ex.wp (v := (.bool false)) (Ex.cast (Ex.geq rfl rfl) (congrArg Value.bool (decide_eq_false (by first | assumption | omega)))) (by decide)) (fun _ _ => ?_)
              refine GL.stepG (tj := 62) rfl rfl (Ex.wp (v := (.bool false)) (Ex.move rfl) (by decide)) (fun _ _ => ?_)
              refine GL.skipG (tj := 65) rfl rfl rfl (by decide) ?_
              refine GL.skipG (tj := 65) rfl rfl rfl (by decide) ?_
              refine GL.skipG (tj := 65) rfl rfl rfl (by decide) ?_
              refine GL.stepG (tj := 62) rfl rfl (Ex.wp (v := (.bool false)) (Ex.pickF rfl rfl) (by decide)) (fun _ _ => ?_)
              refine GL.stepG (tj := 62) rfl rfl (Ex.wp (v := (.bool false)) (Ex.move rfl) (by decide)) (fun _ _ => ?_)
              refine GL.skipG (tj := 70) rfl rfl rfl (by decide) ?_
              refine GL.skipG (tj := 70) rfl rfl rfl (by decide) ?_
              refine GL.skipG (tj := 70) rfl rfl rfl (by decide) ?_
              refine GL.stepG (tj := 62) rfl rfl (Ex.wp (v := (.bool false)) (Ex.pickF rfl rfl) (by decide)) (fun _ _ => ?_)
              refine GL.val (v := (.bool false)) (Ex.pickF rfl rfl) (by decide) ?_
              refine GL.nil ?_
              refine GE.thenN ?_
              refine GC.cond rfl (fun hq113 => by cases hq113) (fun _ => ?_)
              refine GC.skip ?_
              refine GE.blockN ?_
              refine GE.thenN ?_
              refine GC.region ?_
              refine GL.val (v := (.int .i64 1)) (Ex.move rfl) (by decide) ?_
              refine GL.val (v := (.int .i64 2)) (Ex.add rfl rfl (Z := 2) (by decide)) (by decide) ?_
              refine GL.val (v := (.int .i64 2)) (Ex.assign rfl) (by decide) ?_
              refine GL.nil ?_
              refine GE.thenN ?_
              refine GE.round ?_
              refine GC.seq ?_
              refine GC.seq ?_
              refine GC.region ?_
              refine GL.val (v := (.int .i64 2)) (Ex.move rfl) (by decide) ?_
              refine GL.val (v := (.bool true)) (Ex.cast (Ex.lss rfl rfl) rfl) (by decide) ?_
              refine GL.nil ?_
              refine GE.thenN ?_
              refine GC.cond rfl (fun _ => ?_) (fun hq114 => by cases hq114)
              refine GC.skip ?_
              refine GE.thenN ?_
              refine GC.seq ?_
              refine GC.block ?_
              refine GC.seq ?_
              refine GC.region ?_
              refine GL.val (v := (.slice (some ⟨bq101, 0, none⟩) 3 3)) (Ex.move rfl) (by decide) ?_
              refine GL.val (v := (.int .i64 2)) (Ex.move rfl) (by decide) ?_
              refine GL.val (v := (.pointer (some ⟨bq101, 2, none⟩))) (Ex.cast (Ex.indexAddr rfl rfl Try.underlying38 T.sz3 (by omega) (by omega)) rfl) (by decide) ?_
              refine GL.val (v := (.int .i64 3)) (Ex.load rfl T.ag3 (i := 0) rfl rfl) (by decide) ?_
              refine GL.val (v := (.int .i64 n)) (Ex.move rfl) (by decide) ?_
              refine GL.val (v := (.int .i64 i)) (Ex.move rfl) (by decide) ?_
              refine GL.step (Stp.callR (σ := Unit) (p := fun rz => True) (v := fun rz => (.tuple #[(.int .i64 ((bord 3 n i).1)), (.int .i64 ((bord 3 n i).2))])) (N := fun rz => []) (vs := [(.int .i64 3), (.int .i64 n), (.int .i64 i)]) rfl rfl T.own14 (by decide) (fun wc hw => border 3 n i wc)) (fun xq115 hq116 => ?_)
              refine GL.val (v := (.tuple #[(.int .i64 ((bord 3 n i).1)), (.int .i64 ((bord 3 n i).2))])) (Ex.move rfl) (by decide) ?_
              refine GL.val (v := (.int .i64 ((bord 3 n i).1))) (Ex.extract rfl rfl) (by decide) ?_
              refine GL.val (v := (.int .i64 ((bord 3 n i).2))) (Ex.extract rfl rfl) (by decide) ?_
              refine GL.val (v := (.int .i64 ((bord 3 n i).1))) (Ex.assign rfl) (by decide) ?_
              refine GL.val (v := (.int .i64 ((bord 3 n i).2))) (Ex.assign rfl) (by decide) ?_
              refine GL.nil ?_
              refine GE.thenN ?_
              refine GC.seq ?_
              refine GC.region ?_
              refine GL.val (v := (.int .i64 ((bord 3 n i).2))) (Ex.move rfl) (by decide) ?_
              refine GL.step (Stp.callR (σ := Unit) (p := fun rz => True) (v := fun rz => (.int .i64 ((bord 3 n i).2))) (N := fun rz => []) (vs := [(.int .i64 ((bord 3 n i).2))]) rfl rfl T.own16 (by decide) (fun wc hw => num ((bord 3 n i).2) wc)) (fun xq117 hq118 => ?_)
              refine GL.val (v := (.bool false)) (Ex.cast (Ex.neq rfl rfl) (congrArg Value.bool (decide_eq_false (by exact fun h => h (bord_ok (k := 3) (by decide) (by decide) (by omega) (by omega)).1)))) (by decide) ?_
              refine GL.val (v := (.bool false)) (Ex.move rfl) (by decide) ?_
              refine GL.stepG (tj := 53) rfl rfl (Ex.wp (v := (.int .i64 ((bord 3 n i).1))) (Ex.move rfl) (by decide)) (fun _ _ => ?_)
              refine GL.stepG (tj := 53) rfl rfl (Ex.wp (v := (.bool false)) (Ex.cast (Ex.lss rfl rfl) (congrArg Value.bool (decide_eq_false (by have h := bord_ok (k := 3) (n := n) (i := i) (by decide) (by decide) (by omega) (by omega); omega)))) (by decide)) (fun _ _ => ?_)
              refine GL.val (v := (.bool false)) (Ex.pickF rfl rfl) (by decide) ?_
              refine GL.val (v := (.bool false)) (Ex.move rfl) (by decide) ?_
              refine GL.stepG (tj := 57) rfl rfl (Ex.wp (v := (.int .i64 ((bord 3 n i).1))) (Ex.move rfl) (by decide)) (fun _ _ => ?_)
              refine GL.stepG (tj := 57) rfl rfl (Ex.wp (v := (.int .i64 n)) (Ex.move rfl) (by decide)) (fun _ _ => ?_)
              refine GL.stepG (tj := 57) rfl rfl (Ex.wp (v := (.bool false)) (Ex.cast (Ex.geq rfl rfl) (congrArg Value.bool (decide_eq_false (by have h := bord_ok (k := 3) (n := n) (i := i) (by decide) (by decide) (by omega) (by omega); omega)))) (by decide)) (fun _ _ => ?_)
              refine GL.val (v := (.bool false)) (Ex.pickF rfl rfl) (by decide) ?_
              refine GL.val (v := (.bool false)) (Ex.move rfl) (by decide) ?_
              refine GL.stepG (tj := 62) rfl rfl (Ex.wp (v := (.int .i64 i)) (Ex.move rfl) (by decide)) (fun _ _ => ?_)
              refine GL.stepG (tj := 62) rfl rfl (Ex.wp (v := (.bool false)) (Ex.cast (Ex.geq rfl rfl) (congrArg Value.bool (decide_eq_false (by first | assumption | omega)))) (by decide)) (fun _ _ => ?_)
              refine GL.stepG (tj := 62) rfl rfl (Ex.wp (v := (.bool false)) (Ex.move rfl) (by decide)) (fun _ _ => ?_)
              refine GL.skipG (tj := 65) rfl rfl rfl (by decide) ?_
              refine GL.skipG (tj := 65) rfl rfl rfl (by decide) ?_
              refine GL.skipG (tj := 65) rfl rfl rfl (by decide) ?_
              refine GL.stepG (tj := 62) rfl rfl (Ex.wp (v := (.bool false)) (Ex.pickF rfl rfl) (by decide)) (fun _ _ => ?_)
              refine GL.stepG (tj := 62) rfl rfl (Ex.wp (v := (.bool false)) (Ex.move rfl) (by decide)) (fun _ _ => ?_)
              refine GL.skipG (tj := 70) rfl rfl rfl (by decide) ?_
              refine GL.skipG (tj := 70) rfl rfl rfl (by decide) ?_
              refine GL.skipG (tj := 70) rfl rfl rfl (by decide) ?_
              refine GL.stepG (tj := 62) rfl rfl (Ex.wp (v := (.bool false)) (Ex.pickF rfl rfl) (by decide)) (fun _ _ => ?_)
              refine GL.val (v := (.bool false)) (Ex.pickF rfl rfl) (by decide) ?_
              refine GL.nil ?_
              refine GE.thenN ?_
              refine GC.cond rfl (fun hq119 => by cases hq119) (fun _ => ?_)
              refine GC.skip ?_
              refine GE.blockN ?_
              refine GE.thenN ?_
              refine GC.region ?_
              refine GL.val (v := (.int .i64 2)) (Ex.move rfl) (by decide) ?_
              refine GL.val (v := (.int .i64 3)) (Ex.add rfl rfl (Z := 3) (by decide)) (by decide) ?_
              refine GL.val (v := (.int .i64 3)) (Ex.assign rfl) (by decide) ?_
              refine GL.nil ?_
              refine GE.thenN ?_
              refine GE.round ?_
              refine GC.seq ?_
              refine GC.seq ?_
              refine GC.region ?_
              refine GL.val (v := (.int .i64 3)) (Ex.move rfl) (by decide) ?_
              refine GL.val (v := (.bool false)) (Ex.cast (Ex.lss rfl rfl) rfl) (by decide) ?_
              refine GL.nil ?_
              refine GE.thenN ?_
              refine GC.cond rfl (fun hq120 => by cases hq120) (fun _ => ?_)
              refine GC.exit ?_
              refine GE.thenE ?_
              refine GE.thenE ?_
              refine GE.blockE ?_
              refine GE.thenN ?_
              refine GC.seq ?_
              refine GC.region ?_
              refine GL.val (v := (.int .i64 n)) (Ex.move rfl) (by decide) ?_
              refine GL.val (v := (.int .i64 i)) (Ex.move rfl) (by decide) ?_
              refine GL.step (Stp.callR (σ := Unit) (p := fun rz => True) (v := fun rz => (.tuple #[(.int .i64 ((bord 3 n i).1)), (.int .i64 ((bord 3 n i).2))])) (N := fun rz => []) (vs := [(.int .i64 3), (.int .i64 n), (.int .i64 i)]) rfl rfl T.own14 (by decide) (fun wc hw => border 3 n i wc)) (fun xq121 hq122 => ?_)
              refine GL.val (v := (.tuple #[(.int .i64 ((bord 3 n i).1)), (.int .i64 ((bord 3 n i).2))])) (Ex.move rfl) (by decide) ?_
              refine GL.val (v := (.int .i64 ((bord 3 n i).1))) (Ex.extract rfl rfl) (by decide) ?_
              refine GL.val (v := (.int .i64 ((bord 3 n i).2))) (Ex.extract rfl rfl) (by decide) ?_
              refine GL.val (v := (.int .i64 ((bord 3 n i).1))) (Ex.assign rfl) (by decide) ?_
              refine GL.val (v := (.int .i64 ((bord 3 n i).2))) (Ex.assign rfl) (by decide) ?_
              refine GL.nil ?_
              refine GE.thenN ?_
              refine GC.seq ?_
              refine GC.region ?_
              refine GL.val (v := (.int .i64 n)) (Ex.move rfl) (by decide) ?_
              refine GL.val (v := (.int .i64 i)) (Ex.move rfl) (by decide) ?_
              refine GL.val (v := (.int .i64 n)) (Ex.move rfl) (by decide) ?_
              refine GL.val (v := (.int .i64 (i + n))) (Ex.add rfl rfl (Z := i + n) (w64 (by omega))) (by decide) ?_
              refine GL.step (Stp.callR (σ := Unit) (p := fun rz => True) (v := fun rz => (.tuple #[(.int .i64 ((bord 3 n (i + n)).1)), (.int .i64 ((bord 3 n (i + n)).2))])) (N := fun rz => []) (vs := [(.int .i64 3), (.int .i64 n), (.int .i64 (i + n))]) rfl rfl T.own14 (by decide) (fun wc hw => border 3 n (i + n) wc)) (fun xq123 hq124 => ?_)
              refine GL.val (v := (.tuple #[(.int .i64 ((bord 3 n (i + n)).1)), (.int .i64 ((bord 3 n (i + n)).2))])) (Ex.move rfl) (by decide) ?_
              refine GL.val (v := (.int .i64 ((bord 3 n (i + n)).1))) (Ex.extract rfl rfl) (by decide) ?_
              refine GL.val (v := (.int .i64 ((bord 3 n (i + n)).2))) (Ex.extract rfl rfl) (by decide) ?_
              refine GL.val (v := (.int .i64 ((bord 3 n (i + n)).1))) (Ex.assign rfl) (by decide) ?_
              refine GL.val (v := (.int .i64 ((bord 3 n (i + n)).2))) (Ex.assign rfl) (by decide) ?_
              refine GL.nil ?_
              refine GE.thenN ?_
              refine GC.seq ?_
              refine GC.region ?_
              refine GL.val (v := (.int .i64 n)) (Ex.move rfl) (by decide) ?_
              refine GL.val (v := (.int .i64 i)) (Ex.move rfl) (by decide) ?_
              refine GL.step (Stp.callR (σ := Unit) (p := fun rz => True) (v := fun rz => (.tuple #[(.int .i64 ((bord 2 n i).1)), (.int .i64 ((bord 2 n i).2))])) (N := fun rz => []) (vs := [(.int .i64 2), (.int .i64 n), (.int .i64 i)]) rfl rfl T.own14 (by decide) (fun wc hw => border 2 n i wc)) (fun xq125 hq126 => ?_)
              refine GL.val (v := (.tuple #[(.int .i64 ((bord 2 n i).1)), (.int .i64 ((bord 2 n i).2))])) (Ex.move rfl) (by decide) ?_
              refine GL.val (v := (.int .i64 ((bord 2 n i).1))) (Ex.extract rfl rfl) (by decide) ?_
              refine GL.val (v := (.int .i64 ((bord 2 n i).2))) (Ex.extract rfl rfl) (by decide) ?_
              refine GL.val (v := (.int .i64 ((bord 2 n i).1))) (Ex.assign rfl) (by decide) ?_
              refine GL.val (v := (.int .i64 ((bord 2 n i).2))) (Ex.assign rfl) (by decide) ?_
              refine GL.nil ?_
              refine GE.thenN ?_
              refine GC.seq ?_
              refine GC.region ?_
              refine GL.val (v := (.int .i64 n)) (Ex.move rfl) (by decide) ?_
              refine GL.val (v := (.int .i64 i)) (Ex.move rfl) (by decide) ?_
              refine GL.val (v := (.int .i64 n)) (Ex.move rfl) (by decide) ?_
              refine GL.val (v := (.int .i64 (n - 1))) (Ex.sub' rfl rfl (Z := n - 1) (w64 (by omega))) (by decide) ?_
              refine GL.val (v := (.int .i64 (2 * (n - 1)))) (Ex.mul rfl rfl (Z := 2 * (n - 1)) (w64 (by omega))) (by decide) ?_
              refine GL.val (v := (.int .i64 (i + (2 * (n - 1))))) (Ex.add rfl rfl (Z := i + (2 * (n - 1))) (w64 (by omega))) (by decide) ?_
              refine GL.step (Stp.callR (σ := Unit) (p := fun rz => True) (v := fun rz => (.tuple #[(.int .i64 ((bord 2 n (i + (2 * (n - 1)))).1)), (.int .i64 ((bord 2 n (i + (2 * (n - 1)))).2))])) (N := fun rz => []) (vs := [(.int .i64 2), (.int .i64 n), (.int .i64 (i + (2 * (n - 1))))]) rfl rfl T.own14 (by decide) (fun wc hw => border 2 n (i + (2 * (n - 1))) wc)) (fun xq127 hq128 => ?_)
              refine GL.val (v := (.tuple #[(.int .i64 ((bord 2 n (i + (2 * (n - 1)))).1)), (.int .i64 ((bord 2 n (i + (2 * (n - 1)))).2))])) (Ex.move rfl) (by decide) ?_
              refine GL.val (v := (.int .i64 ((bord 2 n (i + (2 * (n - 1)))).1))) (Ex.extract rfl rfl) (by decide) ?_
              refine GL.val (v := (.int .i64 ((bord 2 n (i + (2 * (n - 1)))).2))) (Ex.extract rfl rfl) (by decide) ?_
              refine GL.val (v := (.int .i64 ((bord 2 n (i + (2 * (n - 1)))).1))) (Ex.assign rfl) (by decide) ?_
              refine GL.val (v := (.int .i64 ((bord 2 n (i + (2 * (n - 1)))).2))) (Ex.assign rfl) (by decide) ?_
              refine GL.nil ?_
              refine GE.thenN ?_
              refine GC.seq ?_
              refine GC.region ?_
              refine GL.val (v := (.int .i64 n)) (Ex.move rfl) (by decide) ?_
              refine GL.val (v := (.int .i64 i)) (Ex.move rfl) (by decide) ?_
              refine GL.val (v := (.int .i64 (-i))) (Ex.neg rfl (Z := -i) (by rw [w64 (by omega)]; omega)) (by decide) ?_
              refine GL.step (Stp.callR (σ := Unit) (p := fun rz => True) (v := fun rz => (.tuple #[(.int .i64 ((bord 2 n (-i)).1)), (.int .i64 ((bord 2 n (-i)).2))])) (N := fun rz => []) (vs := [(.int .i64 2), (.int .i64 n), (.int .i64 (-i))]) rfl rfl T.own14 (by decide) (fun wc hw => border 2 n (-i) wc)) (fun xq129 hq130 => ?_)
              refine GL.val (v := (.tuple #[(.int .i64 ((bord 2 n (-i)).1)), (.int .i64 ((bord 2 n (-i)).2))])) (Ex.move rfl) (by decide) ?_
              refine GL.val (v := (.int .i64 ((bord 2 n (-i)).1))) (Ex.extract rfl rfl) (by decide) ?_
              refine GL.val (v := (.int .i64 ((bord 2 n (-i)).2))) (Ex.extract rfl rfl) (by decide) ?_
              refine GL.val (v := (.int .i64 ((bord 2 n (-i)).1))) (Ex.assign rfl) (by decide) ?_
              refine GL.val (v := (.int .i64 ((bord 2 n (-i)).2))) (Ex.assign rfl) (by decide) ?_
              refine GL.nil ?_
              refine GE.thenN ?_
              refine GC.seq ?_
              refine GC.region ?_
              refine GL.val (v := (.int .i64 ((bord 3 n i).1))) (Ex.move rfl) (by decide) ?_
              refine GL.val (v := (.int .i64 ((bord 3 n (i + n)).1))) (Ex.move rfl) (by decide) ?_
              refine GL.val (v := (.bool true)) (Ex.cast (Ex.eql rfl rfl) (congrArg Value.bool (decide_eq_true (by rw [bord_wrap (by omega)])))) (by decide) ?_
              refine GL.val (v := (.bool true)) (Ex.move rfl) (by decide) ?_
              refine GL.stepG (tj := 116) rfl rfl (Ex.wp (v := (.int .i64 ((bord 2 n i).1))) (Ex.move rfl) (by decide)) (fun _ _ => ?_)
              refine GL.stepG (tj := 116) rfl rfl (Ex.wp (v := (.int .i64 ((bord 2 n (i + (2 * (n - 1)))).1))) (Ex.move rfl) (by decide)) (fun _ _ => ?_)
              refine GL.stepG (tj := 116) rfl rfl (Ex.wp (v := (.bool true)) (Ex.cast (Ex.eql rfl rfl) (congrArg Value.bool (decide_eq_true (by rw [bord_two (by omega)])))) (by decide)) (fun _ _ => ?_)
              refine GL.val (v := (.bool true)) (Ex.pickT rfl rfl) (by decide) ?_
              refine GL.val (v := (.bool true)) (Ex.move rfl) (by decide) ?_
              refine GL.stepG (tj := 121) rfl rfl (Ex.wp (v := (.int .i64 ((bord 2 n i).1))) (Ex.move rfl) (by decide)) (fun _ _ => ?_)
              refine GL.stepG (tj := 121) rfl rfl (Ex.wp (v := (.int .i64 ((bord 2 n (-i)).1))) (Ex.move rfl) (by decide)) (fun _ _ => ?_)
              refine GL.stepG (tj := 121) rfl rfl (Ex.wp (v := (.bool true)) (Ex.cast (Ex.eql rfl rfl) (congrArg Value.bool (decide_eq_true (by rw [bord_neg (by omega)])))) (by decide)) (fun _ _ => ?_)
              refine GL.val (v := (.bool true)) (Ex.pickT rfl rfl) (by decide) ?_
              refine GL.val (v := (.bool true)) (Ex.assign rfl) (by decide) ?_
              refine GL.nil ?_
              refine GE.thenN ?_
              refine GC.ret ?_
              refine GC.ret1 rfl (Rv.tmp rfl) (fun wN HN => ?_)
              exact HN.ret () trivial (by first | rfl | (exfalso; omega)) (List.nil_sublist _) rfl

end Go.Proofs.Ytileciohbhoehaa.C
