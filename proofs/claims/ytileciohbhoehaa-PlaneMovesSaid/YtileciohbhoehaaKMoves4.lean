/- PlaneMoves: what its code does, walked. -/
import Derived.Test.YtileciohbhoehaaKMoves3
namespace Go.Proofs.Ytileciohbhoehaa.C
open Go Go.RowKit Sx
set_option linter.unusedVariables false
set_option maxRecDepth 100000 in
set_option maxHeartbeats 1000000 in
theorem ref_flipF (W H n cap b o : Nat) (xs : List Int) (w : World) (hok : okP W H) (hn : n = W * H) (hx : xs.length = n) (hr : Rd w b o (xs.map u32)) :
    Calls Try.prog 30 #[(.agg #[(.int .i64 (((W : Nat) : Int))), (.int .i64 (((H : Nat) : Int))), (.slice (some ⟨b, o, none⟩) n cap)]), (.bool false)] w (Ret w (fun _ : Nat => True) (fun rz0 => .tuple #[(.agg #[(.int .i64 (((W : Nat) : Int))), (.int .i64 (((H : Nat) : Int))), (.slice (some ⟨rz0, 0, none⟩) (W * H) (W * H))]), .int .i64 0]) (fun rz0 => [⟨rz0, (flF xs W H).map u32, 72, true⟩])) := by
  have hW := hok.1
  have hH := hok.2.1
  have hW2 := hok.2.2.1
  have hH2 := hok.2.2.2.1
  have hA := hok.2.2.2.2
  refine enter (M := None) (L := []) (n := 63) (l := [(0, (.agg #[(.int .i64 (((W : Nat) : Int))), (.int .i64 (((H : Nat) : Int))), (.slice (some ⟨b, o, none⟩) n cap)])), (1, (.bool false))]) Try.func30 rfl rfl (Args.cons rfl (Args.cons rfl (Args.nil _))) (Hp.start _ _) ?_
  refine GC.seq ?_
  refine GC.region ?_
  refine GL.step (Stp.box (cs := [(.int .i64 (((W : Nat) : Int))), (.int .i64 (((H : Nat) : Int))), (.slice (some ⟨b, o, none⟩) n cap)]) rfl rfl (by decide)) (fun bq1 _ => ?_)
  refine GL.step (Stp.alloc T.zr32 (by decide)) (fun bq2 _ => ?_)
  refine GL.val (Ex.assign rfl) (by decide) ?_
  refine GL.nil ?_
  refine GE.thenN ?_
  refine GC.seq ?_
  refine GC.region ?_
  refine GL.val (v := (.agg #[(.int .i64 (((W : Nat) : Int))), (.int .i64 (((H : Nat) : Int))), (.slice (some ⟨b, o, none⟩) n cap)])) (Ex.loadA rfl T.ag32 T.sz32 (i := 1) rfl (vs := [(.int .i64 (((W : Nat) : Int))), (.int .i64 (((H : Nat) : Int))), (.slice (some ⟨b, o, none⟩) n cap)]) rfl rfl) (by decide) ?_
  refine GL.step (Stp.callR (σ := Unit) (p := fun rz => True) (v := fun rz => (.int .i64 0)) (N := fun rz => []) (vs := [(.agg #[(.int .i64 (((W : Nat) : Int))), (.int .i64 (((H : Nat) : Int))), (.slice (some ⟨b, o, none⟩) n cap)])]) rfl rfl T.own35 (by decide) (fun wc hw => (by have h := ref_check (((W : Nat) : Int)) (((H : Nat) : Int)) (some ⟨b, o, none⟩) n cap wc; rw [show chk (((W : Nat) : Int)) (((H : Nat) : Int)) n = 0 from by rw [hn]; exact chk_ok hok] at h; exact h))) (fun xq3 hq4 => ?_)
  refine GL.val (Ex.assign rfl) (by decide) ?_
  refine GL.nil ?_
  refine GE.thenN ?_
  refine GC.seq ?_
  refine GC.seq ?_
  refine GC.region ?_
  refine GL.val (Ex.move rfl) (by decide) ?_
  refine GL.val (v := (.bool false)) (Ex.cast (Ex.neq rfl rfl) rfl) (by decide) ?_
  refine GL.nil ?_
  refine GE.thenN ?_
  refine GC.cond rfl (fun hq5 => by cases hq5) (fun _ => ?_)
  refine GC.skip ?_
  refine GE.thenN ?_
  refine GC.seq ?_
  refine GC.region ?_
  refine GL.val (v := (.pointer (some ⟨bq1, 0, none⟩))) (Ex.cast (Ex.fieldAddr rfl Try.underlying32 rfl T.sz3 (by decide)) rfl) (by decide) ?_
  refine GL.val (Ex.load rfl T.ag3 (i := 1) rfl rfl) (by decide) ?_
  refine GL.val (v := (.pointer (some ⟨bq1, 1, none⟩))) (Ex.cast (Ex.fieldAddr rfl Try.underlying32 rfl T.sz3 (by decide)) rfl) (by decide) ?_
  refine GL.val (Ex.load rfl T.ag3 (i := 1) rfl rfl) (by decide) ?_
  refine GL.step (Stp.callR (vs := [(.int .i64 (((W : Nat) : Int))), (.int .i64 (((H : Nat) : Int)))]) rfl rfl T.own48 (by decide) (fun wc hw => ref_blank W H wc (by first | omega | (rw [Nat.mul_comm]; omega)))) (fun xq6 hq7 => ?_)
  refine GL.step (Stp.alloc T.zr32 (by decide)) (fun bq8 _ => ?_)
  refine GL.step (Stp.st0 (cs' := [(.int .i64 (((W : Nat) : Int))), (.int .i64 (((H : Nat) : Int))), (.slice (some ⟨xq6, 0, none⟩) (W * H) (W * H))]) rfl rfl rfl T.sz32 rfl rfl rfl) (fun _ _ => ?_)
  refine GL.nil ?_
  refine GE.thenN ?_
  refine GC.seq ?_
  refine GC.seq ?_
  rw [show List.replicate (W * H) (Value.int .u32 0) = cur W ((fun x y => smp xs W x (H - 1 - y))) (W * H) 0 from (cur_zero _ _ _).symm]
  refine GC.region ?_
  refine GL.val (Ex.assign rfl) (by decide) ?_
  refine GL.nil ?_
  refine GE.thenN ?_
  refine GC.block ?_
  refine GC.loop (σ := Nat) (fun k => k ≤ W * H) (fun k => [(0, (.agg #[(.int .i64 (((W : Nat) : Int))), (.int .i64 (((H : Nat) : Int))), (.slice (some ⟨b, o, none⟩) n cap)])), (1, (.bool false)), (2, (.pointer (some ⟨bq1, 0, none⟩))), (4, (.pointer (some ⟨bq2, 0, none⟩))), (5, (.int .i64 0)), (6, (.int .i64 0)), (7, (.pointer (some ⟨bq8, 0, none⟩))), (8, (.int .i64 (((k : Nat) : Int))))]) (fun k => [⟨bq8, [(.int .i64 (((W : Nat) : Int))), (.int .i64 (((H : Nat) : Int))), (.slice (some ⟨xq6, 0, none⟩) (W * H) (W * H))], 32, true⟩, ⟨xq6, cur W ((fun x y => smp xs W x (H - 1 - y))) (W * H) k, 72, true⟩, ⟨bq2, [(.int .i64 0), (.int .i64 0), (.slice none 0 0)], 32, true⟩, ⟨bq1, [(.int .i64 (((W : Nat) : Int))), (.int .i64 (((H : Nat) : Int))), (.slice (some ⟨b, o, none⟩) n cap)], 32, true⟩]) (fun k => W * H - k) (0) (Nat.zero_le _) ((sub_cons rfl ((sub_cons rfl ((sub_cons rfl ((sub_cons rfl ((sub_cons rfl ((sub_cons rfl ((sub_cons rfl ((sub_cons rfl ((sub_nil _)))))))))))))))))) (ulC (ulC (ulC (ulC ulN)))) (fun k hp => ?_)
  refine GC.seq ?_
  refine GC.seq ?_
  refine GC.region ?_
  refine GL.val (Ex.move rfl) (by decide) ?_
  refine GL.val (v := (.pointer (some ⟨bq8, 2, none⟩))) (Ex.cast (Ex.fieldAddr rfl Try.underlying32 rfl T.sz30 (by decide)) rfl) (by decide) ?_
  refine GL.val (Ex.load rfl T.ag30 (i := 0) rfl rfl) (by decide) ?_
  refine GL.val (v := (.int .i64 (((W * H) : Int)))) (Ex.len rfl Try.underlying30) (by decide) ?_
  refine GL.val (v := (.bool (decide ((((k : Nat) : Int)) < (((W * H) : Int)))))) (Ex.lss rfl rfl) (by decide) ?_
  refine GL.nil ?_
  refine GE.thenN ?_
  refine GC.cond rfl (fun hq9 => ?_) (fun hq9 => ?_)
  · replace hq9 := of_decide_eq_true hq9
    refine GC.skip ?_
    refine GE.thenN ?_
    refine GC.seq ?_
    refine GC.block ?_
    refine GC.seq ?_
    have hkx : k % W < W := Nat.mod_lt _ (by omega)
    have hky : k / W < H := Nat.div_lt_of_lt_mul (by omega)
    have hkx0 : (0 : Int) ≤ ((k % W : Nat) : Int) := Int.natCast_nonneg _
    have hky0 : (0 : Int) ≤ ((k / W : Nat) : Int) := Int.natCast_nonneg _
    refine GC.drawP [⟨bq8, [(.int .i64 (((W : Nat) : Int))), (.int .i64 (((H : Nat) : Int))), (.slice (some ⟨xq6, 0, none⟩) (W * H) (W * H))], 32, true⟩, ⟨bq2, [(.int .i64 0), (.int .i64 0), (.slice none 0 0)], 32, true⟩, ⟨bq1, [(.int .i64 (((W : Nat) : Int))), (.int .i64 (((H : Nat) : Int))), (.slice (some ⟨b, o, none⟩) n cap)], 32, true⟩] T.mixed (by kernel_rfl) (by kernel_rfl) (fuel := 9) rfl rfl ?_
    refine GH.take 0 (v := (.int .i64 (((k : Nat) : Int)))) rfl (by kernel_rfl) (by kernel_rfl) (by kernel_rfl) (fun _ _ _ h => h) (Ex.move rfl) (ulC (ulS (ulC (ulC ulN)))) (by decide) ?_
    refine GH.take 1 (v := (.pointer (some ⟨bq1, 0, none⟩))) rfl (by kernel_rfl) (by kernel_rfl) (by kernel_rfl) (fun _ _ _ h => h) (Ex.cast (Ex.fieldAddr rfl Try.underlying32 rfl T.sz3 (by decide)) rfl) (ulC (ulS (ulC (ulC ulN)))) (by decide) ?_
    refine GH.take 2 (v := (.int .i64 (((W : Nat) : Int)))) rfl (by kernel_rfl) (by kernel_rfl) (by kernel_rfl) (fun _ _ _ h => h) (Ex.load rfl T.ag3 (i := 2) rfl rfl) (ulC (ulS (ulC (ulC ulN)))) (by decide) ?_
    refine GH.take 3 (v := (.int .i64 (((k % W : Nat) : Int)))) rfl (by kernel_rfl) (by kernel_rfl) (by kernel_rfl) (fun _ _ _ h => h) (Ex.rem rfl rfl (Z := ((k % W : Nat) : Int)) (by omega) rfl) (ulC (ulS (ulC (ulC ulN)))) (by decide) ?_
    refine GH.take 4 (v := (.int .i64 (((k : Nat) : Int)))) rfl (by kernel_rfl) (by kernel_rfl) (by kernel_rfl) (fun _ _ _ h => h) (Ex.move rfl) (ulC (ulS (ulC (ulC ulN)))) (by decide) ?_
    refine GH.take 5 (v := (.pointer (some ⟨bq1, 0, none⟩))) rfl (by kernel_rfl) (by kernel_rfl) (by kernel_rfl) (fun _ _ _ h => h) (Ex.cast (Ex.fieldAddr rfl Try.underlying32 rfl T.sz3 (by decide)) rfl) (ulC (ulS (ulC (ulC ulN)))) (by decide) ?_
    refine GH.take 6 (v := (.int .i64 (((W : Nat) : Int)))) rfl (by kernel_rfl) (by kernel_rfl) (by kernel_rfl) (fun _ _ _ h => h) (Ex.load rfl T.ag3 (i := 2) rfl rfl) (ulC (ulS (ulC (ulC ulN)))) (by decide) ?_
    refine GH.take 7 (v := (.int .i64 (((k / W : Nat) : Int)))) rfl (by kernel_rfl) (by kernel_rfl) (by kernel_rfl) (fun _ _ _ h => h) (Ex.quo rfl rfl (Z := ((k / W : Nat) : Int)) (by omega) (quoN (by omega))) (ulC (ulS (ulC (ulC ulN)))) (by decide) ?_
    refine GH.take 8 (v := (.int .i64 (((k % W : Nat) : Int)))) rfl (by kernel_rfl) (by kernel_rfl) (by kernel_rfl) (fun _ _ _ h => h) (Ex.assign rfl) (ulC (ulS (ulC (ulC ulN)))) (by decide) ?_
    refine GH.done (by kernel_rfl) ?_
    refine GE.thenN ?_
    refine GE.tail rfl (Ex.wp (v := (.int .i64 (((k / W : Nat) : Int)))) (Ex.assign rfl) (by decide)) (fun _ _ => ?_)
    refine GE.thenN ?_
    refine GC.seq ?_
    refine GC.region ?_
    refine GL.val (Ex.move rfl) (by decide) ?_
    refine GL.nil ?_
    refine GE.thenN ?_
    refine GC.cond rfl (fun hq10 => by cases hq10) (fun _ => ?_)
    refine GC.drawP [⟨bq8, [(.int .i64 (((W : Nat) : Int))), (.int .i64 (((H : Nat) : Int))), (.slice (some ⟨xq6, 0, none⟩) (W * H) (W * H))], 32, true⟩, ⟨bq2, [(.int .i64 0), (.int .i64 0), (.slice none 0 0)], 32, true⟩, ⟨bq1, [(.int .i64 (((W : Nat) : Int))), (.int .i64 (((H : Nat) : Int))), (.slice (some ⟨b, o, none⟩) n cap)], 32, true⟩] T.mixed (by kernel_rfl) (by kernel_rfl) (fuel := 12) rfl rfl ?_
    refine GH.take 0 (v := (.pointer (some ⟨bq8, 2, none⟩))) rfl (by kernel_rfl) (by kernel_rfl) (by kernel_rfl) (fun _ _ _ h => h) (Ex.cast (Ex.fieldAddr rfl Try.underlying32 rfl T.sz30 (by decide)) rfl) (ulC (ulS (ulC (ulC ulN)))) (by decide) ?_
    refine GH.take 1 (v := (.slice (some ⟨xq6, 0, none⟩) (W * H) (W * H))) rfl (by kernel_rfl) (by kernel_rfl) (by kernel_rfl) (fun _ _ _ h => h) (Ex.load rfl T.ag30 (i := 0) rfl rfl) (ulC (ulS (ulC (ulC ulN)))) (by decide) ?_
    refine GH.take 2 (v := (.int .i64 (((k : Nat) : Int)))) rfl (by kernel_rfl) (by kernel_rfl) (by kernel_rfl) (fun _ _ _ h => h) (Ex.move rfl) (ulC (ulS (ulC (ulC ulN)))) (by decide) ?_
    refine GH.take 3 (v := (.agg #[(.int .i64 (((W : Nat) : Int))), (.int .i64 (((H : Nat) : Int))), (.slice (some ⟨b, o, none⟩) n cap)])) rfl (by kernel_rfl) (by kernel_rfl) (by kernel_rfl) (fun _ _ _ h => h) (Ex.loadA rfl T.ag32 T.sz32 (i := 2) rfl (vs := [(.int .i64 (((W : Nat) : Int))), (.int .i64 (((H : Nat) : Int))), (.slice (some ⟨b, o, none⟩) n cap)]) rfl rfl) (ulC (ulS (ulC (ulC ulN)))) (by decide) ?_
    refine GH.take 4 (v := (.int .i64 (((k % W : Nat) : Int)))) rfl (by kernel_rfl) (by kernel_rfl) (by kernel_rfl) (fun _ _ _ h => h) (Ex.move rfl) (ulC (ulS (ulC (ulC ulN)))) (by decide) ?_
    refine GH.take 5 (v := (.pointer (some ⟨bq1, 1, none⟩))) rfl (by kernel_rfl) (by kernel_rfl) (by kernel_rfl) (fun _ _ _ h => h) (Ex.cast (Ex.fieldAddr rfl Try.underlying32 rfl T.sz3 (by decide)) rfl) (ulC (ulS (ulC (ulC ulN)))) (by decide) ?_
    refine GH.take 6 (v := (.int .i64 (((H : Nat) : Int)))) rfl (by kernel_rfl) (by kernel_rfl) (by kernel_rfl) (fun _ _ _ h => h) (Ex.load rfl T.ag3 (i := 2) rfl rfl) (ulC (ulS (ulC (ulC ulN)))) (by decide) ?_
    refine GH.take 7 (v := (.int .i64 (((H - 1 : Nat) : Int)))) rfl (by kernel_rfl) (by kernel_rfl) (by kernel_rfl) (fun _ _ _ h => h) (Ex.sub' rfl rfl (Z := ((H - 1 : Nat) : Int)) (subN (b := 1) (by omega) (by omega))) (ulC (ulS (ulC (ulC ulN)))) (by decide) ?_
    refine GH.take 8 (v := (.int .i64 (((k / W : Nat) : Int)))) rfl (by kernel_rfl) (by kernel_rfl) (by kernel_rfl) (fun _ _ _ h => h) (Ex.move rfl) (ulC (ulS (ulC (ulC ulN)))) (by decide) ?_
    refine GH.take 9 (v := (.int .i64 (((H - 1 - k / W : Nat) : Int)))) rfl (by kernel_rfl) (by kernel_rfl) (by kernel_rfl) (fun _ _ _ h => h) (Ex.sub' rfl rfl (Z := ((H - 1 - k / W : Nat) : Int)) (subN (by omega) (by omega))) (ulC (ulS (ulC (ulC ulN)))) (by decide) ?_
    refine GH.one 10 rfl (by kernel_rfl) (Stp.callR (vs := [(.agg #[(.int .i64 (((W : Nat) : Int))), (.int .i64 (((H : Nat) : Int))), (.slice (some ⟨b, o, none⟩) n cap)]), (.int .i64 (((k % W : Nat) : Int))), (.int .i64 (((H - 1 - k / W : Nat) : Int)))]) rfl rfl T.own49 (by decide) (fun wc hw => ref_at W n cap b o (k % W) (H - 1 - k / W) (((H : Nat) : Int)) xs wc (by have h := place_lt (W := W) (H := H) (x := (k % W)) (y := (H - 1 - k / W)) (by omega) (by omega); omega) (by have h := hok.2.2.2.2; omega) hx (hw.rd hr (fun x => x)))) (fun _ => (ulC (ulS (ulC (ulC ulN))))) (fun xq11 hq12 => ?_)
    refine GH.take 11 (v := (.pointer (some ⟨xq6, k, none⟩))) rfl (by kernel_rfl) (by kernel_rfl) (by kernel_rfl) (fun _ _ _ h => h) (Ex.cast (Ex.indexAddr rfl rfl Try.underlying30 T.sz72 (by omega) (by omega)) (by simp)) (ulC (ulS (ulC (ulC ulN)))) (by decide) ?_
    refine GH.done (by kernel_rfl) ?_
    refine GE.thenN ?_
    refine GE.tail rfl (Stp.storeL (i := 1) (cs := cur W ((fun x y => smp xs W x (H - 1 - y))) (W * H) k) (vs := [(.int .u32 (smp xs W (k % W) (H - 1 - k / W)))]) (o := k) (L1 := [⟨bq8, [(.int .i64 (((W : Nat) : Int))), (.int .i64 (((H : Nat) : Int))), (.slice (some ⟨xq6, 0, none⟩) (W * H) (W * H))], 32, true⟩, ⟨xq6, cur W ((fun x y => smp xs W x (H - 1 - y))) (W * H) (k + 1), 72, true⟩, ⟨bq2, [(.int .i64 0), (.int .i64 0), (.slice none 0 0)], 32, true⟩, ⟨bq1, [(.int .i64 (((W : Nat) : Int))), (.int .i64 (((H : Nat) : Int))), (.slice (some ⟨b, o, none⟩) n cap)], 32, true⟩]) rfl rfl rfl T.sz72 rfl (Nat.ble_eq_true_of_le (by rw [cur_len _ _ _ _ (by omega)]; simp; omega)) rfl (by rw [cur_app' W ((fun x y => smp xs W x (H - 1 - y))) (W * H) k _ (by omega) (by rfl)]; rfl)) (fun _ _ => ?_)
    refine GE.blockN ?_
    refine GE.thenN ?_
    refine GC.region ?_
    refine GL.val (Ex.move rfl) (by decide) ?_
    refine GL.val (v := (.int .i64 (((k + 1 : Nat) : Int)))) (Ex.add rfl rfl (Z := ((k + 1 : Nat) : Int)) (addN (b := 1) (by omega))) (by decide) ?_
    refine GL.val (Ex.assign rfl) (by decide) ?_
    refine GL.nil ?_
    refine GE.thenN ?_
    exact Head.mk (k + 1) (by omega) (by omega) ((sub_cons rfl ((sub_cons rfl ((sub_cons rfl ((sub_cons rfl ((sub_cons rfl ((sub_cons rfl ((sub_cons rfl ((sub_cons rfl ((sub_nil _)))))))))))))))))) (ulC (ulC (ulC (ulC ulN))))
  · replace hq9 := of_decide_eq_false hq9
    refine GC.exit ?_
    refine GE.thenE ?_
    refine GE.thenE ?_
    refine GE.blockE ?_
    refine GE.thenN ?_
    refine GC.seq ?_
    refine GC.region ?_
    refine GL.val (v := (.agg #[(.int .i64 (((W : Nat) : Int))), (.int .i64 (((H : Nat) : Int))), (.slice (some ⟨xq6, 0, none⟩) (W * H) (W * H))])) (Ex.loadA rfl T.ag32 T.sz32 (i := 0) rfl (vs := [(.int .i64 (((W : Nat) : Int))), (.int .i64 (((H : Nat) : Int))), (.slice (some ⟨xq6, 0, none⟩) (W * H) (W * H))]) rfl rfl) (by decide) ?_
    refine GL.step (Stp.st2 (cs' := [(.int .i64 (((W : Nat) : Int))), (.int .i64 (((H : Nat) : Int))), (.slice (some ⟨xq6, 0, none⟩) (W * H) (W * H))]) rfl rfl rfl T.sz32 rfl rfl rfl) (fun _ _ => ?_)
    refine GL.val (Ex.assign rfl) (by decide) ?_
    refine GL.nil ?_
    refine GE.thenN ?_
    refine GC.ret ?_
    refine GC.ret2 rfl (Rv.cellA rfl T.ag32 T.sz32 (L := _) (i := 2) rfl (vs := [(.int .i64 (((W : Nat) : Int))), (.int .i64 (((H : Nat) : Int))), (.slice (some ⟨xq6, 0, none⟩) (W * H) (W * H))]) rfl rfl) (Rv.tmp rfl) (fun wN HN => ?_)
    have ek : k = W * H := by omega
    rw [ek, cur_full] at HN
    exact HN.ret xq6 trivial rfl (ulS (ulC (ulS (ulS ulN)))) rfl

set_option maxRecDepth 100000 in
set_option maxHeartbeats 1000000 in
theorem ref_flip_inv (W H : Int) (ad : Option Addr) (n cap : Nat) (ac : Bool) (w : World) (hc : chk W H n ≠ 0) :
    Calls Try.prog 30 #[(.agg #[(.int .i64 W), (.int .i64 H), (.slice ad n cap)]), (.bool ac)] w (Ret w (fun _ : Unit => True) (fun _ => .tuple #[(.agg #[(.int .i64 0), (.int .i64 0), (.slice none 0 0)]), .int .i64 ((chk W H n))]) (fun _ => [])) := by
  refine enter (M := None) (L := []) (n := 63) (l := [(0, (.agg #[(.int .i64 W), (.int .i64 H), (.slice ad n cap)])), (1, (.bool ac))]) Try.func30 rfl rfl (Args.cons rfl (Args.cons rfl (Args.nil _))) (Hp.start _ _) ?_
  refine GC.seq ?_
  refine GC.region ?_
  refine GL.step (Stp.box (cs := [(.int .i64 W), (.int .i64 H), (.slice ad n cap)]) rfl rfl (by decide)) (fun bq1 _ => ?_)
  refine GL.step (Stp.alloc T.zr32 (by decide)) (fun bq2 _ => ?_)
  refine GL.val (Ex.assign rfl) (by decide) ?_
  refine GL.nil ?_
  refine GE.thenN ?_
  refine GC.seq ?_
  refine GC.region ?_
  refine GL.val (v := (.agg #[(.int .i64 W), (.int .i64 H), (.slice ad n cap)])) (Ex.loadA rfl T.ag32 T.sz32 (i := 1) rfl (vs := [(.int .i64 W), (.int .i64 H), (.slice ad n cap)]) rfl rfl) (by decide) ?_
  refine GL.step (Stp.callR (vs := [(.agg #[(.int .i64 W), (.int .i64 H), (.slice ad n cap)])]) rfl rfl T.own35 (by decide) (fun wc hw => ref_check W H ad n cap wc)) (fun xq3 hq4 => ?_)
  refine GL.val (Ex.assign rfl) (by decide) ?_
  refine GL.nil ?_
  refine GE.thenN ?_
  refine GC.seq ?_
  refine GC.seq ?_
  refine GC.region ?_
  refine GL.val (Ex.move rfl) (by decide) ?_
  refine GL.val (v := (.bool (decide ((chk W H n) ≠ 0)))) (Ex.neq rfl rfl) (by decide) ?_
  refine GL.nil ?_
  refine GE.thenN ?_
  refine GC.cond rfl (fun _ => ?_) (fun hq5 => by exfalso; have hq5 := of_decide_eq_false hq5; omega)
  refine GC.seq ?_
  refine GC.region ?_
  refine GL.val (v := (.agg #[(.int .i64 0), (.int .i64 0), (.slice none 0 0)])) (Ex.build (vs := []) rfl (by first | rfl | kernel_rfl)) (by decide) ?_
  refine GL.val (Ex.move rfl) (by decide) ?_
  refine GL.step (Stp.st0 (cs' := [(.int .i64 0), (.int .i64 0), (.slice none 0 0)]) rfl rfl rfl T.sz32 rfl rfl rfl) (fun _ _ => ?_)
  refine GL.val (Ex.assign rfl) (by decide) ?_
  refine GL.nil ?_
  refine GE.thenN ?_
  refine GC.ret ?_
  refine GE.thenR ?_
  refine GC.ret2 rfl (Rv.cellA rfl T.ag32 T.sz32 (L := _) (i := 0) rfl (vs := [(.int .i64 0), (.int .i64 0), (.slice none 0 0)]) rfl rfl) (Rv.tmp rfl) (fun wN HN => ?_)
  exact HN.ret () trivial rfl (List.nil_sublist _) rfl

set_option maxRecDepth 100000 in
set_option maxHeartbeats 1000000 in
theorem ref_transp (W H n cap b o : Nat) (xs : List Int) (w : World) (hok : okP W H) (hn : n = W * H) (hx : xs.length = n) (hr : Rd w b o (xs.map u32)) :
    Calls Try.prog 32 #[(.agg #[(.int .i64 (((W : Nat) : Int))), (.int .i64 (((H : Nat) : Int))), (.slice (some ⟨b, o, none⟩) n cap)])] w (Ret w (fun _ : Nat => True) (fun rz0 => .tuple #[(.agg #[(.int .i64 (((H : Nat) : Int))), (.int .i64 (((W : Nat) : Int))), (.slice (some ⟨rz0, 0, none⟩) (H * W) (H * W))]), .int .i64 0]) (fun rz0 => [⟨rz0, (trp xs W H).map u32, 72, true⟩])) := by
  have hW := hok.1
  have hH := hok.2.1
  have hW2 := hok.2.2.1
  have hH2 := hok.2.2.2.1
  have hA := hok.2.2.2.2
  have hA' : H * W ≤ 65536 := by rw [Nat.mul_comm]; exact hA
  refine enter (M := None) (L := []) (n := 40) (l := [(0, (.agg #[(.int .i64 (((W : Nat) : Int))), (.int .i64 (((H : Nat) : Int))), (.slice (some ⟨b, o, none⟩) n cap)]))]) Try.func32 rfl rfl (Args.cons rfl (Args.nil _)) (Hp.start _ _) ?_
  refine GC.seq ?_
  refine GC.region ?_
  refine GL.step (Stp.box (cs := [(.int .i64 (((W : Nat) : Int))), (.int .i64 (((H : Nat) : Int))), (.slice (some ⟨b, o, none⟩) n cap)]) rfl rfl (by decide)) (fun bq1 _ => ?_)
  refine GL.step (Stp.alloc T.zr32 (by decide)) (fun bq2 _ => ?_)
  refine GL.val (Ex.assign rfl) (by decide) ?_
  refine GL.nil ?_
  refine GE.thenN ?_
  refine GC.seq ?_
  refine GC.region ?_
  refine GL.val (v := (.agg #[(.int .i64 (((W : Nat) : Int))), (.int .i64 (((H : Nat) : Int))), (.slice (some ⟨b, o, none⟩) n cap)])) (Ex.loadA rfl T.ag32 T.sz32 (i := 1) rfl (vs := [(.int .i64 (((W : Nat) : Int))), (.int .i64 (((H : Nat) : Int))), (.slice (some ⟨b, o, none⟩) n cap)]) rfl rfl) (by decide) ?_
  refine GL.step (Stp.callR (σ := Unit) (p := fun rz => True) (v := fun rz => (.int .i64 0)) (N := fun rz => []) (vs := [(.agg #[(.int .i64 (((W : Nat) : Int))), (.int .i64 (((H : Nat) : Int))), (.slice (some ⟨b, o, none⟩) n cap)])]) rfl rfl T.own35 (by decide) (fun wc hw => (by have h := ref_check (((W : Nat) : Int)) (((H : Nat) : Int)) (some ⟨b, o, none⟩) n cap wc; rw [show chk (((W : Nat) : Int)) (((H : Nat) : Int)) n = 0 from by rw [hn]; exact chk_ok hok] at h; exact h))) (fun xq3 hq4 => ?_)
  refine GL.val (Ex.assign rfl) (by decide) ?_
  refine GL.nil ?_
  refine GE.thenN ?_
  refine GC.seq ?_
  refine GC.seq ?_
  refine GC.region ?_
  refine GL.val (Ex.move rfl) (by decide) ?_
  refine GL.val (v := (.bool false)) (Ex.cast (Ex.neq rfl rfl) rfl) (by decide) ?_
  refine GL.nil ?_
  refine GE.thenN ?_
  refine GC.cond rfl (fun hq5 => by cases hq5) (fun _ => ?_)
  refine GC.skip ?_
  refine GE.thenN ?_
  refine GC.seq ?_
  refine GC.region ?_
  refine GL.val (v := (.pointer (some ⟨bq1, 1, none⟩))) (Ex.cast (Ex.fieldAddr rfl Try.underlying32 rfl T.sz3 (by decide)) rfl) (by decide) ?_
  refine GL.val (Ex.load rfl T.ag3 (i := 1) rfl rfl) (by decide) ?_
  refine GL.val (v := (.pointer (some ⟨bq1, 0, none⟩))) (Ex.cast (Ex.fieldAddr rfl Try.underlying32 rfl T.sz3 (by decide)) rfl) (by decide) ?_
  refine GL.val (Ex.load rfl T.ag3 (i := 1) rfl rfl) (by decide) ?_
  refine GL.step (Stp.callR (vs := [(.int .i64 (((H : Nat) : Int))), (.int .i64 (((W : Nat) : Int)))]) rfl rfl T.own48 (by decide) (fun wc hw => ref_blank H W wc (by first | omega | (rw [Nat.mul_comm]; omega)))) (fun xq6 hq7 => ?_)
  refine GL.step (Stp.alloc T.zr32 (by decide)) (fun bq8 _ => ?_)
  refine GL.step (Stp.st0 (cs' := [(.int .i64 (((H : Nat) : Int))), (.int .i64 (((W : Nat) : Int))), (.slice (some ⟨xq6, 0, none⟩) (H * W) (H * W))]) rfl rfl rfl T.sz32 rfl rfl rfl) (fun _ _ => ?_)
  refine GL.nil ?_
  refine GE.thenN ?_
  refine GC.seq ?_
  refine GC.seq ?_
  rw [show List.replicate (H * W) (Value.int .u32 0) = cur H ((fun x y => smp xs W y x)) (H * W) 0 from (cur_zero _ _ _).symm]
  refine GC.region ?_
  refine GL.val (Ex.assign rfl) (by decide) ?_
  refine GL.nil ?_
  refine GE.thenN ?_
  refine GC.block ?_
  refine GC.loop (σ := Nat) (fun k => k ≤ H * W) (fun k => [(0, (.agg #[(.int .i64 (((W : Nat) : Int))), (.int .i64 (((H : Nat) : Int))), (.slice (some ⟨b, o, none⟩) n cap)])), (1, (.pointer (some ⟨bq1, 0, none⟩))), (2, (.pointer (some ⟨bq2, 0, none⟩))), (3, (.int .i64 0)), (4, (.int .i64 0)), (5, (.pointer (some ⟨bq8, 0, none⟩))), (6, (.int .i64 (((k : Nat) : Int))))]) (fun k => [⟨bq8, [(.int .i64 (((H : Nat) : Int))), (.int .i64 (((W : Nat) : Int))), (.slice (some ⟨xq6, 0, none⟩) (H * W) (H * W))], 32, true⟩, ⟨xq6, cur H ((fun x y => smp xs W y x)) (H * W) k, 72, true⟩, ⟨bq2, [(.int .i64 0), (.int .i64 0), (.slice none 0 0)], 32, true⟩, ⟨bq1, [(.int .i64 (((W : Nat) : Int))), (.int .i64 (((H : Nat) : Int))), (.slice (some ⟨b, o, none⟩) n cap)], 32, true⟩]) (fun k => H * W - k) (0) (Nat.zero_le _) ((sub_cons rfl ((sub_cons rfl ((sub_cons rfl ((sub_cons rfl ((sub_cons rfl ((sub_cons rfl ((sub_cons rfl ((sub_nil _)))))))))))))))) (ulC (ulC (ulC (ulC ulN)))) (fun k hp => ?_)
  refine GC.seq ?_
  refine GC.seq ?_
  refine GC.region ?_
  refine GL.val (Ex.move rfl) (by decide) ?_
  refine GL.val (v := (.pointer (some ⟨bq8, 2, none⟩))) (Ex.cast (Ex.fieldAddr rfl Try.underlying32 rfl T.sz30 (by decide)) rfl) (by decide) ?_
  refine GL.val (Ex.load rfl T.ag30 (i := 0) rfl rfl) (by decide) ?_
  refine GL.val (v := (.int .i64 (((H * W) : Int)))) (Ex.len rfl Try.underlying30) (by decide) ?_
  refine GL.val (v := (.bool (decide ((((k : Nat) : Int)) < (((H * W) : Int)))))) (Ex.lss rfl rfl) (by decide) ?_
  refine GL.nil ?_
  refine GE.thenN ?_
  refine GC.cond rfl (fun hq9 => ?_) (fun hq9 => ?_)
  · replace hq9 := of_decide_eq_true hq9
    refine GC.skip ?_
    refine GE.thenN ?_
    refine GC.seq ?_
    refine GC.block ?_
    have hkx : k % H < H := Nat.mod_lt _ (by omega)
    have hky : k / H < W := Nat.div_lt_of_lt_mul (by omega)
    have hkx0 : (0 : Int) ≤ ((k % H : Nat) : Int) := Int.natCast_nonneg _
    have hky0 : (0 : Int) ≤ ((k / H : Nat) : Int) := Int.natCast_nonneg _
    refine GC.drawP [⟨bq8, [(.int .i64 (((H : Nat) : Int))), (.int .i64 (((W : Nat) : Int))), (.slice (some ⟨xq6, 0, none⟩) (H * W) (H * W))], 32, true⟩, ⟨bq2, [(.int .i64 0), (.int .i64 0), (.slice none 0 0)], 32, true⟩, ⟨bq1, [(.int .i64 (((W : Nat) : Int))), (.int .i64 (((H : Nat) : Int))), (.slice (some ⟨b, o, none⟩) n cap)], 32, true⟩] T.mixed (by kernel_rfl) (by kernel_rfl) (fuel := 14) rfl rfl ?_
    refine GH.take 0 (v := (.pointer (some ⟨bq8, 2, none⟩))) rfl (by kernel_rfl) (by kernel_rfl) (by kernel_rfl) (fun _ _ _ h => h) (Ex.cast (Ex.fieldAddr rfl Try.underlying32 rfl T.sz30 (by decide)) rfl) (ulC (ulS (ulC (ulC ulN)))) (by decide) ?_
    refine GH.take 1 (v := (.slice (some ⟨xq6, 0, none⟩) (H * W) (H * W))) rfl (by kernel_rfl) (by kernel_rfl) (by kernel_rfl) (fun _ _ _ h => h) (Ex.load rfl T.ag30 (i := 0) rfl rfl) (ulC (ulS (ulC (ulC ulN)))) (by decide) ?_
    refine GH.take 2 (v := (.int .i64 (((k : Nat) : Int)))) rfl (by kernel_rfl) (by kernel_rfl) (by kernel_rfl) (fun _ _ _ h => h) (Ex.move rfl) (ulC (ulS (ulC (ulC ulN)))) (by decide) ?_
    refine GH.take 3 (v := (.agg #[(.int .i64 (((W : Nat) : Int))), (.int .i64 (((H : Nat) : Int))), (.slice (some ⟨b, o, none⟩) n cap)])) rfl (by kernel_rfl) (by kernel_rfl) (by kernel_rfl) (fun _ _ _ h => h) (Ex.loadA rfl T.ag32 T.sz32 (i := 2) rfl (vs := [(.int .i64 (((W : Nat) : Int))), (.int .i64 (((H : Nat) : Int))), (.slice (some ⟨b, o, none⟩) n cap)]) rfl rfl) (ulC (ulS (ulC (ulC ulN)))) (by decide) ?_
    refine GH.take 4 (v := (.int .i64 (((k : Nat) : Int)))) rfl (by kernel_rfl) (by kernel_rfl) (by kernel_rfl) (fun _ _ _ h => h) (Ex.move rfl) (ulC (ulS (ulC (ulC ulN)))) (by decide) ?_
    refine GH.take 5 (v := (.pointer (some ⟨bq8, 0, none⟩))) rfl (by kernel_rfl) (by kernel_rfl) (by kernel_rfl) (fun _ _ _ h => h) (Ex.cast (Ex.fieldAddr rfl Try.underlying32 rfl T.sz3 (by decide)) rfl) (ulC (ulS (ulC (ulC ulN)))) (by decide) ?_
    refine GH.take 6 (v := (.int .i64 (((H : Nat) : Int)))) rfl (by kernel_rfl) (by kernel_rfl) (by kernel_rfl) (fun _ _ _ h => h) (Ex.load rfl T.ag3 (i := 0) rfl rfl) (ulC (ulS (ulC (ulC ulN)))) (by decide) ?_
    refine GH.take 7 (v := (.int .i64 (((k / H : Nat) : Int)))) rfl (by kernel_rfl) (by kernel_rfl) (by kernel_rfl) (fun _ _ _ h => h) (Ex.quo rfl rfl (Z := ((k / H : Nat) : Int)) (by omega) (quoN (by omega))) (ulC (ulS (ulC (ulC ulN)))) (by decide) ?_
    refine GH.take 8 (v := (.int .i64 (((k : Nat) : Int)))) rfl (by kernel_rfl) (by kernel_rfl) (by kernel_rfl) (fun _ _ _ h => h) (Ex.move rfl) (ulC (ulS (ulC (ulC ulN)))) (by decide) ?_
    refine GH.take 9 (v := (.pointer (some ⟨bq8, 0, none⟩))) rfl (by kernel_rfl) (by kernel_rfl) (by kernel_rfl) (fun _ _ _ h => h) (Ex.cast (Ex.fieldAddr rfl Try.underlying32 rfl T.sz3 (by decide)) rfl) (ulC (ulS (ulC (ulC ulN)))) (by decide) ?_
    refine GH.take 10 (v := (.int .i64 (((H : Nat) : Int)))) rfl (by kernel_rfl) (by kernel_rfl) (by kernel_rfl) (fun _ _ _ h => h) (Ex.load rfl T.ag3 (i := 0) rfl rfl) (ulC (ulS (ulC (ulC ulN)))) (by decide) ?_
    refine GH.take 11 (v := (.int .i64 (((k % H : Nat) : Int)))) rfl (by kernel_rfl) (by kernel_rfl) (by kernel_rfl) (fun _ _ _ h => h) (Ex.rem rfl rfl (Z := ((k % H : Nat) : Int)) (by omega) rfl) (ulC (ulS (ulC (ulC ulN)))) (by decide) ?_
    refine GH.one 12 rfl (by kernel_rfl) (Stp.callR (vs := [(.agg #[(.int .i64 (((W : Nat) : Int))), (.int .i64 (((H : Nat) : Int))), (.slice (some ⟨b, o, none⟩) n cap)]), (.int .i64 (((k / H : Nat) : Int))), (.int .i64 (((k % H : Nat) : Int)))]) rfl rfl T.own49 (by decide) (fun wc hw => ref_at W n cap b o (k / H) (k % H) (((H : Nat) : Int)) xs wc (by have h := place_lt (W := W) (H := H) (x := (k / H)) (y := (k % H)) (by omega) (by omega); omega) (by have h := hok.2.2.2.2; omega) hx (hw.rd hr (fun x => x)))) (fun _ => (ulC (ulS (ulC (ulC ulN))))) (fun xq10 hq11 => ?_)
    refine GH.take 13 (v := (.pointer (some ⟨xq6, k, none⟩))) rfl (by kernel_rfl) (by kernel_rfl) (by kernel_rfl) (fun _ _ _ h => h) (Ex.cast (Ex.indexAddr rfl rfl Try.underlying30 T.sz72 (by omega) (by omega)) (by simp)) (ulC (ulS (ulC (ulC ulN)))) (by decide) ?_
    refine GH.done (by kernel_rfl) ?_
    refine GE.thenN ?_
    refine GE.tail rfl (Stp.storeL (i := 1) (cs := cur H ((fun x y => smp xs W y x)) (H * W) k) (vs := [(.int .u32 (smp xs W (k / H) (k % H)))]) (o := k) (L1 := [⟨bq8, [(.int .i64 (((H : Nat) : Int))), (.int .i64 (((W : Nat) : Int))), (.slice (some ⟨xq6, 0, none⟩) (H * W) (H * W))], 32, true⟩, ⟨xq6, cur H ((fun x y => smp xs W y x)) (H * W) (k + 1), 72, true⟩, ⟨bq2, [(.int .i64 0), (.int .i64 0), (.slice none 0 0)], 32, true⟩, ⟨bq1, [(.int .i64 (((W : Nat) : Int))), (.int .i64 (((H : Nat) : Int))), (.slice (some ⟨b, o, none⟩) n cap)], 32, true⟩]) rfl rfl rfl T.sz72 rfl (Nat.ble_eq_true_of_le (by rw [cur_len _ _ _ _ (by omega)]; simp; omega)) rfl (by rw [cur_app' H ((fun x y => smp xs W y x)) (H * W) k _ (by omega) (by rfl)]; rfl)) (fun _ _ => ?_)
    refine GE.blockN ?_
    refine GE.thenN ?_
    refine GC.region ?_
    refine GL.val (Ex.move rfl) (by decide) ?_
    refine GL.val (v := (.int .i64 (((k + 1 : Nat) : Int)))) (Ex.add rfl rfl (Z := ((k + 1 : Nat) : Int)) (addN (b := 1) (by omega))) (by decide) ?_
    refine GL.val (Ex.assign rfl) (by decide) ?_
    refine GL.nil ?_
    refine GE.thenN ?_
    exact Head.mk (k + 1) (by omega) (by omega) ((sub_cons rfl ((sub_cons rfl ((sub_cons rfl ((sub_cons rfl ((sub_cons rfl ((sub_cons rfl ((sub_cons rfl ((sub_nil _)))))))))))))))) (ulC (ulC (ulC (ulC ulN))))
  · replace hq9 := of_decide_eq_false hq9
    refine GC.exit ?_
    refine GE.thenE ?_
    refine GE.thenE ?_
    refine GE.blockE ?_
    refine GE.thenN ?_
    refine GC.seq ?_
    refine GC.region ?_
    refine GL.val (v := (.agg #[(.int .i64 (((H : Nat) : Int))), (.int .i64 (((W : Nat) : Int))), (.slice (some ⟨xq6, 0, none⟩) (H * W) (H * W))])) (Ex.loadA rfl T.ag32 T.sz32 (i := 0) rfl (vs := [(.int .i64 (((H : Nat) : Int))), (.int .i64 (((W : Nat) : Int))), (.slice (some ⟨xq6, 0, none⟩) (H * W) (H * W))]) rfl rfl) (by decide) ?_
    refine GL.step (Stp.st2 (cs' := [(.int .i64 (((H : Nat) : Int))), (.int .i64 (((W : Nat) : Int))), (.slice (some ⟨xq6, 0, none⟩) (H * W) (H * W))]) rfl rfl rfl T.sz32 rfl rfl rfl) (fun _ _ => ?_)
    refine GL.val (Ex.assign rfl) (by decide) ?_
    refine GL.nil ?_
    refine GE.thenN ?_
    refine GC.ret ?_
    refine GC.ret2 rfl (Rv.cellA rfl T.ag32 T.sz32 (L := _) (i := 2) rfl (vs := [(.int .i64 (((H : Nat) : Int))), (.int .i64 (((W : Nat) : Int))), (.slice (some ⟨xq6, 0, none⟩) (H * W) (H * W))]) rfl rfl) (Rv.tmp rfl) (fun wN HN => ?_)
    have ek : k = H * W := by omega
    rw [ek, cur_full] at HN
    exact HN.ret xq6 trivial rfl (ulS (ulC (ulS (ulS ulN)))) rfl

set_option maxRecDepth 100000 in
set_option maxHeartbeats 1000000 in
theorem ref_transp_inv (W H : Int) (ad : Option Addr) (n cap : Nat) (w : World) (hc : chk W H n ≠ 0) :
    Calls Try.prog 32 #[(.agg #[(.int .i64 W), (.int .i64 H), (.slice ad n cap)])] w (Ret w (fun _ : Unit => True) (fun _ => .tuple #[(.agg #[(.int .i64 0), (.int .i64 0), (.slice none 0 0)]), .int .i64 ((chk W H n))]) (fun _ => [])) := by
  refine enter (M := None) (L := []) (n := 40) (l := [(0, (.agg #[(.int .i64 W), (.int .i64 H), (.slice ad n cap)]))]) Try.func32 rfl rfl (Args.cons rfl (Args.nil _)) (Hp.start _ _) ?_
  refine GC.seq ?_
  refine GC.region ?_
  refine GL.step (Stp.box (cs := [(.int .i64 W), (.int .i64 H), (.slice ad n cap)]) rfl rfl (by decide)) (fun bq1 _ => ?_)
  refine GL.step (Stp.alloc T.zr32 (by decide)) (fun bq2 _ => ?_)
  refine GL.val (Ex.assign rfl) (by decide) ?_
  refine GL.nil ?_
  refine GE.thenN ?_
  refine GC.seq ?_
  refine GC.region ?_
  refine GL.val (v := (.agg #[(.int .i64 W), (.int .i64 H), (.slice ad n cap)])) (Ex.loadA rfl T.ag32 T.sz32 (i := 1) rfl (vs := [(.int .i64 W), (.int .i64 H), (.slice ad n cap)]) rfl rfl) (by decide) ?_
  refine GL.step (Stp.callR (vs := [(.agg #[(.int .i64 W), (.int .i64 H), (.slice ad n cap)])]) rfl rfl T.own35 (by decide) (fun wc hw => ref_check W H ad n cap wc)) (fun xq3 hq4 => ?_)
  refine GL.val (Ex.assign rfl) (by decide) ?_
  refine GL.nil ?_
  refine GE.thenN ?_
  refine GC.seq ?_
  refine GC.seq ?_
  refine GC.region ?_
  refine GL.val (Ex.move rfl) (by decide) ?_
  refine GL.val (v := (.bool (decide ((chk W H n) ≠ 0)))) (Ex.neq rfl rfl) (by decide) ?_
  refine GL.nil ?_
  refine GE.thenN ?_
  refine GC.cond rfl (fun _ => ?_) (fun hq5 => by exfalso; have hq5 := of_decide_eq_false hq5; omega)
  refine GC.seq ?_
  refine GC.region ?_
  refine GL.val (v := (.agg #[(.int .i64 0), (.int .i64 0), (.slice none 0 0)])) (Ex.build (vs := []) rfl (by first | rfl | kernel_rfl)) (by decide) ?_
  refine GL.val (Ex.move rfl) (by decide) ?_
  refine GL.step (Stp.st0 (cs' := [(.int .i64 0), (.int .i64 0), (.slice none 0 0)]) rfl rfl rfl T.sz32 rfl rfl rfl) (fun _ _ => ?_)
  refine GL.val (Ex.assign rfl) (by decide) ?_
  refine GL.nil ?_
  refine GE.thenN ?_
  refine GC.ret ?_
  refine GE.thenR ?_
  refine GC.ret2 rfl (Rv.cellA rfl T.ag32 T.sz32 (L := _) (i := 0) rfl (vs := [(.int .i64 0), (.int .i64 0), (.slice none 0 0)]) rfl rfl) (Rv.tmp rfl) (fun wN HN => ?_)
  exact HN.ret () trivial rfl (List.nil_sublist _) rfl

set_option maxRecDepth 100000 in
set_option maxHeartbeats 1000000 in
theorem ref_copy (W H n cap b o : Nat) (xs : List Int) (w : World) (hok : okP W H) (hn : n = W * H) (hx : xs.length = n) (hr : Rd w b o (xs.map u32)) :
    Calls Try.prog 61 #[(.agg #[(.int .i64 (((W : Nat) : Int))), (.int .i64 (((H : Nat) : Int))), (.slice (some ⟨b, o, none⟩) n cap)])] w (Ret w (fun _ : Nat => True) (fun r => (.agg #[(.int .i64 (((W : Nat) : Int))), (.int .i64 (((H : Nat) : Int))), (.slice (some ⟨r, 0, none⟩) (W * H) (W * H))])) (fun r => [⟨r, xs.map u32, 72, true⟩])) := by
  have hA := hok.2.2.2.2
  refine enter (M := None) (L := []) (n := 15) (l := [(0, (.agg #[(.int .i64 (((W : Nat) : Int))), (.int .i64 (((H : Nat) : Int))), (.slice (some ⟨b, o, none⟩) n cap)]))]) Try.func61 rfl rfl (Args.cons rfl (Args.nil _)) (Hp.start _ _) ?_
  refine GC.seq ?_
  refine GC.region ?_
  refine GL.step (Stp.box (cs := [(.int .i64 (((W : Nat) : Int))), (.int .i64 (((H : Nat) : Int))), (.slice (some ⟨b, o, none⟩) n cap)]) rfl rfl (by decide)) (fun bq1 _ => ?_)
  refine GL.step (Stp.alloc T.zr32 (by decide)) (fun bq2 _ => ?_)
  refine GL.nil ?_
  refine GE.thenN ?_
  refine GC.seq ?_
  refine GC.region ?_
  refine GL.val (v := (.pointer (some ⟨bq1, 0, none⟩))) (Ex.cast (Ex.fieldAddr rfl Try.underlying32 rfl T.sz3 (by decide)) rfl) (by decide) ?_
  refine GL.val (Ex.load rfl T.ag3 (i := 1) rfl rfl) (by decide) ?_
  refine GL.val (v := (.pointer (some ⟨bq1, 1, none⟩))) (Ex.cast (Ex.fieldAddr rfl Try.underlying32 rfl T.sz3 (by decide)) rfl) (by decide) ?_
  refine GL.val (Ex.load rfl T.ag3 (i := 1) rfl rfl) (by decide) ?_
  refine GL.step (Stp.callR (vs := [(.int .i64 (((W : Nat) : Int))), (.int .i64 (((H : Nat) : Int)))]) rfl rfl T.own48 (by decide) (fun wc hw => ref_blank W H wc (by first | omega | (rw [Nat.mul_comm]; omega)))) (fun xq3 hq4 => ?_)
  refine GL.step (Stp.alloc T.zr32 (by decide)) (fun bq5 _ => ?_)
  refine GL.step (Stp.st0 (cs' := [(.int .i64 (((W : Nat) : Int))), (.int .i64 (((H : Nat) : Int))), (.slice (some ⟨xq3, 0, none⟩) (W * H) (W * H))]) rfl rfl rfl T.sz32 rfl rfl rfl) (fun _ _ => ?_)
  refine GL.nil ?_
  refine GE.thenN ?_
  refine GC.seq ?_
  refine GC.region ?_
  refine GL.val (v := (.pointer (some ⟨bq5, 2, none⟩))) (Ex.cast (Ex.fieldAddr rfl Try.underlying32 rfl T.sz30 (by decide)) rfl) (by decide) ?_
  refine GL.val (Ex.load rfl T.ag30 (i := 0) rfl rfl) (by decide) ?_
  refine GL.val (v := (.pointer (some ⟨bq1, 2, none⟩))) (Ex.cast (Ex.fieldAddr rfl Try.underlying32 rfl T.sz30 (by decide)) rfl) (by decide) ?_
  refine GL.val (Ex.load rfl T.ag30 (i := 3) rfl rfl) (by decide) ?_
  refine GL.step (Stp.copyO (i := 1) (vs := xs.map u32) (L1 := [⟨bq5, [(.int .i64 (((W : Nat) : Int))), (.int .i64 (((H : Nat) : Int))), (.slice (some ⟨xq3, 0, none⟩) (W * H) (W * H))], 32, true⟩, ⟨xq3, xs.map u32, 72, true⟩, ⟨bq2, [(.int .i64 0), (.int .i64 0), (.slice none 0 0)], 32, true⟩, ⟨bq1, [(.int .i64 (((W : Nat) : Int))), (.int .i64 (((H : Nat) : Int))), (.slice (some ⟨b, o, none⟩) n cap)], 32, true⟩]) rfl rfl Try.underlying30 T.sz72 rfl (Or.inr ⟨b, o, rfl, fun wz hz => hz.rd hr (fun x => x)⟩) (by simpa using hx) (by omega) (by simp; omega) (u32_one xs) (by simp [splice, hx, hn]) (by decide)) (fun _ _ => ?_)
  refine GL.nil ?_
  refine GE.thenN ?_
  refine GC.seq ?_
  refine GC.region ?_
  refine GL.val (v := (.agg #[(.int .i64 (((W : Nat) : Int))), (.int .i64 (((H : Nat) : Int))), (.slice (some ⟨xq3, 0, none⟩) (W * H) (W * H))])) (Ex.loadA rfl T.ag32 T.sz32 (i := 0) rfl (vs := [(.int .i64 (((W : Nat) : Int))), (.int .i64 (((H : Nat) : Int))), (.slice (some ⟨xq3, 0, none⟩) (W * H) (W * H))]) rfl rfl) (by decide) ?_
  refine GL.step (Stp.st2 (cs' := [(.int .i64 (((W : Nat) : Int))), (.int .i64 (((H : Nat) : Int))), (.slice (some ⟨xq3, 0, none⟩) (W * H) (W * H))]) rfl rfl rfl T.sz32 rfl rfl rfl) (fun _ _ => ?_)
  refine GL.nil ?_
  refine GE.thenN ?_
  refine GC.ret ?_
  refine GC.ret1 rfl (Rv.cellA rfl T.ag32 T.sz32 (L := _) (i := 2) rfl (vs := [(.int .i64 (((W : Nat) : Int))), (.int .i64 (((H : Nat) : Int))), (.slice (some ⟨xq3, 0, none⟩) (W * H) (W * H))]) rfl rfl) (fun wN HN => ?_)
  exact HN.ret xq3 trivial rfl (ulS (ulC (ulS (ulS ulN)))) rfl

set_option maxRecDepth 100000 in
set_option maxHeartbeats 1000000 in
theorem ref_within (i X V : Int) (w : World) (hi : 0 ≤ i ∧ i ≤ 1024) (hV : 1 ≤ V ∧ V ≤ 1024) :
    Calls Try.prog 62 #[(.int .i64 i), (.int .i64 X), (.int .i64 V)] w (Ret w (fun _ : Unit => True) (fun _ => .bool (decide (X ≤ i ∧ i < X + V))) (fun _ => [])) := by
  refine enter (M := None) (L := []) (n := 21) (l := [(0, (.int .i64 i)), (1, (.int .i64 X)), (2, (.int .i64 V))]) Try.func62 rfl rfl (Args.cons rfl (Args.cons rfl (Args.cons rfl (Args.nil _)))) (Hp.start _ _) ?_
  refine GC.seq ?_
  refine GC.region ?_
  refine GL.val (Ex.assign rfl) (by decide) ?_
  refine GL.nil ?_
  refine GE.thenN ?_
  refine GC.seq ?_
  refine GC.region ?_
  refine GL.val (Ex.move rfl) (by decide) ?_
  refine GL.val (Ex.move rfl) (by decide) ?_
  by_cases hq1 : X ≤ i
  · refine GL.val (v := (.bool true)) (Ex.cast (Ex.leq rfl rfl) (congrArg Value.bool (decide_eq_true hq1))) (by decide) ?_
    refine GL.val (Ex.move rfl) (by decide) ?_
    refine GL.stepG (tj := 10) rfl rfl (Ex.wp (v := (.int .i64 i)) (Ex.move rfl) (by decide)) (fun _ _ => ?_)
    refine GL.stepG (tj := 10) rfl rfl (Ex.wp (v := (.int .i64 V)) (Ex.move rfl) (by decide)) (fun _ _ => ?_)
    refine GL.stepG (tj := 10) rfl rfl (Ex.wp (v := (.int .i64 (i - V))) (Ex.sub' rfl rfl (Z := i - V) (w64 (by omega))) (by decide)) (fun _ _ => ?_)
    refine GL.stepG (tj := 10) rfl rfl (Ex.wp (v := (.int .i64 X)) (Ex.move rfl) (by decide)) (fun _ _ => ?_)
    by_cases hq2 : (i - V) < X
    · refine GL.stepG (tj := 10) rfl rfl (Ex.wp (v := (.bool true)) (Ex.cast (Ex.lss rfl rfl) (congrArg Value.bool (decide_eq_true hq2))) (by decide)) (fun _ _ => ?_)
      refine GL.val (v := (.bool true)) (Ex.pickT rfl rfl) (by decide) ?_
      refine GL.val (Ex.move rfl) (by decide) ?_
      refine GL.stepG (tj := 17) rfl rfl (Ex.wp (v := (.int .i64 X)) (Ex.move rfl) (by decide)) (fun _ _ => ?_)
      refine GL.stepG (tj := 17) rfl rfl (Ex.wp (v := (.bool (decide ((-1099511627776) < X)))) (Ex.gtr rfl rfl) (by decide)) (fun _ _ => ?_)
      refine GL.val (v := (.bool (decide ((-1099511627776) < X)))) (Ex.pickT rfl rfl) (by decide) ?_
      refine GL.val (Ex.assign rfl) (by decide) ?_
      refine GL.nil ?_
      refine GE.thenN ?_
      refine GC.ret ?_
      refine GC.ret1 rfl (Rv.tmp rfl) (fun wN HN => ?_)
      exact HN.ret () trivial (congrArg Value.bool (by first | exact (decide_eq_true (by omega)).symm | exact (decide_eq_false (by omega)).symm | (apply decide_eq_decide.2; omega))) (List.nil_sublist _) rfl
    · refine GL.stepG (tj := 10) rfl rfl (Ex.wp (v := (.bool false)) (Ex.cast (Ex.lss rfl rfl) (congrArg Value.bool (decide_eq_false hq2))) (by decide)) (fun _ _ => ?_)
      refine GL.val (v := (.bool false)) (Ex.pickT rfl rfl) (by decide) ?_
      refine GL.val (Ex.move rfl) (by decide) ?_
      refine GL.skipG (tj := 17) rfl rfl rfl (by decide) ?_
      refine GL.skipG (tj := 17) rfl rfl rfl (by decide) ?_
      refine GL.val (v := (.bool false)) (Ex.pickF rfl rfl) (by decide) ?_
      refine GL.val (Ex.assign rfl) (by decide) ?_
      refine GL.nil ?_
      refine GE.thenN ?_
      refine GC.ret ?_
      refine GC.ret1 rfl (Rv.tmp rfl) (fun wN HN => ?_)
      exact HN.ret () trivial (congrArg Value.bool (by first | exact (decide_eq_true (by omega)).symm | exact (decide_eq_false (by omega)).symm | (apply decide_eq_decide.2; omega))) (List.nil_sublist _) rfl
  · refine GL.val (v := (.bool false)) (Ex.cast (Ex.leq rfl rfl) (congrArg Value.bool (decide_eq_false hq1))) (by decide) ?_
    refine GL.val (Ex.move rfl) (by decide) ?_
    refine GL.skipG (tj := 10) rfl rfl rfl (by decide) ?_
    refine GL.skipG (tj := 10) rfl rfl rfl (by decide) ?_
    refine GL.skipG (tj := 10) rfl rfl rfl (by decide) ?_
    refine GL.skipG (tj := 10) rfl rfl rfl (by decide) ?_
    refine GL.skipG (tj := 10) rfl rfl rfl (by decide) ?_
    refine GL.val (v := (.bool false)) (Ex.pickF rfl rfl) (by decide) ?_
    refine GL.val (Ex.move rfl) (by decide) ?_
    refine GL.skipG (tj := 17) rfl rfl rfl (by decide) ?_
    refine GL.skipG (tj := 17) rfl rfl rfl (by decide) ?_
    refine GL.val (v := (.bool false)) (Ex.pickF rfl rfl) (by decide) ?_
    refine GL.val (Ex.assign rfl) (by decide) ?_
    refine GL.nil ?_
    refine GE.thenN ?_
    refine GC.ret ?_
    refine GC.ret1 rfl (Rv.tmp rfl) (fun wN HN => ?_)
    exact HN.ret () trivial (congrArg Value.bool (by first | exact (decide_eq_true (by omega)).symm | exact (decide_eq_false (by omega)).symm | (apply decide_eq_decide.2; omega))) (List.nil_sublist _) rfl

set_option maxRecDepth 100000 in
set_option maxHeartbeats 1000000 in
theorem ref_paste (W H n cap b o : Nat) (V U m cap2 b2 o2 : Nat) (xs ys : List Int) (X Y : Int) (w : World) (hok : okP W H) (hn : n = W * H) (hx : xs.length = n) (hr : Rd w b o (xs.map u32)) (hok2 : okP V U) (hn2 : m = V * U) (hx2 : ys.length = m) (hr2 : Rd w b2 o2 (ys.map u32)) :
    Calls Try.prog 28 #[(.agg #[(.int .i64 (((W : Nat) : Int))), (.int .i64 (((H : Nat) : Int))), (.slice (some ⟨b, o, none⟩) n cap)]), (.agg #[(.int .i64 (((V : Nat) : Int))), (.int .i64 (((U : Nat) : Int))), (.slice (some ⟨b2, o2, none⟩) m cap2)]), (.int .i64 X), (.int .i64 Y)] w (Ret w (fun _ : Nat => True) (fun rz0 => .tuple #[(.agg #[(.int .i64 (((W : Nat) : Int))), (.int .i64 (((H : Nat) : Int))), (.slice (some ⟨rz0, 0, none⟩) (W * H) (W * H))]), .int .i64 0]) (fun rz0 => [⟨rz0, (pstd xs ys W H V U X Y).map u32, 72, true⟩])) := by
  have hW := hok.1
  have hH := hok.2.1
  have hW2 := hok.2.2.1
  have hH2 := hok.2.2.2.1
  have hA := hok.2.2.2.2
  have hV := hok2.1
  have hU := hok2.2.1
  have hV2 := hok2.2.2.1
  have hU2 := hok2.2.2.2.1
  have hA2 := hok2.2.2.2.2
  refine enter (M := None) (L := []) (n := 69) (l := [(0, (.agg #[(.int .i64 (((W : Nat) : Int))), (.int .i64 (((H : Nat) : Int))), (.slice (some ⟨b, o, none⟩) n cap)])), (1, (.agg #[(.int .i64 (((V : Nat) : Int))), (.int .i64 (((U : Nat) : Int))), (.slice (some ⟨b2, o2, none⟩) m cap2)])), (2, (.int .i64 X)), (3, (.int .i64 Y))]) Try.func28 rfl rfl (Args.cons rfl (Args.cons rfl (Args.cons rfl (Args.cons rfl (Args.nil _))))) (Hp.start _ _) ?_
  refine GC.seq ?_
  refine GC.region ?_
  refine GL.step (Stp.box (cs := [(.int .i64 (((W : Nat) : Int))), (.int .i64 (((H : Nat) : Int))), (.slice (some ⟨b, o, none⟩) n cap)]) rfl rfl (by decide)) (fun bq1 _ => ?_)
  refine GL.step (Stp.box (cs := [(.int .i64 (((V : Nat) : Int))), (.int .i64 (((U : Nat) : Int))), (.slice (some ⟨b2, o2, none⟩) m cap2)]) rfl rfl (by decide)) (fun bq2 _ => ?_)
  refine GL.step (Stp.alloc T.zr32 (by decide)) (fun bq3 _ => ?_)
  refine GL.val (Ex.assign rfl) (by decide) ?_
  refine GL.nil ?_
  refine GE.thenN ?_
  refine GC.seq ?_
  refine GC.region ?_
  refine GL.val (v := (.agg #[(.int .i64 (((W : Nat) : Int))), (.int .i64 (((H : Nat) : Int))), (.slice (some ⟨b, o, none⟩) n cap)])) (Ex.loadA rfl T.ag32 T.sz32 (i := 2) rfl (vs := [(.int .i64 (((W : Nat) : Int))), (.int .i64 (((H : Nat) : Int))), (.slice (some ⟨b, o, none⟩) n cap)]) rfl rfl) (by decide) ?_
  refine GL.step (Stp.callR (σ := Unit) (p := fun rz => True) (v := fun rz => (.int .i64 0)) (N := fun rz => []) (vs := [(.agg #[(.int .i64 (((W : Nat) : Int))), (.int .i64 (((H : Nat) : Int))), (.slice (some ⟨b, o, none⟩) n cap)])]) rfl rfl T.own35 (by decide) (fun wc hw => (by have h := ref_check (((W : Nat) : Int)) (((H : Nat) : Int)) (some ⟨b, o, none⟩) n cap wc; rw [show chk (((W : Nat) : Int)) (((H : Nat) : Int)) n = 0 from by rw [hn]; exact chk_ok hok] at h; exact h))) (fun xq4 hq5 => ?_)
  refine GL.val (Ex.assign rfl) (by decide) ?_
  refine GL.nil ?_
  refine GE.thenN ?_
  refine GC.seq ?_
  refine GC.seq ?_
  refine GC.region ?_
  refine GL.val (Ex.move rfl) (by decide) ?_
  refine GL.val (v := (.bool false)) (Ex.cast (Ex.neq rfl rfl) rfl) (by decide) ?_
  refine GL.nil ?_
  refine GE.thenN ?_
  refine GC.cond rfl (fun hq6 => by cases hq6) (fun _ => ?_)
  refine GC.skip ?_
  refine GE.thenN ?_
  refine GC.seq ?_
  refine GC.region ?_
  refine GL.val (v := (.agg #[(.int .i64 (((V : Nat) : Int))), (.int .i64 (((U : Nat) : Int))), (.slice (some ⟨b2, o2, none⟩) m cap2)])) (Ex.loadA rfl T.ag32 T.sz32 (i := 1) rfl (vs := [(.int .i64 (((V : Nat) : Int))), (.int .i64 (((U : Nat) : Int))), (.slice (some ⟨b2, o2, none⟩) m cap2)]) rfl rfl) (by decide) ?_
  refine GL.step (Stp.callR (σ := Unit) (p := fun rz => True) (v := fun rz => (.int .i64 0)) (N := fun rz => []) (vs := [(.agg #[(.int .i64 (((V : Nat) : Int))), (.int .i64 (((U : Nat) : Int))), (.slice (some ⟨b2, o2, none⟩) m cap2)])]) rfl rfl T.own35 (by decide) (fun wc hw => (by have h := ref_check (((V : Nat) : Int)) (((U : Nat) : Int)) (some ⟨b2, o2, none⟩) m cap2 wc; rw [show chk (((V : Nat) : Int)) (((U : Nat) : Int)) m = 0 from by rw [hn2]; exact chk_ok hok2] at h; exact h))) (fun xq7 hq8 => ?_)
  refine GL.val (Ex.assign rfl) (by decide) ?_
  refine GL.nil ?_
  refine GE.thenN ?_
  refine GC.seq ?_
  refine GC.seq ?_
  refine GC.region ?_
  refine GL.val (Ex.move rfl) (by decide) ?_
  refine GL.val (v := (.bool false)) (Ex.cast (Ex.neq rfl rfl) rfl) (by decide) ?_
  refine GL.nil ?_
  refine GE.thenN ?_
  refine GC.cond rfl (fun hq9 => by cases hq9) (fun _ => ?_)
  refine GC.skip ?_
  refine GE.thenN ?_
  refine GC.seq ?_
  refine GC.region ?_
  refine GL.val (v := (.agg #[(.int .i64 (((W : Nat) : Int))), (.int .i64 (((H : Nat) : Int))), (.slice (some ⟨b, o, none⟩) n cap)])) (Ex.loadA rfl T.ag32 T.sz32 (i := 2) rfl (vs := [(.int .i64 (((W : Nat) : Int))), (.int .i64 (((H : Nat) : Int))), (.slice (some ⟨b, o, none⟩) n cap)]) rfl rfl) (by decide) ?_
  refine GL.step (Stp.callR (vs := [(.agg #[(.int .i64 (((W : Nat) : Int))), (.int .i64 (((H : Nat) : Int))), (.slice (some ⟨b, o, none⟩) n cap)])]) rfl rfl T.own61 (by decide) (fun wc hw => ref_copy W H n cap b o xs wc hok hn hx (hw.rd hr (fun x => x)))) (fun xq10 hq11 => ?_)
  refine GL.step (Stp.alloc T.zr32 (by decide)) (fun bq12 _ => ?_)
  refine GL.step (Stp.st0 (cs' := [(.int .i64 (((W : Nat) : Int))), (.int .i64 (((H : Nat) : Int))), (.slice (some ⟨xq10, 0, none⟩) (W * H) (W * H))]) rfl rfl rfl T.sz32 rfl rfl rfl) (fun _ _ => ?_)
  refine GL.nil ?_
  refine GE.thenN ?_
  refine GC.seq ?_
  refine GC.seq ?_
  rw [show xs.map u32 = pcr W (pst X Y V U (smp xs W) (smp ys V)) xs 0 from (pcr_zero _ _ _).symm]
  refine GC.region ?_
  refine GL.val (Ex.assign rfl) (by decide) ?_
  refine GL.nil ?_
  refine GE.thenN ?_
  refine GC.block ?_
  refine GC.loop (σ := Nat) (fun k => k ≤ W * H) (fun k => [(0, (.agg #[(.int .i64 (((W : Nat) : Int))), (.int .i64 (((H : Nat) : Int))), (.slice (some ⟨b, o, none⟩) n cap)])), (1, (.agg #[(.int .i64 (((V : Nat) : Int))), (.int .i64 (((U : Nat) : Int))), (.slice (some ⟨b2, o2, none⟩) m cap2)])), (2, (.int .i64 X)), (3, (.int .i64 Y)), (4, (.pointer (some ⟨bq1, 0, none⟩))), (5, (.pointer (some ⟨bq2, 0, none⟩))), (8, (.pointer (some ⟨bq3, 0, none⟩))), (9, (.int .i64 0)), (10, (.int .i64 0)), (11, (.pointer (some ⟨bq12, 0, none⟩))), (12, (.int .i64 (((k : Nat) : Int))))]) (fun k => [⟨bq12, [(.int .i64 (((W : Nat) : Int))), (.int .i64 (((H : Nat) : Int))), (.slice (some ⟨xq10, 0, none⟩) (W * H) (W * H))], 32, true⟩, ⟨xq10, pcr W (pst X Y V U (smp xs W) (smp ys V)) xs k, 72, true⟩, ⟨bq3, [(.int .i64 0), (.int .i64 0), (.slice none 0 0)], 32, true⟩, ⟨bq2, [(.int .i64 (((V : Nat) : Int))), (.int .i64 (((U : Nat) : Int))), (.slice (some ⟨b2, o2, none⟩) m cap2)], 32, true⟩, ⟨bq1, [(.int .i64 (((W : Nat) : Int))), (.int .i64 (((H : Nat) : Int))), (.slice (some ⟨b, o, none⟩) n cap)], 32, true⟩]) (fun k => W * H - k) (0) (Nat.zero_le _) ((sub_cons rfl ((sub_cons rfl ((sub_cons rfl ((sub_cons rfl ((sub_cons rfl ((sub_cons rfl ((sub_cons rfl ((sub_cons rfl ((sub_cons rfl ((sub_cons rfl ((sub_cons rfl ((sub_nil _)))))))))))))))))))))))) (ulC (ulC (ulC (ulC (ulC ulN))))) (fun k hp => ?_)
  refine GC.seq ?_
  refine GC.seq ?_
  refine GC.region ?_
  refine GL.val (Ex.move rfl) (by decide) ?_
  refine GL.val (v := (.pointer (some ⟨bq12, 2, none⟩))) (Ex.cast (Ex.fieldAddr rfl Try.underlying32 rfl T.sz30 (by decide)) rfl) (by decide) ?_
  refine GL.val (Ex.load rfl T.ag30 (i := 0) rfl rfl) (by decide) ?_
  refine GL.val (v := (.int .i64 (((W * H) : Int)))) (Ex.len rfl Try.underlying30) (by decide) ?_
  refine GL.val (v := (.bool (decide ((((k : Nat) : Int)) < (((W * H) : Int)))))) (Ex.lss rfl rfl) (by decide) ?_
  refine GL.nil ?_
  refine GE.thenN ?_
  refine GC.cond rfl (fun hq13 => ?_) (fun hq13 => ?_)
  · replace hq13 := of_decide_eq_true hq13
    refine GC.skip ?_
    refine GE.thenN ?_
    refine GC.seq ?_
    refine GC.block ?_
    refine GC.seq ?_
    have hkx : k % W < W := Nat.mod_lt _ (by omega)
    have hky : k / W < H := Nat.div_lt_of_lt_mul (by omega)
    have hkx0 : (0 : Int) ≤ ((k % W : Nat) : Int) := Int.natCast_nonneg _
    have hky0 : (0 : Int) ≤ ((k / W : Nat) : Int) := Int.natCast_nonneg _
    refine GC.drawP [⟨bq12, [(.int .i64 (((W : Nat) : Int))), (.int .i64 (((H : Nat) : Int))), (.slice (some ⟨xq10, 0, none⟩) (W * H) (W * H))], 32, true⟩, ⟨xq10, pcr W (pst X Y V U (smp xs W) (smp ys V)) xs k, 72, true⟩, ⟨bq3, [(.int .i64 0), (.int .i64 0), (.slice none 0 0)], 32, true⟩, ⟨bq2, [(.int .i64 (((V : Nat) : Int))), (.int .i64 (((U : Nat) : Int))), (.slice (some ⟨b2, o2, none⟩) m cap2)], 32, true⟩, ⟨bq1, [(.int .i64 (((W : Nat) : Int))), (.int .i64 (((H : Nat) : Int))), (.slice (some ⟨b, o, none⟩) n cap)], 32, true⟩] T.mixed (by kernel_rfl) (by kernel_rfl) (fuel := 9) rfl rfl ?_
    refine GH.take 0 (v := (.int .i64 (((k : Nat) : Int)))) rfl (by kernel_rfl) (by kernel_rfl) (by kernel_rfl) (fun _ _ _ h => h) (Ex.move rfl) (ulC (ulC (ulC (ulC (ulC ulN))))) (by decide) ?_
    refine GH.take 1 (v := (.pointer (some ⟨bq1, 0, none⟩))) rfl (by kernel_rfl) (by kernel_rfl) (by kernel_rfl) (fun _ _ _ h => h) (Ex.cast (Ex.fieldAddr rfl Try.underlying32 rfl T.sz3 (by decide)) rfl) (ulC (ulC (ulC (ulC (ulC ulN))))) (by decide) ?_
    refine GH.take 2 (v := (.int .i64 (((W : Nat) : Int)))) rfl (by kernel_rfl) (by kernel_rfl) (by kernel_rfl) (fun _ _ _ h => h) (Ex.load rfl T.ag3 (i := 4) rfl rfl) (ulC (ulC (ulC (ulC (ulC ulN))))) (by decide) ?_
    refine GH.take 3 (v := (.int .i64 (((k % W : Nat) : Int)))) rfl (by kernel_rfl) (by kernel_rfl) (by kernel_rfl) (fun _ _ _ h => h) (Ex.rem rfl rfl (Z := ((k % W : Nat) : Int)) (by omega) rfl) (ulC (ulC (ulC (ulC (ulC ulN))))) (by decide) ?_
    refine GH.take 4 (v := (.int .i64 (((k : Nat) : Int)))) rfl (by kernel_rfl) (by kernel_rfl) (by kernel_rfl) (fun _ _ _ h => h) (Ex.move rfl) (ulC (ulC (ulC (ulC (ulC ulN))))) (by decide) ?_
    refine GH.take 5 (v := (.pointer (some ⟨bq1, 0, none⟩))) rfl (by kernel_rfl) (by kernel_rfl) (by kernel_rfl) (fun _ _ _ h => h) (Ex.cast (Ex.fieldAddr rfl Try.underlying32 rfl T.sz3 (by decide)) rfl) (ulC (ulC (ulC (ulC (ulC ulN))))) (by decide) ?_
    refine GH.take 6 (v := (.int .i64 (((W : Nat) : Int)))) rfl (by kernel_rfl) (by kernel_rfl) (by kernel_rfl) (fun _ _ _ h => h) (Ex.load rfl T.ag3 (i := 4) rfl rfl) (ulC (ulC (ulC (ulC (ulC ulN))))) (by decide) ?_
    refine GH.take 7 (v := (.int .i64 (((k / W : Nat) : Int)))) rfl (by kernel_rfl) (by kernel_rfl) (by kernel_rfl) (fun _ _ _ h => h) (Ex.quo rfl rfl (Z := ((k / W : Nat) : Int)) (by omega) (quoN (by omega))) (ulC (ulC (ulC (ulC (ulC ulN))))) (by decide) ?_
    refine GH.take 8 (v := (.int .i64 (((k % W : Nat) : Int)))) rfl (by kernel_rfl) (by kernel_rfl) (by kernel_rfl) (fun _ _ _ h => h) (Ex.assign rfl) (ulC (ulC (ulC (ulC (ulC ulN))))) (by decide) ?_
    refine GH.done (by kernel_rfl) ?_
    refine GE.thenN ?_
    refine GE.tail rfl (Ex.wp (v := (.int .i64 (((k / W : Nat) : Int)))) (Ex.assign rfl) (by decide)) (fun _ _ => ?_)
    refine GE.thenN ?_
    refine GC.seq ?_
    refine GC.region ?_
    refine GL.val (Ex.move rfl) (by decide) ?_
    refine GL.val (Ex.move rfl) (by decide) ?_
    refine GL.val (v := (.pointer (some ⟨bq2, 0, none⟩))) (Ex.cast (Ex.fieldAddr rfl Try.underlying32 rfl T.sz3 (by decide)) rfl) (by decide) ?_
    refine GL.val (Ex.load rfl T.ag3 (i := 3) rfl rfl) (by decide) ?_
    refine GL.step (Stp.callR (vs := [(.int .i64 (((k % W : Nat) : Int))), (.int .i64 X), (.int .i64 (((V : Nat) : Int)))]) rfl rfl T.own62 (by decide) (fun wc hw => ref_within (((k % W : Nat) : Int)) X (((V : Nat) : Int)) wc (by omega) (by omega))) (fun xq14 hq15 => ?_)
    by_cases hq16 : (X ≤ (((k % W : Nat) : Int)) ∧ (((k % W : Nat) : Int)) < X + (((V : Nat) : Int)))
    · have hA1 := hq16
      refine GL.val (v := (.bool true)) (Ex.cast (Ex.move rfl) (congrArg Value.bool (decide_eq_true hq16))) (by decide) ?_
      refine GL.stepG (tj := 49) rfl rfl (Ex.wp (v := (.int .i64 (((k / W : Nat) : Int)))) (Ex.move rfl) (by decide)) (fun _ _ => ?_)
      refine GL.stepG (tj := 49) rfl rfl (Ex.wp (v := (.int .i64 Y)) (Ex.move rfl) (by decide)) (fun _ _ => ?_)
      refine GL.stepG (tj := 49) rfl rfl (Ex.wp (v := (.pointer (some ⟨bq2, 1, none⟩))) (Ex.cast (Ex.fieldAddr rfl Try.underlying32 rfl T.sz3 (by decide)) rfl) (by decide)) (fun _ _ => ?_)
      refine GL.stepG (tj := 49) rfl rfl (Ex.wp (v := (.int .i64 (((U : Nat) : Int)))) (Ex.load rfl T.ag3 (i := 3) rfl rfl) (by decide)) (fun _ _ => ?_)
      refine GL.stepG (tj := 49) rfl rfl (Stp.callR (vs := [(.int .i64 (((k / W : Nat) : Int))), (.int .i64 Y), (.int .i64 (((U : Nat) : Int)))]) rfl rfl T.own62 (by decide) (fun wc hw => ref_within (((k / W : Nat) : Int)) Y (((U : Nat) : Int)) wc (by omega) (by omega))) (fun xq17 hq18 => ?_)
      refine GL.val (v := (.bool (decide (Y ≤ (((k / W : Nat) : Int)) ∧ (((k / W : Nat) : Int)) < Y + (((U : Nat) : Int)))))) (Ex.pickT rfl rfl) (by decide) ?_
      refine GL.nil ?_
      refine GE.thenN ?_
      refine GC.cond rfl (fun hq19 => ?_) (fun hq19 => ?_)
      · replace hq19 := of_decide_eq_true hq19
        have hA2 := hq19
        refine GC.drawP [⟨bq12, [(.int .i64 (((W : Nat) : Int))), (.int .i64 (((H : Nat) : Int))), (.slice (some ⟨xq10, 0, none⟩) (W * H) (W * H))], 32, true⟩, ⟨bq3, [(.int .i64 0), (.int .i64 0), (.slice none 0 0)], 32, true⟩, ⟨bq2, [(.int .i64 (((V : Nat) : Int))), (.int .i64 (((U : Nat) : Int))), (.slice (some ⟨b2, o2, none⟩) m cap2)], 32, true⟩, ⟨bq1, [(.int .i64 (((W : Nat) : Int))), (.int .i64 (((H : Nat) : Int))), (.slice (some ⟨b, o, none⟩) n cap)], 32, true⟩] T.mixed (by kernel_rfl) (by kernel_rfl) (fuel := 12) rfl rfl ?_
        refine GH.take 0 (v := (.pointer (some ⟨bq12, 2, none⟩))) rfl (by kernel_rfl) (by kernel_rfl) (by kernel_rfl) (fun _ _ _ h => h) (Ex.cast (Ex.fieldAddr rfl Try.underlying32 rfl T.sz30 (by decide)) rfl) (ulC (ulS (ulC (ulC (ulC ulN))))) (by decide) ?_
        refine GH.take 1 (v := (.slice (some ⟨xq10, 0, none⟩) (W * H) (W * H))) rfl (by kernel_rfl) (by kernel_rfl) (by kernel_rfl) (fun _ _ _ h => h) (Ex.load rfl T.ag30 (i := 0) rfl rfl) (ulC (ulS (ulC (ulC (ulC ulN))))) (by decide) ?_
        refine GH.take 2 (v := (.int .i64 (((k : Nat) : Int)))) rfl (by kernel_rfl) (by kernel_rfl) (by kernel_rfl) (fun _ _ _ h => h) (Ex.move rfl) (ulC (ulS (ulC (ulC (ulC ulN))))) (by decide) ?_
        refine GH.take 3 (v := (.agg #[(.int .i64 (((V : Nat) : Int))), (.int .i64 (((U : Nat) : Int))), (.slice (some ⟨b2, o2, none⟩) m cap2)])) rfl (by kernel_rfl) (by kernel_rfl) (by kernel_rfl) (fun _ _ _ h => h) (Ex.loadA rfl T.ag32 T.sz32 (i := 2) rfl (vs := [(.int .i64 (((V : Nat) : Int))), (.int .i64 (((U : Nat) : Int))), (.slice (some ⟨b2, o2, none⟩) m cap2)]) rfl rfl) (ulC (ulS (ulC (ulC (ulC ulN))))) (by decide) ?_
        refine GH.take 4 (v := (.int .i64 (((k % W : Nat) : Int)))) rfl (by kernel_rfl) (by kernel_rfl) (by kernel_rfl) (fun _ _ _ h => h) (Ex.move rfl) (ulC (ulS (ulC (ulC (ulC ulN))))) (by decide) ?_
        refine GH.take 5 (v := (.int .i64 X)) rfl (by kernel_rfl) (by kernel_rfl) (by kernel_rfl) (fun _ _ _ h => h) (Ex.move rfl) (ulC (ulS (ulC (ulC (ulC ulN))))) (by decide) ?_
        refine GH.take 6 (v := (.int .i64 ((((((k % W : Nat) : Int) - X).toNat : Nat) : Int)))) rfl (by kernel_rfl) (by kernel_rfl) (by kernel_rfl) (fun _ _ _ h => h) (Ex.sub' rfl rfl (Z := (((((k % W : Nat) : Int) - X).toNat : Nat) : Int)) (by rw [Int.toNat_of_nonneg (by omega)]; exact w64 (by omega))) (ulC (ulS (ulC (ulC (ulC ulN))))) (by decide) ?_
        refine GH.take 7 (v := (.int .i64 (((k / W : Nat) : Int)))) rfl (by kernel_rfl) (by kernel_rfl) (by kernel_rfl) (fun _ _ _ h => h) (Ex.move rfl) (ulC (ulS (ulC (ulC (ulC ulN))))) (by decide) ?_
        refine GH.take 8 (v := (.int .i64 Y)) rfl (by kernel_rfl) (by kernel_rfl) (by kernel_rfl) (fun _ _ _ h => h) (Ex.move rfl) (ulC (ulS (ulC (ulC (ulC ulN))))) (by decide) ?_
        refine GH.take 9 (v := (.int .i64 ((((((k / W : Nat) : Int) - Y).toNat : Nat) : Int)))) rfl (by kernel_rfl) (by kernel_rfl) (by kernel_rfl) (fun _ _ _ h => h) (Ex.sub' rfl rfl (Z := (((((k / W : Nat) : Int) - Y).toNat : Nat) : Int)) (by rw [Int.toNat_of_nonneg (by omega)]; exact w64 (by omega))) (ulC (ulS (ulC (ulC (ulC ulN))))) (by decide) ?_
        refine GH.one 10 rfl (by kernel_rfl) (Stp.callR (vs := [(.agg #[(.int .i64 (((V : Nat) : Int))), (.int .i64 (((U : Nat) : Int))), (.slice (some ⟨b2, o2, none⟩) m cap2)]), (.int .i64 ((((((k % W : Nat) : Int) - X).toNat : Nat) : Int))), (.int .i64 ((((((k / W : Nat) : Int) - Y).toNat : Nat) : Int)))]) rfl rfl T.own49 (by decide) (fun wc hw => ref_at V m cap2 b2 o2 ((((k % W : Nat) : Int) - X).toNat) ((((k / W : Nat) : Int) - Y).toNat) (((U : Nat) : Int)) ys wc (by have h := place_lt (W := V) (H := U) (x := ((((k % W : Nat) : Int) - X).toNat)) (y := ((((k / W : Nat) : Int) - Y).toNat)) (by omega) (by omega); omega) (by have h := hok2.2.2.2.2; omega) hx2 (hw.rd hr2 (fun x => x)))) (fun _ => (ulC (ulS (ulC (ulC (ulC ulN)))))) (fun xq20 hq21 => ?_)
        refine GH.take 11 (v := (.pointer (some ⟨xq10, k, none⟩))) rfl (by kernel_rfl) (by kernel_rfl) (by kernel_rfl) (fun _ _ _ h => h) (Ex.cast (Ex.indexAddr rfl rfl Try.underlying30 T.sz72 (by omega) (by omega)) (by simp)) (ulC (ulS (ulC (ulC (ulC ulN))))) (by decide) ?_
        refine GH.done (by kernel_rfl) ?_
        refine GE.thenN ?_
        refine GE.tail rfl (Stp.storeL (i := 1) (cs := pcr W (pst X Y V U (smp xs W) (smp ys V)) xs k) (vs := [(.int .u32 (smp ys V ((((k % W : Nat) : Int) - X).toNat) ((((k / W : Nat) : Int) - Y).toNat)))]) (o := k) (L1 := [⟨bq12, [(.int .i64 (((W : Nat) : Int))), (.int .i64 (((H : Nat) : Int))), (.slice (some ⟨xq10, 0, none⟩) (W * H) (W * H))], 32, true⟩, ⟨xq10, pcr W (pst X Y V U (smp xs W) (smp ys V)) xs (k + 1), 72, true⟩, ⟨bq3, [(.int .i64 0), (.int .i64 0), (.slice none 0 0)], 32, true⟩, ⟨bq2, [(.int .i64 (((V : Nat) : Int))), (.int .i64 (((U : Nat) : Int))), (.slice (some ⟨b2, o2, none⟩) m cap2)], 32, true⟩, ⟨bq1, [(.int .i64 (((W : Nat) : Int))), (.int .i64 (((H : Nat) : Int))), (.slice (some ⟨b, o, none⟩) n cap)], 32, true⟩]) rfl rfl rfl T.sz72 rfl (Nat.ble_eq_true_of_le (by rw [pcr_len (by omega)]; simp; omega)) rfl (by rw [pcr_app (by omega) (by unfold pst; rw [if_pos ⟨hA1, hA2⟩])]; rfl)) (fun _ _ => ?_)
        refine GE.blockN ?_
        refine GE.thenN ?_
        refine GC.region ?_
        refine GL.val (Ex.move rfl) (by decide) ?_
        refine GL.val (v := (.int .i64 (((k + 1 : Nat) : Int)))) (Ex.add rfl rfl (Z := ((k + 1 : Nat) : Int)) (addN (b := 1) (by omega))) (by decide) ?_
        refine GL.val (Ex.assign rfl) (by decide) ?_
        refine GL.nil ?_
        refine GE.thenN ?_
        exact Head.mk (k + 1) (by omega) (by omega) ((sub_cons rfl ((sub_cons rfl ((sub_cons rfl ((sub_cons rfl ((sub_cons rfl ((sub_cons rfl ((sub_cons rfl ((sub_cons rfl ((sub_cons rfl ((sub_cons rfl ((sub_cons rfl ((sub_nil _)))))))))))))))))))))))) (ulC (ulC (ulC (ulC (ulC ulN)))))
      · replace hq19 := of_decide_eq_false hq19
        have hnB := hq19
        refine GC.skip ?_
        refine GE.blockN ?_
        refine GE.thenN ?_
        refine GC.region ?_
        refine GL.val (Ex.move rfl) (by decide) ?_
        refine GL.val (v := (.int .i64 (((k + 1 : Nat) : Int)))) (Ex.add rfl rfl (Z := ((k + 1 : Nat) : Int)) (addN (b := 1) (by omega))) (by decide) ?_
        refine GL.val (Ex.assign rfl) (by decide) ?_
        refine GL.nil ?_
        refine GE.thenN ?_
        rw [show pcr W (pst X Y V U (smp xs W) (smp ys V)) xs k = pcr W (pst X Y V U (smp xs W) (smp ys V)) xs (k + 1) from pcr_same (by omega) (by unfold pst; rw [if_neg (fun hh => hnB hh.2), smp_at])]
        exact Head.mk (k + 1) (by omega) (by omega) ((sub_cons rfl ((sub_cons rfl ((sub_cons rfl ((sub_cons rfl ((sub_cons rfl ((sub_cons rfl ((sub_cons rfl ((sub_cons rfl ((sub_cons rfl ((sub_cons rfl ((sub_cons rfl ((sub_nil _)))))))))))))))))))))))) (ulC (ulC (ulC (ulC (ulC ulN)))))
    · have hnA := hq16
      refine GL.val (v := (.bool false)) (Ex.cast (Ex.move rfl) (congrArg Value.bool (decide_eq_false hq16))) (by decide) ?_
      refine GL.skipG (tj := 49) rfl rfl rfl (by decide) ?_
      refine GL.skipG (tj := 49) rfl rfl rfl (by decide) ?_
      refine GL.skipG (tj := 49) rfl rfl rfl (by decide) ?_
      refine GL.skipG (tj := 49) rfl rfl rfl (by decide) ?_
      refine GL.skipG (tj := 49) rfl rfl rfl (by decide) ?_
      refine GL.val (v := (.bool false)) (Ex.pickF rfl rfl) (by decide) ?_
      refine GL.nil ?_
      refine GE.thenN ?_
      refine GC.cond rfl (fun hq22 => by cases hq22) (fun _ => ?_)
      refine GC.skip ?_
      refine GE.blockN ?_
      refine GE.thenN ?_
      refine GC.region ?_
      refine GL.val (Ex.move rfl) (by decide) ?_
      refine GL.val (v := (.int .i64 (((k + 1 : Nat) : Int)))) (Ex.add rfl rfl (Z := ((k + 1 : Nat) : Int)) (addN (b := 1) (by omega))) (by decide) ?_
      refine GL.val (Ex.assign rfl) (by decide) ?_
      refine GL.nil ?_
      refine GE.thenN ?_
      rw [show pcr W (pst X Y V U (smp xs W) (smp ys V)) xs k = pcr W (pst X Y V U (smp xs W) (smp ys V)) xs (k + 1) from pcr_same (by omega) (by unfold pst; rw [if_neg (fun hh => hnA hh.1), smp_at])]
      exact Head.mk (k + 1) (by omega) (by omega) ((sub_cons rfl ((sub_cons rfl ((sub_cons rfl ((sub_cons rfl ((sub_cons rfl ((sub_cons rfl ((sub_cons rfl ((sub_cons rfl ((sub_cons rfl ((sub_cons rfl ((sub_cons rfl ((sub_nil _)))))))))))))))))))))))) (ulC (ulC (ulC (ulC (ulC ulN)))))
  · replace hq13 := of_decide_eq_false hq13
    refine GC.exit ?_
    refine GE.thenE ?_
    refine GE.thenE ?_
    refine GE.blockE ?_
    refine GE.thenN ?_
    refine GC.seq ?_
    refine GC.region ?_
    refine GL.val (v := (.agg #[(.int .i64 (((W : Nat) : Int))), (.int .i64 (((H : Nat) : Int))), (.slice (some ⟨xq10, 0, none⟩) (W * H) (W * H))])) (Ex.loadA rfl T.ag32 T.sz32 (i := 0) rfl (vs := [(.int .i64 (((W : Nat) : Int))), (.int .i64 (((H : Nat) : Int))), (.slice (some ⟨xq10, 0, none⟩) (W * H) (W * H))]) rfl rfl) (by decide) ?_
    refine GL.step (Stp.st2 (cs' := [(.int .i64 (((W : Nat) : Int))), (.int .i64 (((H : Nat) : Int))), (.slice (some ⟨xq10, 0, none⟩) (W * H) (W * H))]) rfl rfl rfl T.sz32 rfl rfl rfl) (fun _ _ => ?_)
    refine GL.val (Ex.assign rfl) (by decide) ?_
    refine GL.nil ?_
    refine GE.thenN ?_
    refine GC.ret ?_
    refine GC.ret2 rfl (Rv.cellA rfl T.ag32 T.sz32 (L := _) (i := 2) rfl (vs := [(.int .i64 (((W : Nat) : Int))), (.int .i64 (((H : Nat) : Int))), (.slice (some ⟨xq10, 0, none⟩) (W * H) (W * H))]) rfl rfl) (Rv.tmp rfl) (fun wN HN => ?_)
    have ek : k = W * H := by omega
    rw [ek, pcr_full (by omega)] at HN
    exact HN.ret xq10 trivial rfl (ulS (ulC (ulS (ulS (ulS ulN))))) rfl

set_option maxRecDepth 100000 in
set_option maxHeartbeats 1000000 in
theorem ref_paste_inv (W H : Int) (ad : Option Addr) (n cap : Nat) (W2 H2 : Int) (ad2 : Option Addr) (m cap2 : Nat) (X Y : Int) (w : World) (hc : chk W H n ≠ 0) :
    Calls Try.prog 28 #[(.agg #[(.int .i64 W), (.int .i64 H), (.slice ad n cap)]), (.agg #[(.int .i64 W2), (.int .i64 H2), (.slice ad2 m cap2)]), (.int .i64 X), (.int .i64 Y)] w (Ret w (fun _ : Unit => True) (fun _ => .tuple #[(.agg #[(.int .i64 0), (.int .i64 0), (.slice none 0 0)]), .int .i64 ((chk W H n))]) (fun _ => [])) := by
  refine enter (M := None) (L := []) (n := 69) (l := [(0, (.agg #[(.int .i64 W), (.int .i64 H), (.slice ad n cap)])), (1, (.agg #[(.int .i64 W2), (.int .i64 H2), (.slice ad2 m cap2)])), (2, (.int .i64 X)), (3, (.int .i64 Y))]) Try.func28 rfl rfl (Args.cons rfl (Args.cons rfl (Args.cons rfl (Args.cons rfl (Args.nil _))))) (Hp.start _ _) ?_
  refine GC.seq ?_
  refine GC.region ?_
  refine GL.step (Stp.box (cs := [(.int .i64 W), (.int .i64 H), (.slice ad n cap)]) rfl rfl (by decide)) (fun bq1 _ => ?_)
  refine GL.step (Stp.box (cs := [(.int .i64 W2), (.int .i64 H2), (.slice ad2 m cap2)]) rfl rfl (by decide)) (fun bq2 _ => ?_)
  refine GL.step (Stp.alloc T.zr32 (by decide)) (fun bq3 _ => ?_)
  refine GL.val (Ex.assign rfl) (by decide) ?_
  refine GL.nil ?_
  refine GE.thenN ?_
  refine GC.seq ?_
  refine GC.region ?_
  refine GL.val (v := (.agg #[(.int .i64 W), (.int .i64 H), (.slice ad n cap)])) (Ex.loadA rfl T.ag32 T.sz32 (i := 2) rfl (vs := [(.int .i64 W), (.int .i64 H), (.slice ad n cap)]) rfl rfl) (by decide) ?_
  refine GL.step (Stp.callR (vs := [(.agg #[(.int .i64 W), (.int .i64 H), (.slice ad n cap)])]) rfl rfl T.own35 (by decide) (fun wc hw => ref_check W H ad n cap wc)) (fun xq4 hq5 => ?_)
  refine GL.val (Ex.assign rfl) (by decide) ?_
  refine GL.nil ?_
  refine GE.thenN ?_
  refine GC.seq ?_
  refine GC.seq ?_
  refine GC.region ?_
  refine GL.val (Ex.move rfl) (by decide) ?_
  refine GL.val (v := (.bool (decide ((chk W H n) ≠ 0)))) (Ex.neq rfl rfl) (by decide) ?_
  refine GL.nil ?_
  refine GE.thenN ?_
  refine GC.cond rfl (fun _ => ?_) (fun hq6 => by exfalso; have hq6 := of_decide_eq_false hq6; omega)
  refine GC.seq ?_
  refine GC.region ?_
  refine GL.val (v := (.agg #[(.int .i64 0), (.int .i64 0), (.slice none 0 0)])) (Ex.build (vs := []) rfl (by first | rfl | kernel_rfl)) (by decide) ?_
  refine GL.val (Ex.move rfl) (by decide) ?_
  refine GL.step (Stp.st0 (cs' := [(.int .i64 0), (.int .i64 0), (.slice none 0 0)]) rfl rfl rfl T.sz32 rfl rfl rfl) (fun _ _ => ?_)
  refine GL.val (Ex.assign rfl) (by decide) ?_
  refine GL.nil ?_
  refine GE.thenN ?_
  refine GC.ret ?_
  refine GE.thenR ?_
  refine GC.ret2 rfl (Rv.cellA rfl T.ag32 T.sz32 (L := _) (i := 0) rfl (vs := [(.int .i64 0), (.int .i64 0), (.slice none 0 0)]) rfl rfl) (Rv.tmp rfl) (fun wN HN => ?_)
  exact HN.ret () trivial rfl (List.nil_sublist _) rfl

set_option maxRecDepth 100000 in
set_option maxHeartbeats 1000000 in
theorem ref_paste_inv2 (W H : Int) (ad : Option Addr) (n cap : Nat) (W2 H2 : Int) (ad2 : Option Addr) (m cap2 : Nat) (X Y : Int) (w : World) (hc : chk W H n = 0) (hc2 : chk W2 H2 m ≠ 0) :
    Calls Try.prog 28 #[(.agg #[(.int .i64 W), (.int .i64 H), (.slice ad n cap)]), (.agg #[(.int .i64 W2), (.int .i64 H2), (.slice ad2 m cap2)]), (.int .i64 X), (.int .i64 Y)] w (Ret w (fun _ : Unit => True) (fun _ => .tuple #[(.agg #[(.int .i64 0), (.int .i64 0), (.slice none 0 0)]), .int .i64 ((chk W2 H2 m))]) (fun _ => [])) := by
  refine enter (M := None) (L := []) (n := 69) (l := [(0, (.agg #[(.int .i64 W), (.int .i64 H), (.slice ad n cap)])), (1, (.agg #[(.int .i64 W2), (.int .i64 H2), (.slice ad2 m cap2)])), (2, (.int .i64 X)), (3, (.int .i64 Y))]) Try.func28 rfl rfl (Args.cons rfl (Args.cons rfl (Args.cons rfl (Args.cons rfl (Args.nil _))))) (Hp.start _ _) ?_
  refine GC.seq ?_
  refine GC.region ?_
  refine GL.step (Stp.box (cs := [(.int .i64 W), (.int .i64 H), (.slice ad n cap)]) rfl rfl (by decide)) (fun bq1 _ => ?_)
  refine GL.step (Stp.box (cs := [(.int .i64 W2), (.int .i64 H2), (.slice ad2 m cap2)]) rfl rfl (by decide)) (fun bq2 _ => ?_)
  refine GL.step (Stp.alloc T.zr32 (by decide)) (fun bq3 _ => ?_)
  refine GL.val (Ex.assign rfl) (by decide) ?_
  refine GL.nil ?_
  refine GE.thenN ?_
  refine GC.seq ?_
  refine GC.region ?_
  refine GL.val (v := (.agg #[(.int .i64 W), (.int .i64 H), (.slice ad n cap)])) (Ex.loadA rfl T.ag32 T.sz32 (i := 2) rfl (vs := [(.int .i64 W), (.int .i64 H), (.slice ad n cap)]) rfl rfl) (by decide) ?_
  refine GL.step (Stp.callR (vs := [(.agg #[(.int .i64 W), (.int .i64 H), (.slice ad n cap)])]) rfl rfl T.own35 (by decide) (fun wc hw => ref_check W H ad n cap wc)) (fun xq4 hq5 => ?_)
  refine GL.val (Ex.assign rfl) (by decide) ?_
  refine GL.nil ?_
  refine GE.thenN ?_
  refine GC.seq ?_
  refine GC.seq ?_
  refine GC.region ?_
  refine GL.val (Ex.move rfl) (by decide) ?_
  refine GL.val (v := (.bool (decide ((chk W H n) ≠ 0)))) (Ex.neq rfl rfl) (by decide) ?_
  refine GL.nil ?_
  refine GE.thenN ?_
  refine GC.cond rfl (fun hq6 => by exfalso; have hq6 := of_decide_eq_true hq6; omega) (fun _ => ?_)
  refine GC.skip ?_
  refine GE.thenN ?_
  refine GC.seq ?_
  refine GC.region ?_
  refine GL.val (v := (.agg #[(.int .i64 W2), (.int .i64 H2), (.slice ad2 m cap2)])) (Ex.loadA rfl T.ag32 T.sz32 (i := 1) rfl (vs := [(.int .i64 W2), (.int .i64 H2), (.slice ad2 m cap2)]) rfl rfl) (by decide) ?_
  refine GL.step (Stp.callR (vs := [(.agg #[(.int .i64 W2), (.int .i64 H2), (.slice ad2 m cap2)])]) rfl rfl T.own35 (by decide) (fun wc hw => ref_check W2 H2 ad2 m cap2 wc)) (fun xq7 hq8 => ?_)
  refine GL.val (Ex.assign rfl) (by decide) ?_
  refine GL.nil ?_
  refine GE.thenN ?_
  refine GC.seq ?_
  refine GC.seq ?_
  refine GC.region ?_
  refine GL.val (Ex.move rfl) (by decide) ?_
  refine GL.val (v := (.bool (decide ((chk W2 H2 m) ≠ 0)))) (Ex.neq rfl rfl) (by decide) ?_
  refine GL.nil ?_
  refine GE.thenN ?_
  refine GC.cond rfl (fun _ => ?_) (fun hq9 => by exfalso; have hq9 := of_decide_eq_false hq9; omega)
  refine GC.seq ?_
  refine GC.region ?_
  refine GL.val (v := (.agg #[(.int .i64 0), (.int .i64 0), (.slice none 0 0)])) (Ex.build (vs := []) rfl (by first | rfl | kernel_rfl)) (by decide) ?_
  refine GL.val (Ex.move rfl) (by decide) ?_
  refine GL.step (Stp.st0 (cs' := [(.int .i64 0), (.int .i64 0), (.slice none 0 0)]) rfl rfl rfl T.sz32 rfl rfl rfl) (fun _ _ => ?_)
  refine GL.val (Ex.assign rfl) (by decide) ?_
  refine GL.nil ?_
  refine GE.thenN ?_
  refine GC.ret ?_
  refine GE.thenR ?_
  refine GC.ret2 rfl (Rv.cellA rfl T.ag32 T.sz32 (L := _) (i := 0) rfl (vs := [(.int .i64 0), (.int .i64 0), (.slice none 0 0)]) rfl rfl) (Rv.tmp rfl) (fun wN HN => ?_)
  exact HN.ret () trivial rfl (List.nil_sublist _) rfl

set_option maxRecDepth 100000 in
set_option maxHeartbeats 1000000 in
theorem ref_turn (W H n cap b o : Nat) (xs : List Int) (q : Int) (r : Nat) (w : World) (hok : okP W H) (hn : n = W * H) (hx : xs.length = n) (hr : Rd w b o (xs.map u32)) (hr4 : r < 4) (hq : rst q 4 = (r : Int)) :
    Calls Try.prog 34 #[(.agg #[(.int .i64 (((W : Nat) : Int))), (.int .i64 (((H : Nat) : Int))), (.slice (some ⟨b, o, none⟩) n cap)]), (.int .i64 q)] w (Ret w (fun _ : Nat => True) (fun rz0 => .tuple #[(.agg #[(.int .i64 ((((tW r W H) : Nat) : Int))), (.int .i64 ((((tH r W H) : Nat) : Int))), (.slice (some ⟨rz0, 0, none⟩) ((tW r W H) * (tH r W H)) ((tW r W H) * (tH r W H)))]), .int .i64 0]) (fun rz0 => [⟨rz0, (trn r xs W H).map u32, 72, true⟩])) := by
  have hW := hok.1
  have hH := hok.2.1
  have hW2 := hok.2.2.1
  have hH2 := hok.2.2.2.1
  have hA := hok.2.2.2.2
  have hb := tmod_bd q (show (1 : Int) ≤ 4 by decide)
  refine enter (M := None) (L := []) (n := 59) (l := [(0, (.agg #[(.int .i64 (((W : Nat) : Int))), (.int .i64 (((H : Nat) : Int))), (.slice (some ⟨b, o, none⟩) n cap)])), (1, (.int .i64 q))]) Try.func34 rfl rfl (Args.cons rfl (Args.cons rfl (Args.nil _))) (Hp.start _ _) ?_
  refine GC.seq ?_
  refine GC.region ?_
  refine GL.step (Stp.box (cs := [(.int .i64 (((W : Nat) : Int))), (.int .i64 (((H : Nat) : Int))), (.slice (some ⟨b, o, none⟩) n cap)]) rfl rfl (by decide)) (fun bq1 _ => ?_)
  refine GL.step (Stp.alloc T.zr32 (by decide)) (fun bq2 _ => ?_)
  refine GL.val (Ex.assign rfl) (by decide) ?_
  refine GL.nil ?_
  refine GE.thenN ?_
  refine GC.seq ?_
  refine GC.region ?_
  refine GL.val (v := (.agg #[(.int .i64 (((W : Nat) : Int))), (.int .i64 (((H : Nat) : Int))), (.slice (some ⟨b, o, none⟩) n cap)])) (Ex.loadA rfl T.ag32 T.sz32 (i := 1) rfl (vs := [(.int .i64 (((W : Nat) : Int))), (.int .i64 (((H : Nat) : Int))), (.slice (some ⟨b, o, none⟩) n cap)]) rfl rfl) (by decide) ?_
  refine GL.step (Stp.callR (σ := Unit) (p := fun rz => True) (v := fun rz => (.int .i64 0)) (N := fun rz => []) (vs := [(.agg #[(.int .i64 (((W : Nat) : Int))), (.int .i64 (((H : Nat) : Int))), (.slice (some ⟨b, o, none⟩) n cap)])]) rfl rfl T.own35 (by decide) (fun wc hw => (by have h := ref_check (((W : Nat) : Int)) (((H : Nat) : Int)) (some ⟨b, o, none⟩) n cap wc; rw [show chk (((W : Nat) : Int)) (((H : Nat) : Int)) n = 0 from by rw [hn]; exact chk_ok hok] at h; exact h))) (fun xq3 hq4 => ?_)
  refine GL.val (Ex.assign rfl) (by decide) ?_
  refine GL.nil ?_
  refine GE.thenN ?_
  refine GC.seq ?_
  refine GC.seq ?_
  refine GC.region ?_
  refine GL.val (Ex.move rfl) (by decide) ?_
  refine GL.val (v := (.bool false)) (Ex.cast (Ex.neq rfl rfl) rfl) (by decide) ?_
  refine GL.nil ?_
  refine GE.thenN ?_
  refine GC.cond rfl (fun hq5 => by cases hq5) (fun _ => ?_)
  refine GC.skip ?_
  refine GE.thenN ?_
  refine GC.seq ?_
  refine GC.region ?_
  refine GL.val (v := (.agg #[(.int .i64 (((W : Nat) : Int))), (.int .i64 (((H : Nat) : Int))), (.slice (some ⟨b, o, none⟩) n cap)])) (Ex.loadA rfl T.ag32 T.sz32 (i := 1) rfl (vs := [(.int .i64 (((W : Nat) : Int))), (.int .i64 (((H : Nat) : Int))), (.slice (some ⟨b, o, none⟩) n cap)]) rfl rfl) (by decide) ?_
  refine GL.step (Stp.callR (vs := [(.agg #[(.int .i64 (((W : Nat) : Int))), (.int .i64 (((H : Nat) : Int))), (.slice (some ⟨b, o, none⟩) n cap)])]) rfl rfl T.own61 (by decide) (fun wc hw => ref_copy W H n cap b o xs wc hok hn hx (hw.rd hr (fun x => x)))) (fun xq6 hq7 => ?_)
  refine GL.step (Stp.alloc T.zr32 (by decide)) (fun bq8 _ => ?_)
  refine GL.step (Stp.st0 (cs' := [(.int .i64 (((W : Nat) : Int))), (.int .i64 (((H : Nat) : Int))), (.slice (some ⟨xq6, 0, none⟩) (W * H) (W * H))]) rfl rfl rfl T.sz32 rfl rfl rfl) (fun _ _ => ?_)
  refine GL.nil ?_
  refine GE.thenN ?_
  refine GC.seq ?_
  refine GC.seq ?_
  have hx' : xs.length = W * H := by rw [hx, hn]
  rw [show xs.map u32 = (trn 0 xs W H).map u32 from by rw [trn_zero hx']]
  refine GC.pick (idx := [1, 0, 2, 3]) (by decide) rfl ?_
  refine GC.region ?_
  refine GL.val (Ex.move rfl) (by decide) ?_
  refine GL.val (v := (.int .i64 (q.tmod 4))) (Ex.rem rfl rfl (Z := q.tmod 4) (by decide) rfl) (by decide) ?_
  refine GL.val (v := (.int .i64 ((q.tmod 4) + 4))) (Ex.add rfl rfl (Z := (q.tmod 4) + 4) (w64 (by omega))) (by decide) ?_
  refine GL.val (v := (.int .i64 (((r : Nat) : Int)))) (Ex.rem rfl rfl (Z := ((r : Nat) : Int)) (by decide) hq) (by decide) ?_
  refine GL.val (Ex.assign rfl) (by decide) ?_
  refine GL.nil ?_
  refine GE.thenN ?_
  refine GC.block ?_
  refine GC.loop (σ := Nat × Nat) (fun jq => jq.1 ≤ r) (fun jq => [(0, (.agg #[(.int .i64 (((W : Nat) : Int))), (.int .i64 (((H : Nat) : Int))), (.slice (some ⟨b, o, none⟩) n cap)])), (1, (.int .i64 q)), (2, (.pointer (some ⟨bq1, 0, none⟩))), (4, (.pointer (some ⟨bq2, 0, none⟩))), (5, (.int .i64 0)), (6, (.int .i64 0)), (7, (.pointer (some ⟨bq8, 0, none⟩))), (8, (.int .i64 (((r - jq.1 : Nat) : Int))))]) (fun jq => [⟨jq.2, (trn jq.1 xs W H).map u32, 72, true⟩, ⟨bq8, [(.int .i64 (((tW jq.1 W H : Nat) : Int))), (.int .i64 (((tH jq.1 W H : Nat) : Int))), (.slice (some ⟨jq.2, 0, none⟩) (tW jq.1 W H * tH jq.1 W H) (tW jq.1 W H * tH jq.1 W H))], 32, true⟩, ⟨bq2, [(.int .i64 0), (.int .i64 0), (.slice none 0 0)], 32, true⟩, ⟨bq1, [(.int .i64 (((W : Nat) : Int))), (.int .i64 (((H : Nat) : Int))), (.slice (some ⟨b, o, none⟩) n cap)], 32, true⟩]) (fun jq => r - jq.1) ((0, xq6)) (Nat.zero_le _) ((sub_cons rfl ((sub_cons rfl ((sub_cons rfl ((sub_cons rfl ((sub_cons rfl ((sub_cons rfl ((sub_cons rfl ((sub_cons rfl ((sub_nil _)))))))))))))))))) (ulC (ulC (ulC (ulC ulN)))) (fun jq hp => ?_)
  obtain ⟨j, qb⟩ := jq
  refine GC.seq ?_
  refine GC.seq ?_
  refine GC.region ?_
  refine GL.val (Ex.move rfl) (by decide) ?_
  refine GL.val (v := (.bool (decide (0 < (((r - j : Nat) : Int)))))) (Ex.gtr rfl rfl) (by decide) ?_
  refine GL.nil ?_
  refine GE.thenN ?_
  refine GC.cond rfl (fun hq9 => ?_) (fun hq9 => ?_)
  · replace hq9 := of_decide_eq_true hq9
    refine GC.skip ?_
    refine GE.thenN ?_
    refine GC.seq ?_
    refine GC.block ?_
    refine GC.seq ?_
    have hj : j < r := by omega
    have ts := trn_step (xs := xs) (W := W) (H := H) (j := j) (by omega)
    have ht := okP.turn hok j
    have a1 := ht.1
    have a2 := ht.2.1
    have a3 := ht.2.2.1
    have a4 := ht.2.2.2.1
    have a5 := ht.2.2.2.2
    have a6 : tH j W H * tW j W H ≤ 65536 := by rw [Nat.mul_comm]; exact a5
    refine GC.region ?_
    refine GL.val (v := (.pointer (some ⟨bq8, 1, none⟩))) (Ex.cast (Ex.fieldAddr rfl Try.underlying32 rfl T.sz3 (by decide)) rfl) (by decide) ?_
    refine GL.val (Ex.load rfl T.ag3 (i := 1) rfl rfl) (by decide) ?_
    refine GL.val (v := (.pointer (some ⟨bq8, 0, none⟩))) (Ex.cast (Ex.fieldAddr rfl Try.underlying32 rfl T.sz3 (by decide)) rfl) (by decide) ?_
    refine GL.val (Ex.load rfl T.ag3 (i := 1) rfl rfl) (by decide) ?_
    refine GL.step (Stp.callR (vs := [(.int .i64 (((tH j W H : Nat) : Int))), (.int .i64 (((tW j W H : Nat) : Int)))]) rfl rfl T.own48 (by decide) (fun wc hw => ref_blank (tH j W H) (tW j W H) wc (by first | omega | (rw [Nat.mul_comm]; omega)))) (fun xq10 hq11 => ?_)
    refine GL.step (Stp.alloc T.zr32 (by decide)) (fun bq12 _ => ?_)
    refine GL.step (Stp.st0 (cs' := [(.int .i64 ((((tH j W H) : Nat) : Int))), (.int .i64 ((((tW j W H) : Nat) : Int))), (.slice (some ⟨xq10, 0, none⟩) ((tH j W H) * (tW j W H)) ((tH j W H) * (tW j W H)))]) rfl rfl rfl T.sz32 rfl rfl rfl) (fun _ _ => ?_)
    refine GL.nil ?_
    refine GE.thenN ?_
    refine GC.seq ?_
    refine GC.seq ?_
    rw [show List.replicate (tH j W H * tW j W H) (Value.int .u32 0) = cur (tH j W H) (fun x y => smp (trn j xs W H) (tW j W H) y (tH j W H - 1 - x)) (tH j W H * tW j W H) 0 from (cur_zero _ _ _).symm]
    refine GC.region ?_
    refine GL.val (Ex.assign rfl) (by decide) ?_
    refine GL.nil ?_
    refine GE.thenN ?_
    refine GC.block ?_
    refine GC.loop (σ := Nat) (fun k => k ≤ tH j W H * tW j W H) (fun k => [(0, (.agg #[(.int .i64 (((W : Nat) : Int))), (.int .i64 (((H : Nat) : Int))), (.slice (some ⟨b, o, none⟩) n cap)])), (1, (.int .i64 q)), (2, (.pointer (some ⟨bq1, 0, none⟩))), (4, (.pointer (some ⟨bq2, 0, none⟩))), (5, (.int .i64 0)), (6, (.int .i64 0)), (7, (.pointer (some ⟨bq8, 0, none⟩))), (8, (.int .i64 (((r - j : Nat) : Int)))), (9, (.pointer (some ⟨bq12, 0, none⟩))), (10, (.int .i64 (((k : Nat) : Int))))]) (fun k => [⟨bq12, [(.int .i64 ((((tH j W H) : Nat) : Int))), (.int .i64 ((((tW j W H) : Nat) : Int))), (.slice (some ⟨xq10, 0, none⟩) ((tH j W H) * (tW j W H)) ((tH j W H) * (tW j W H)))], 32, true⟩, ⟨xq10, cur (tH j W H) (fun x y => smp (trn j xs W H) (tW j W H) y (tH j W H - 1 - x)) (tH j W H * tW j W H) k, 72, true⟩, ⟨qb, (trn j xs W H).map u32, 72, true⟩, ⟨bq8, [(.int .i64 (((tW j W H : Nat) : Int))), (.int .i64 (((tH j W H : Nat) : Int))), (.slice (some ⟨qb, 0, none⟩) (tW j W H * tH j W H) (tW j W H * tH j W H))], 32, true⟩, ⟨bq2, [(.int .i64 0), (.int .i64 0), (.slice none 0 0)], 32, true⟩, ⟨bq1, [(.int .i64 (((W : Nat) : Int))), (.int .i64 (((H : Nat) : Int))), (.slice (some ⟨b, o, none⟩) n cap)], 32, true⟩]) (fun k => tH j W H * tW j W H - k) (0) (Nat.zero_le _) ((sub_cons rfl ((sub_cons rfl ((sub_cons rfl ((sub_cons rfl ((sub_cons rfl ((sub_cons rfl ((sub_cons rfl ((sub_cons rfl ((sub_cons rfl ((sub_cons rfl ((sub_nil _)))))))))))))))))))))) (ulC (ulC (ulC (ulC (ulC (ulC ulN)))))) (fun k hp => ?_)
    refine GC.seq ?_
    refine GC.seq ?_
    refine GC.region ?_
    refine GL.val (Ex.move rfl) (by decide) ?_
    refine GL.val (v := (.pointer (some ⟨bq12, 2, none⟩))) (Ex.cast (Ex.fieldAddr rfl Try.underlying32 rfl T.sz30 (by decide)) rfl) (by decide) ?_
    refine GL.val (Ex.load rfl T.ag30 (i := 0) rfl rfl) (by decide) ?_
    refine GL.val (v := (.int .i64 ((((tH j W H) * (tW j W H) : Nat) : Int)))) (Ex.len rfl Try.underlying30) (by decide) ?_
    refine GL.val (v := (.bool (decide ((((k : Nat) : Int)) < ((((tH j W H) * (tW j W H) : Nat) : Int)))))) (Ex.lss rfl rfl) (by decide) ?_
    refine GL.nil ?_
    refine GE.thenN ?_
    refine GC.cond rfl (fun hq13 => ?_) (fun hq13 => ?_)
    · replace hq13 := of_decide_eq_true hq13
      refine GC.skip ?_
      refine GE.thenN ?_
      refine GC.seq ?_
      refine GC.block ?_
      have hkx : k % (tH j W H) < tH j W H := Nat.mod_lt _ (by omega)
      have hky : k / (tH j W H) < tW j W H := Nat.div_lt_of_lt_mul (by omega)
      have hkx0 : (0 : Int) ≤ ((k % (tH j W H) : Nat) : Int) := Int.natCast_nonneg _
      have hky0 : (0 : Int) ≤ ((k / (tH j W H) : Nat) : Int) := Int.natCast_nonneg _
      refine GC.drawP [⟨bq12, [(.int .i64 ((((tH j W H) : Nat) : Int))), (.int .i64 ((((tW j W H) : Nat) : Int))), (.slice (some ⟨xq10, 0, none⟩) ((tH j W H) * (tW j W H)) ((tH j W H) * (tW j W H)))], 32, true⟩, ⟨qb, (trn j xs W H).map u32, 72, true⟩, ⟨bq8, [(.int .i64 (((tW j W H : Nat) : Int))), (.int .i64 (((tH j W H : Nat) : Int))), (.slice (some ⟨qb, 0, none⟩) (tW j W H * tH j W H) (tW j W H * tH j W H))], 32, true⟩, ⟨bq2, [(.int .i64 0), (.int .i64 0), (.slice none 0 0)], 32, true⟩, ⟨bq1, [(.int .i64 (((W : Nat) : Int))), (.int .i64 (((H : Nat) : Int))), (.slice (some ⟨b, o, none⟩) n cap)], 32, true⟩] T.mixed (by kernel_rfl) (by kernel_rfl) (fuel := 18) rfl rfl ?_
      refine GH.take 0 (v := (.pointer (some ⟨bq12, 2, none⟩))) rfl (by kernel_rfl) (by kernel_rfl) (by kernel_rfl) (fun _ _ _ h => h) (Ex.cast (Ex.fieldAddr rfl Try.underlying32 rfl T.sz30 (by decide)) rfl) (ulC (ulS (ulC (ulC (ulC (ulC ulN)))))) (by decide) ?_
      refine GH.take 1 (v := (.slice (some ⟨xq10, 0, none⟩) ((tH j W H) * (tW j W H)) ((tH j W H) * (tW j W H)))) rfl (by kernel_rfl) (by kernel_rfl) (by kernel_rfl) (fun _ _ _ h => h) (Ex.load rfl T.ag30 (i := 0) rfl rfl) (ulC (ulS (ulC (ulC (ulC (ulC ulN)))))) (by decide) ?_
      refine GH.take 2 (v := (.int .i64 (((k : Nat) : Int)))) rfl (by kernel_rfl) (by kernel_rfl) (by kernel_rfl) (fun _ _ _ h => h) (Ex.move rfl) (ulC (ulS (ulC (ulC (ulC (ulC ulN)))))) (by decide) ?_
      refine GH.take 3 (v := (.agg #[(.int .i64 (((tW j W H : Nat) : Int))), (.int .i64 (((tH j W H : Nat) : Int))), (.slice (some ⟨qb, 0, none⟩) (tW j W H * tH j W H) (tW j W H * tH j W H))])) rfl (by kernel_rfl) (by kernel_rfl) (by kernel_rfl) (fun _ _ _ h => h) (Ex.loadA rfl T.ag32 T.sz32 (i := 2) rfl (vs := [(.int .i64 (((tW j W H : Nat) : Int))), (.int .i64 (((tH j W H : Nat) : Int))), (.slice (some ⟨qb, 0, none⟩) (tW j W H * tH j W H) (tW j W H * tH j W H))]) rfl rfl) (ulC (ulS (ulC (ulC (ulC (ulC ulN)))))) (by decide) ?_
      refine GH.take 4 (v := (.int .i64 (((k : Nat) : Int)))) rfl (by kernel_rfl) (by kernel_rfl) (by kernel_rfl) (fun _ _ _ h => h) (Ex.move rfl) (ulC (ulS (ulC (ulC (ulC (ulC ulN)))))) (by decide) ?_
      refine GH.take 5 (v := (.pointer (some ⟨bq12, 0, none⟩))) rfl (by kernel_rfl) (by kernel_rfl) (by kernel_rfl) (fun _ _ _ h => h) (Ex.cast (Ex.fieldAddr rfl Try.underlying32 rfl T.sz3 (by decide)) rfl) (ulC (ulS (ulC (ulC (ulC (ulC ulN)))))) (by decide) ?_
      refine GH.take 6 (v := (.int .i64 ((((tH j W H) : Nat) : Int)))) rfl (by kernel_rfl) (by kernel_rfl) (by kernel_rfl) (fun _ _ _ h => h) (Ex.load rfl T.ag3 (i := 0) rfl rfl) (ulC (ulS (ulC (ulC (ulC (ulC ulN)))))) (by decide) ?_
      refine GH.take 7 (v := (.int .i64 (((k / (tH j W H) : Nat) : Int)))) rfl (by kernel_rfl) (by kernel_rfl) (by kernel_rfl) (fun _ _ _ h => h) (Ex.quo rfl rfl (Z := ((k / (tH j W H) : Nat) : Int)) (by omega) (quoN (by omega))) (ulC (ulS (ulC (ulC (ulC (ulC ulN)))))) (by decide) ?_
      refine GH.take 8 (v := (.pointer (some ⟨bq8, 1, none⟩))) rfl (by kernel_rfl) (by kernel_rfl) (by kernel_rfl) (fun _ _ _ h => h) (Ex.cast (Ex.fieldAddr rfl Try.underlying32 rfl T.sz3 (by decide)) rfl) (ulC (ulS (ulC (ulC (ulC (ulC ulN)))))) (by decide) ?_
      refine GH.take 9 (v := (.int .i64 (((tH j W H : Nat) : Int)))) rfl (by kernel_rfl) (by kernel_rfl) (by kernel_rfl) (fun _ _ _ h => h) (Ex.load rfl T.ag3 (i := 2) rfl rfl) (ulC (ulS (ulC (ulC (ulC (ulC ulN)))))) (by decide) ?_
      refine GH.take 10 (v := (.int .i64 (((tH j W H - 1 : Nat) : Int)))) rfl (by kernel_rfl) (by kernel_rfl) (by kernel_rfl) (fun _ _ _ h => h) (Ex.sub' rfl rfl (Z := ((tH j W H - 1 : Nat) : Int)) (subN (b := 1) (by omega) (by omega))) (ulC (ulS (ulC (ulC (ulC (ulC ulN)))))) (by decide) ?_
      refine GH.take 11 (v := (.int .i64 (((k : Nat) : Int)))) rfl (by kernel_rfl) (by kernel_rfl) (by kernel_rfl) (fun _ _ _ h => h) (Ex.move rfl) (ulC (ulS (ulC (ulC (ulC (ulC ulN)))))) (by decide) ?_
      refine GH.take 12 (v := (.pointer (some ⟨bq12, 0, none⟩))) rfl (by kernel_rfl) (by kernel_rfl) (by kernel_rfl) (fun _ _ _ h => h) (Ex.cast (Ex.fieldAddr rfl Try.underlying32 rfl T.sz3 (by decide)) rfl) (ulC (ulS (ulC (ulC (ulC (ulC ulN)))))) (by decide) ?_
      refine GH.take 13 (v := (.int .i64 ((((tH j W H) : Nat) : Int)))) rfl (by kernel_rfl) (by kernel_rfl) (by kernel_rfl) (fun _ _ _ h => h) (Ex.load rfl T.ag3 (i := 0) rfl rfl) (ulC (ulS (ulC (ulC (ulC (ulC ulN)))))) (by decide) ?_
      refine GH.take 14 (v := (.int .i64 (((k % (tH j W H) : Nat) : Int)))) rfl (by kernel_rfl) (by kernel_rfl) (by kernel_rfl) (fun _ _ _ h => h) (Ex.rem rfl rfl (Z := ((k % (tH j W H) : Nat) : Int)) (by omega) rfl) (ulC (ulS (ulC (ulC (ulC (ulC ulN)))))) (by decide) ?_
      refine GH.take 15 (v := (.int .i64 (((tH j W H - 1 - k % (tH j W H) : Nat) : Int)))) rfl (by kernel_rfl) (by kernel_rfl) (by kernel_rfl) (fun _ _ _ h => h) (Ex.sub' rfl rfl (Z := ((tH j W H - 1 - k % (tH j W H) : Nat) : Int)) (subN (by omega) (by omega))) (ulC (ulS (ulC (ulC (ulC (ulC ulN)))))) (by decide) ?_
      refine GH.one 16 rfl (by kernel_rfl) (Stp.callR (vs := [(.agg #[(.int .i64 (((tW j W H : Nat) : Int))), (.int .i64 (((tH j W H : Nat) : Int))), (.slice (some ⟨qb, 0, none⟩) (tW j W H * tH j W H) (tW j W H * tH j W H))]), (.int .i64 (((k / (tH j W H) : Nat) : Int))), (.int .i64 (((tH j W H - 1 - k % (tH j W H) : Nat) : Int)))]) rfl rfl T.own49 (by decide) (fun wc hw => ref_at (tW j W H) (tW j W H * tH j W H) (tW j W H * tH j W H) qb 0 (k / (tH j W H)) (tH j W H - 1 - k % (tH j W H)) (((tH j W H : Nat) : Int)) (trn j xs W H) wc (by have h := place_lt (W := tW j W H) (H := tH j W H) (x := (k / (tH j W H))) (y := (tH j W H - 1 - k % (tH j W H))) (by omega) (by omega); omega) (by omega) (trn_len (by omega)) (hw.rdOf (i := 2) rfl 0))) (fun _ => (ulC (ulS (ulC (ulC (ulC (ulC ulN))))))) (fun xq14 hq15 => ?_)
      refine GH.take 17 (v := (.pointer (some ⟨xq10, k, none⟩))) rfl (by kernel_rfl) (by kernel_rfl) (by kernel_rfl) (fun _ _ _ h => h) (Ex.cast (Ex.indexAddr rfl rfl Try.underlying30 T.sz72 (by omega) (by omega)) (by simp)) (ulC (ulS (ulC (ulC (ulC (ulC ulN)))))) (by decide) ?_
      refine GH.done (by kernel_rfl) ?_
      refine GE.thenN ?_
      refine GE.tail rfl (Stp.storeL (i := 1) (cs := cur (tH j W H) (fun x y => smp (trn j xs W H) (tW j W H) y (tH j W H - 1 - x)) (tH j W H * tW j W H) k) (vs := [(.int .u32 (smp (trn j xs W H) (tW j W H) (k / (tH j W H)) (tH j W H - 1 - k % (tH j W H))))]) (o := k) (L1 := [⟨bq12, [(.int .i64 ((((tH j W H) : Nat) : Int))), (.int .i64 ((((tW j W H) : Nat) : Int))), (.slice (some ⟨xq10, 0, none⟩) ((tH j W H) * (tW j W H)) ((tH j W H) * (tW j W H)))], 32, true⟩, ⟨xq10, cur (tH j W H) (fun x y => smp (trn j xs W H) (tW j W H) y (tH j W H - 1 - x)) (tH j W H * tW j W H) (k + 1), 72, true⟩, ⟨qb, (trn j xs W H).map u32, 72, true⟩, ⟨bq8, [(.int .i64 (((tW j W H : Nat) : Int))), (.int .i64 (((tH j W H : Nat) : Int))), (.slice (some ⟨qb, 0, none⟩) (tW j W H * tH j W H) (tW j W H * tH j W H))], 32, true⟩, ⟨bq2, [(.int .i64 0), (.int .i64 0), (.slice none 0 0)], 32, true⟩, ⟨bq1, [(.int .i64 (((W : Nat) : Int))), (.int .i64 (((H : Nat) : Int))), (.slice (some ⟨b, o, none⟩) n cap)], 32, true⟩]) rfl rfl rfl T.sz72 rfl (Nat.ble_eq_true_of_le (by rw [cur_len _ _ _ _ (by omega)]; simp; omega)) rfl (by rw [cur_app' _ _ _ k _ (by omega) rfl]; rfl)) (fun _ _ => ?_)
      refine GE.blockN ?_
      refine GE.thenN ?_
      refine GC.region ?_
      refine GL.val (Ex.move rfl) (by decide) ?_
      refine GL.val (v := (.int .i64 (((k + 1 : Nat) : Int)))) (Ex.add rfl rfl (Z := ((k + 1 : Nat) : Int)) (addN (b := 1) (by omega))) (by decide) ?_
      refine GL.val (Ex.assign rfl) (by decide) ?_
      refine GL.nil ?_
      refine GE.thenN ?_
      exact Head.mk (k + 1) (by omega) (by omega) ((sub_cons rfl ((sub_cons rfl ((sub_cons rfl ((sub_cons rfl ((sub_cons rfl ((sub_cons rfl ((sub_cons rfl ((sub_cons rfl ((sub_cons rfl ((sub_cons rfl ((sub_nil _)))))))))))))))))))))) (ulC (ulC (ulC (ulC (ulC (ulC ulN))))))
    · replace hq13 := of_decide_eq_false hq13
      refine GC.exit ?_
      refine GE.thenE ?_
      refine GE.thenE ?_
      refine GE.blockE ?_
      refine GE.thenN ?_
      have ek : k = tH j W H * tW j W H := by omega
      rw [ek, cur_full]
      refine GC.region ?_
      refine GL.val (v := (.agg #[(.int .i64 ((((tH j W H) : Nat) : Int))), (.int .i64 ((((tW j W H) : Nat) : Int))), (.slice (some ⟨xq10, 0, none⟩) ((tH j W H) * (tW j W H)) ((tH j W H) * (tW j W H)))])) (Ex.loadA rfl T.ag32 T.sz32 (i := 0) rfl (vs := [(.int .i64 ((((tH j W H) : Nat) : Int))), (.int .i64 ((((tW j W H) : Nat) : Int))), (.slice (some ⟨xq10, 0, none⟩) ((tH j W H) * (tW j W H)) ((tH j W H) * (tW j W H)))]) rfl rfl) (by decide) ?_
      refine GL.step (Stp.st3 (cs' := [(.int .i64 ((((tH j W H) : Nat) : Int))), (.int .i64 ((((tW j W H) : Nat) : Int))), (.slice (some ⟨xq10, 0, none⟩) ((tH j W H) * (tW j W H)) ((tH j W H) * (tW j W H)))]) rfl rfl rfl T.sz32 rfl rfl rfl) (fun _ _ => ?_)
      refine GL.nil ?_
      refine GE.blockN ?_
      refine GE.thenN ?_
      refine GC.region ?_
      refine GL.val (Ex.move rfl) (by decide) ?_
      refine GL.val (v := (.int .i64 (((r - (j + 1) : Nat) : Int)))) (Ex.sub' rfl rfl (Z := ((r - (j + 1) : Nat) : Int)) (by rw [w64 (by omega)]; omega)) (by decide) ?_
      refine GL.val (Ex.assign rfl) (by decide) ?_
      refine GL.nil ?_
      refine GE.thenN ?_
      have e1 : tH j W H = tW (j + 1) W H := ts.1
      have e2 : tW j W H = tH (j + 1) W H := ts.2.1
      rw [show tab (tH j W H) (fun x y => smp (trn j xs W H) (tW j W H) y (tH j W H - 1 - x)) (tH j W H * tW j W H) = trn (j + 1) xs W H from ts.2.2, e1, e2]
      exact Head.mk ((j + 1, xq10)) (by show j + 1 ≤ r; omega) (by show r - (j + 1) < r - j; omega) ((sub_cons rfl ((sub_cons rfl ((sub_cons rfl ((sub_cons rfl ((sub_cons rfl ((sub_cons rfl ((sub_cons rfl ((sub_cons rfl ((sub_nil _)))))))))))))))))) (ulS (ulC (ulS (ulC (ulC (ulC ulN))))))
  · replace hq9 := of_decide_eq_false hq9
    refine GC.exit ?_
    refine GE.thenE ?_
    refine GE.thenE ?_
    refine GE.blockE ?_
    refine GE.thenN ?_
    refine GC.seq ?_
    refine GC.region ?_
    refine GL.val (v := (.agg #[(.int .i64 (((tW j W H : Nat) : Int))), (.int .i64 (((tH j W H : Nat) : Int))), (.slice (some ⟨qb, 0, none⟩) (tW j W H * tH j W H) (tW j W H * tH j W H))])) (Ex.loadA rfl T.ag32 T.sz32 (i := 1) rfl (vs := [(.int .i64 (((tW j W H : Nat) : Int))), (.int .i64 (((tH j W H : Nat) : Int))), (.slice (some ⟨qb, 0, none⟩) (tW j W H * tH j W H) (tW j W H * tH j W H))]) rfl rfl) (by decide) ?_
    refine GL.step (Stp.st2 (cs' := [(.int .i64 (((tW j W H : Nat) : Int))), (.int .i64 (((tH j W H : Nat) : Int))), (.slice (some ⟨qb, 0, none⟩) (tW j W H * tH j W H) (tW j W H * tH j W H))]) rfl rfl rfl T.sz32 rfl rfl rfl) (fun _ _ => ?_)
    refine GL.val (Ex.assign rfl) (by decide) ?_
    refine GL.nil ?_
    refine GE.thenN ?_
    refine GC.ret ?_
    refine GC.ret2 rfl (Rv.cellA rfl T.ag32 T.sz32 (L := _) (i := 2) rfl (vs := [(.int .i64 (((tW j W H : Nat) : Int))), (.int .i64 (((tH j W H : Nat) : Int))), (.slice (some ⟨qb, 0, none⟩) (tW j W H * tH j W H) (tW j W H * tH j W H))]) rfl rfl) (Rv.tmp rfl) (fun wN HN => ?_)
    have ej : j = r := by omega
    subst ej
    exact HN.ret qb trivial rfl (ulC (ulS (ulS (ulS ulN)))) rfl

set_option maxRecDepth 100000 in
set_option maxHeartbeats 1000000 in
theorem ref_turn_inv (W H : Int) (ad : Option Addr) (n cap : Nat) (q : Int) (w : World) (hc : chk W H n ≠ 0) :
    Calls Try.prog 34 #[(.agg #[(.int .i64 W), (.int .i64 H), (.slice ad n cap)]), (.int .i64 q)] w (Ret w (fun _ : Unit => True) (fun _ => .tuple #[(.agg #[(.int .i64 0), (.int .i64 0), (.slice none 0 0)]), .int .i64 ((chk W H n))]) (fun _ => [])) := by
  refine enter (M := None) (L := []) (n := 59) (l := [(0, (.agg #[(.int .i64 W), (.int .i64 H), (.slice ad n cap)])), (1, (.int .i64 q))]) Try.func34 rfl rfl (Args.cons rfl (Args.cons rfl (Args.nil _))) (Hp.start _ _) ?_
  refine GC.seq ?_
  refine GC.region ?_
  refine GL.step (Stp.box (cs := [(.int .i64 W), (.int .i64 H), (.slice ad n cap)]) rfl rfl (by decide)) (fun bq1 _ => ?_)
  refine GL.step (Stp.alloc T.zr32 (by decide)) (fun bq2 _ => ?_)
  refine GL.val (Ex.assign rfl) (by decide) ?_
  refine GL.nil ?_
  refine GE.thenN ?_
  refine GC.seq ?_
  refine GC.region ?_
  refine GL.val (v := (.agg #[(.int .i64 W), (.int .i64 H), (.slice ad n cap)])) (Ex.loadA rfl T.ag32 T.sz32 (i := 1) rfl (vs := [(.int .i64 W), (.int .i64 H), (.slice ad n cap)]) rfl rfl) (by decide) ?_
  refine GL.step (Stp.callR (vs := [(.agg #[(.int .i64 W), (.int .i64 H), (.slice ad n cap)])]) rfl rfl T.own35 (by decide) (fun wc hw => ref_check W H ad n cap wc)) (fun xq3 hq4 => ?_)
  refine GL.val (Ex.assign rfl) (by decide) ?_
  refine GL.nil ?_
  refine GE.thenN ?_
  refine GC.seq ?_
  refine GC.seq ?_
  refine GC.region ?_
  refine GL.val (Ex.move rfl) (by decide) ?_
  refine GL.val (v := (.bool (decide ((chk W H n) ≠ 0)))) (Ex.neq rfl rfl) (by decide) ?_
  refine GL.nil ?_
  refine GE.thenN ?_
  refine GC.cond rfl (fun _ => ?_) (fun hq5 => by exfalso; have hq5 := of_decide_eq_false hq5; omega)
  refine GC.seq ?_
  refine GC.region ?_
  refine GL.val (v := (.agg #[(.int .i64 0), (.int .i64 0), (.slice none 0 0)])) (Ex.build (vs := []) rfl (by first | rfl | kernel_rfl)) (by decide) ?_
  refine GL.val (Ex.move rfl) (by decide) ?_
  refine GL.step (Stp.st0 (cs' := [(.int .i64 0), (.int .i64 0), (.slice none 0 0)]) rfl rfl rfl T.sz32 rfl rfl rfl) (fun _ _ => ?_)
  refine GL.val (Ex.assign rfl) (by decide) ?_
  refine GL.nil ?_
  refine GE.thenN ?_
  refine GC.ret ?_
  refine GE.thenR ?_
  refine GC.ret2 rfl (Rv.cellA rfl T.ag32 T.sz32 (L := _) (i := 0) rfl (vs := [(.int .i64 0), (.int .i64 0), (.slice none 0 0)]) rfl rfl) (Rv.tmp rfl) (fun wN HN => ?_)
  exact HN.ret () trivial rfl (List.nil_sublist _) rfl

set_option maxRecDepth 100000 in
set_option maxHeartbeats 1000000 in
theorem ref_eq_ne (W1 H1 : Int) (ad1 : Option Addr) (n1 cap1 : Nat) (W2 H2 : Int) (ad2 : Option Addr) (n2 cap2 : Nat) (w : World) (h : n1 ≠ n2 ∨ n1 = 0) :
    Calls Try.prog 26 #[(.agg #[(.int .i64 W1), (.int .i64 H1), (.slice ad1 n1 cap1)]), (.agg #[(.int .i64 W2), (.int .i64 H2), (.slice ad2 n2 cap2)])] w (Ret w (fun _ : Unit => True) (fun _ => .bool (decide (W1 = W2 ∧ H1 = H2 ∧ n1 = n2))) (fun _ => [])) := by
  refine enter (M := None) (L := []) (n := 45) (l := [(0, (.agg #[(.int .i64 W1), (.int .i64 H1), (.slice ad1 n1 cap1)])), (1, (.agg #[(.int .i64 W2), (.int .i64 H2), (.slice ad2 n2 cap2)]))]) Try.func26 rfl rfl (Args.cons rfl (Args.cons rfl (Args.nil _))) (Hp.start _ _) ?_
  refine GC.seq ?_
  refine GC.region ?_
  refine GL.step (Stp.box (cs := [(.int .i64 W1), (.int .i64 H1), (.slice ad1 n1 cap1)]) rfl rfl (by decide)) (fun bq1 _ => ?_)
  refine GL.step (Stp.box (cs := [(.int .i64 W2), (.int .i64 H2), (.slice ad2 n2 cap2)]) rfl rfl (by decide)) (fun bq2 _ => ?_)
  refine GL.val (Ex.assign rfl) (by decide) ?_
  refine GL.nil ?_
  refine GE.thenN ?_
  refine GC.seq ?_
  refine GC.seq ?_
  refine GC.region ?_
  refine GL.val (v := (.pointer (some ⟨bq1, 0, none⟩))) (Ex.cast (Ex.fieldAddr rfl Try.underlying32 rfl T.sz3 (by decide)) rfl) (by decide) ?_
  refine GL.val (Ex.load rfl T.ag3 (i := 1) rfl rfl) (by decide) ?_
  refine GL.val (v := (.pointer (some ⟨bq2, 0, none⟩))) (Ex.cast (Ex.fieldAddr rfl Try.underlying32 rfl T.sz3 (by decide)) rfl) (by decide) ?_
  refine GL.val (Ex.load rfl T.ag3 (i := 0) rfl rfl) (by decide) ?_
  by_cases hq3 : W1 ≠ W2
  · refine GL.val (v := (.bool true)) (Ex.cast (Ex.neq rfl rfl) (congrArg Value.bool (decide_eq_true hq3))) (by decide) ?_
    refine GL.val (Ex.move rfl) (by decide) ?_
    refine GL.skipG (tj := 11) rfl rfl rfl (by decide) ?_
    refine GL.skipG (tj := 11) rfl rfl rfl (by decide) ?_
    refine GL.skipG (tj := 11) rfl rfl rfl (by decide) ?_
    refine GL.skipG (tj := 11) rfl rfl rfl (by decide) ?_
    refine GL.skipG (tj := 11) rfl rfl rfl (by decide) ?_
    refine GL.val (v := (.bool true)) (Ex.pickT rfl rfl) (by decide) ?_
    refine GL.val (Ex.move rfl) (by decide) ?_
    refine GL.skipG (tj := 18) rfl rfl rfl (by decide) ?_
    refine GL.skipG (tj := 18) rfl rfl rfl (by decide) ?_
    refine GL.skipG (tj := 18) rfl rfl rfl (by decide) ?_
    refine GL.skipG (tj := 18) rfl rfl rfl (by decide) ?_
    refine GL.skipG (tj := 18) rfl rfl rfl (by decide) ?_
    refine GL.skipG (tj := 18) rfl rfl rfl (by decide) ?_
    refine GL.skipG (tj := 18) rfl rfl rfl (by decide) ?_
    refine GL.val (v := (.bool true)) (Ex.pickT rfl rfl) (by decide) ?_
    refine GL.nil ?_
    refine GE.thenN ?_
    refine GC.cond rfl (fun _ => ?_) (fun hq4 => by cases hq4)
    refine GC.seq ?_
    refine GC.region ?_
    refine GL.val (Ex.assign rfl) (by decide) ?_
    refine GL.nil ?_
    refine GE.thenN ?_
    refine GC.ret ?_
    refine GE.thenR ?_
    refine GC.ret1 rfl (Rv.tmp rfl) (fun wN HN => ?_)
    exact HN.ret () trivial (congrArg Value.bool (by first | exact (decide_eq_true (by omega)).symm | exact (decide_eq_false (by omega)).symm)) (List.nil_sublist _) rfl
  · refine GL.val (v := (.bool false)) (Ex.cast (Ex.neq rfl rfl) (congrArg Value.bool (decide_eq_false hq3))) (by decide) ?_
    refine GL.val (Ex.move rfl) (by decide) ?_
    refine GL.stepG (tj := 11) rfl rfl (Ex.wp (v := (.pointer (some ⟨bq1, 1, none⟩))) (Ex.cast (Ex.fieldAddr rfl Try.underlying32 rfl T.sz3 (by decide)) rfl) (by decide)) (fun _ _ => ?_)
    refine GL.stepG (tj := 11) rfl rfl (Ex.wp (v := (.int .i64 H1)) (Ex.load rfl T.ag3 (i := 1) rfl rfl) (by decide)) (fun _ _ => ?_)
    refine GL.stepG (tj := 11) rfl rfl (Ex.wp (v := (.pointer (some ⟨bq2, 1, none⟩))) (Ex.cast (Ex.fieldAddr rfl Try.underlying32 rfl T.sz3 (by decide)) rfl) (by decide)) (fun _ _ => ?_)
    refine GL.stepG (tj := 11) rfl rfl (Ex.wp (v := (.int .i64 H2)) (Ex.load rfl T.ag3 (i := 0) rfl rfl) (by decide)) (fun _ _ => ?_)
    by_cases hq5 : H1 ≠ H2
    · refine GL.stepG (tj := 11) rfl rfl (Ex.wp (v := (.bool true)) (Ex.cast (Ex.neq rfl rfl) (congrArg Value.bool (decide_eq_true hq5))) (by decide)) (fun _ _ => ?_)
      refine GL.val (v := (.bool true)) (Ex.pickF rfl rfl) (by decide) ?_
      refine GL.val (Ex.move rfl) (by decide) ?_
      refine GL.skipG (tj := 18) rfl rfl rfl (by decide) ?_
      refine GL.skipG (tj := 18) rfl rfl rfl (by decide) ?_
      refine GL.skipG (tj := 18) rfl rfl rfl (by decide) ?_
      refine GL.skipG (tj := 18) rfl rfl rfl (by decide) ?_
      refine GL.skipG (tj := 18) rfl rfl rfl (by decide) ?_
      refine GL.skipG (tj := 18) rfl rfl rfl (by decide) ?_
      refine GL.skipG (tj := 18) rfl rfl rfl (by decide) ?_
      refine GL.val (v := (.bool true)) (Ex.pickT rfl rfl) (by decide) ?_
      refine GL.nil ?_
      refine GE.thenN ?_
      refine GC.cond rfl (fun _ => ?_) (fun hq6 => by cases hq6)
      refine GC.seq ?_
      refine GC.region ?_
      refine GL.val (Ex.assign rfl) (by decide) ?_
      refine GL.nil ?_
      refine GE.thenN ?_
      refine GC.ret ?_
      refine GE.thenR ?_
      refine GC.ret1 rfl (Rv.tmp rfl) (fun wN HN => ?_)
      exact HN.ret () trivial (congrArg Value.bool (by first | exact (decide_eq_true (by omega)).symm | exact (decide_eq_false (by omega)).symm)) (List.nil_sublist _) rfl
    · refine GL.stepG (tj := 11) rfl rfl (Ex.wp (v := (.bool false)) (Ex.cast (Ex.neq rfl rfl) (congrArg Value.bool (decide_eq_false hq5))) (by decide)) (fun _ _ => ?_)
      refine GL.val (v := (.bool false)) (Ex.pickF rfl rfl) (by decide) ?_
      refine GL.val (Ex.move rfl) (by decide) ?_
      refine GL.stepG (tj := 18) rfl rfl (Ex.wp (v := (.pointer (some ⟨bq1, 2, none⟩))) (Ex.cast (Ex.fieldAddr rfl Try.underlying32 rfl T.sz30 (by decide)) rfl) (by decide)) (fun _ _ => ?_)
      refine GL.stepG (tj := 18) rfl rfl (Ex.wp (v := (.slice ad1 n1 cap1)) (Ex.load rfl T.ag30 (i := 1) rfl rfl) (by decide)) (fun _ _ => ?_)
      refine GL.stepG (tj := 18) rfl rfl (Ex.wp (v := (.int .i64 ((n1 : Int)))) (Ex.len rfl Try.underlying30) (by decide)) (fun _ _ => ?_)
      refine GL.stepG (tj := 18) rfl rfl (Ex.wp (v := (.pointer (some ⟨bq2, 2, none⟩))) (Ex.cast (Ex.fieldAddr rfl Try.underlying32 rfl T.sz30 (by decide)) rfl) (by decide)) (fun _ _ => ?_)
      refine GL.stepG (tj := 18) rfl rfl (Ex.wp (v := (.slice ad2 n2 cap2)) (Ex.load rfl T.ag30 (i := 0) rfl rfl) (by decide)) (fun _ _ => ?_)
      refine GL.stepG (tj := 18) rfl rfl (Ex.wp (v := (.int .i64 ((n2 : Int)))) (Ex.len rfl Try.underlying30) (by decide)) (fun _ _ => ?_)
      refine GL.stepG (tj := 18) rfl rfl (Ex.wp (v := (.bool (decide (((n1 : Int)) ≠ ((n2 : Int)))))) (Ex.neq rfl rfl) (by decide)) (fun _ _ => ?_)
      refine GL.val (v := (.bool (decide (((n1 : Int)) ≠ ((n2 : Int)))))) (Ex.pickF rfl rfl) (by decide) ?_
      refine GL.nil ?_
      refine GE.thenN ?_
      refine GC.cond rfl (fun hq7 => ?_) (fun hq7 => ?_)
      · replace hq7 := of_decide_eq_true hq7
        refine GC.seq ?_
        refine GC.region ?_
        refine GL.val (Ex.assign rfl) (by decide) ?_
        refine GL.nil ?_
        refine GE.thenN ?_
        refine GC.ret ?_
        refine GE.thenR ?_
        refine GC.ret1 rfl (Rv.tmp rfl) (fun wN HN => ?_)
        exact HN.ret () trivial (congrArg Value.bool (by first | exact (decide_eq_true (by omega)).symm | exact (decide_eq_false (by omega)).symm)) (List.nil_sublist _) rfl
      · replace hq7 := of_decide_eq_false hq7
        refine GC.skip ?_
        refine GE.thenN ?_
        refine GC.seq ?_
        refine GC.seq ?_
        refine GC.region ?_
        refine GL.val (Ex.assign rfl) (by decide) ?_
        refine GL.nil ?_
        refine GE.thenN ?_
        refine GC.block ?_
        refine GC.unroll 1 ?_
        refine GE.round ?_
        refine GC.seq ?_
        refine GC.seq ?_
        refine GC.region ?_
        refine GL.val (Ex.move rfl) (by decide) ?_
        refine GL.val (v := (.pointer (some ⟨bq1, 2, none⟩))) (Ex.cast (Ex.fieldAddr rfl Try.underlying32 rfl T.sz30 (by decide)) rfl) (by decide) ?_
        refine GL.val (Ex.load rfl T.ag30 (i := 1) rfl rfl) (by decide) ?_
        refine GL.val (v := (.int .i64 ((n1 : Int)))) (Ex.len rfl Try.underlying30) (by decide) ?_
        refine GL.val (v := (.bool (decide (0 < ((n1 : Int)))))) (Ex.lss rfl rfl) (by decide) ?_
        refine GL.nil ?_
        refine GE.thenN ?_
        refine GC.cond rfl (fun hq8 => by exfalso; have hq8 := of_decide_eq_true hq8; omega) (fun _ => ?_)
        refine GC.exit ?_
        refine GE.thenE ?_
        refine GE.thenE ?_
        refine GE.blockE ?_
        refine GE.thenN ?_
        refine GC.seq ?_
        refine GC.region ?_
        refine GL.val (Ex.assign rfl) (by decide) ?_
        refine GL.nil ?_
        refine GE.thenN ?_
        refine GC.ret ?_
        refine GC.ret1 rfl (Rv.tmp rfl) (fun wN HN => ?_)
        exact HN.ret () trivial (congrArg Value.bool (by first | exact (decide_eq_true (by omega)).symm | exact (decide_eq_false (by omega)).symm)) (List.nil_sublist _) rfl

theorem ref_eq_any (W1 H1 : Int) (ad1 : Option Addr) (n1 cap1 : Nat) (W2 H2 : Int) (ad2 : Option Addr) (n2 cap2 : Nat) (xs ys : List Int) (w : World) (hb : n1 ≤ 35184372088832) (h1 : LsR w ad1 n1 xs) (h2 : LsR w ad2 n2 ys) :
    Calls Try.prog 26 #[.agg #[.int .i64 W1, .int .i64 H1, .slice ad1 n1 cap1], .agg #[.int .i64 W2, .int .i64 H2, .slice ad2 n2 cap2]] w (Ret w (fun _ : Unit => True) (fun _ => .bool (eqB W1 H1 xs W2 H2 ys)) (fun _ => [])) := by
  have a1 := h1.1; have a2 := h2.1
  by_cases hn : n1 ≠ n2 ∨ n1 = 0
  · have h := ref_eq_ne W1 H1 ad1 n1 cap1 W2 H2 ad2 n2 cap2 w hn
    rw [show decide (W1 = W2 ∧ H1 = H2 ∧ n1 = n2) = eqB W1 H1 xs W2 H2 ys from decide_eq_decide.2 ⟨fun e => ⟨e.1, e.2.1, ?_⟩, fun e => ⟨e.1, e.2.1, ?_⟩⟩] at h
    · exact h
    · rcases hn with hn | hn
      · exact absurd e.2.2 hn
      · rw [List.eq_nil_of_length_eq_zero (show xs.length = 0 by omega), List.eq_nil_of_length_eq_zero (show ys.length = 0 by omega)]
    · rw [← a1, ← a2, e.2.2]
  · rcases h1.2 with h | ⟨b1, o1, rfl, hr1⟩
    · exact absurd (Or.inr h) hn
    · rcases h2.2 with h | ⟨b2, o2, rfl, hr2⟩
      · exfalso; omega
      · exact ref_eq W1 H1 W2 H2 b1 o1 n1 cap1 b2 o2 n2 cap2 xs ys w a1 a2 hr1 hr2 hb

set_option maxRecDepth 100000 in
set_option maxHeartbeats 1000000 in
theorem same_ (W1 H1 : Int) (ad1 : Option Addr) (n1 cap1 : Nat) (W2 H2 : Int) (ad2 : Option Addr) (n2 cap2 : Nat) (e : Int) (xs ys : List Int) (w : World) (hb : n1 ≤ 35184372088832) (h1 : LsR w ad1 n1 xs) (h2 : LsR w ad2 n2 ys) (hw1 : W1 = W2) (hh1 : H1 = H2) (hxy : xs = ys) :
    Calls Try.prog 20 #[(.agg #[(.int .i64 W1), (.int .i64 H1), (.slice ad1 n1 cap1)]), (.int .i64 e), (.agg #[(.int .i64 W2), (.int .i64 H2), (.slice ad2 n2 cap2)]), (.int .i64 e)] w (Ret w (fun _ : Unit => True) (fun _ => .bool true) (fun _ => [])) := by
  refine enter (M := None) (L := []) (n := 18) (l := [(0, (.agg #[(.int .i64 W1), (.int .i64 H1), (.slice ad1 n1 cap1)])), (1, (.int .i64 e)), (2, (.agg #[(.int .i64 W2), (.int .i64 H2), (.slice ad2 n2 cap2)])), (3, (.int .i64 e))]) Try.func20 rfl rfl (Args.cons rfl (Args.cons rfl (Args.cons rfl (Args.cons rfl (Args.nil _))))) (Hp.start _ _) ?_
  refine GC.seq ?_
  refine GC.region ?_
  refine GL.step (Stp.box (cs := [(.int .i64 W1), (.int .i64 H1), (.slice ad1 n1 cap1)]) rfl rfl (by decide)) (fun bq1 _ => ?_)
  refine GL.step (Stp.box (cs := [(.int .i64 W2), (.int .i64 H2), (.slice ad2 n2 cap2)]) rfl rfl (by decide)) (fun bq2 _ => ?_)
  refine GL.val (Ex.assign rfl) (by decide) ?_
  refine GL.nil ?_
  refine GE.thenN ?_
  refine GC.seq ?_
  refine GC.region ?_
  refine GL.val (Ex.move rfl) (by decide) ?_
  refine GL.step (Stp.callR (vs := [(.int .i64 e)]) rfl rfl T.own16 (by decide) (fun wc hw => num e wc)) (fun xq3 hq4 => ?_)
  refine GL.val (Ex.move rfl) (by decide) ?_
  refine GL.val (v := (.bool true)) (Ex.cast (Ex.eql rfl rfl) (congrArg Value.bool (decide_eq_true (by simp)))) (by decide) ?_
  refine GL.val (Ex.move rfl) (by decide) ?_
  refine GL.stepG (tj := 13) rfl rfl (Ex.wp (v := (.agg #[(.int .i64 W1), (.int .i64 H1), (.slice ad1 n1 cap1)])) (Ex.loadA rfl T.ag32 T.sz32 (i := 1) rfl (vs := [(.int .i64 W1), (.int .i64 H1), (.slice ad1 n1 cap1)]) rfl rfl) (by decide)) (fun _ _ => ?_)
  refine GL.stepG (tj := 13) rfl rfl (Ex.wp (v := (.agg #[(.int .i64 W2), (.int .i64 H2), (.slice ad2 n2 cap2)])) (Ex.loadA rfl T.ag32 T.sz32 (i := 0) rfl (vs := [(.int .i64 W2), (.int .i64 H2), (.slice ad2 n2 cap2)]) rfl rfl) (by decide)) (fun _ _ => ?_)
  refine GL.stepG (tj := 13) rfl rfl (Stp.callR (vs := [(.agg #[(.int .i64 W1), (.int .i64 H1), (.slice ad1 n1 cap1)]), (.agg #[(.int .i64 W2), (.int .i64 H2), (.slice ad2 n2 cap2)])]) rfl rfl T.own26 (by decide) (fun wc hw => ref_eq_any W1 H1 ad1 n1 cap1 W2 H2 ad2 n2 cap2 xs ys wc hb (h1.later hw.1) (h2.later hw.1))) (fun xq5 hq6 => ?_)
  refine GL.val (v := (.bool (eqB W1 H1 xs W2 H2 ys))) (Ex.pickT rfl rfl) (by decide) ?_
  refine GL.val (Ex.assign rfl) (by decide) ?_
  refine GL.nil ?_
  refine GE.thenN ?_
  refine GC.ret ?_
  refine GC.ret1 rfl (Rv.tmp rfl) (fun wN HN => ?_)
  exact HN.ret () trivial (congrArg Value.bool (eqB_self hw1 hh1 hxy)) (List.nil_sublist _) rfl

set_option maxRecDepth 100000 in
set_option maxHeartbeats 1000000 in
theorem mv_lend (W H : Int) (ad : Option Addr) (n cap : Nat) (xs : List Int) (W2 H2 : Int) (ad2 : Option Addr) (m cap2 : Nat) (ys : List Int) (v2 v3 v4 v5 v12 : Value) (rb kb b8 b7 b6 : Nat) (c8 : List Value) (w : World) (hl : Lst w ad n xs) (hb : n ≤ 35184372087808) (hl2 : Lst w ad2 m ys) (hb2 : m ≤ 35184372087808) {Q : Exit → Act → World → Prop} (hQ : ∀ (c : List PanicEntry) (a : Act) (d : Nat) (v : Value) (w : World), Q (.panic c) (a.put (some d) v) w → Q (.panic c) a w) (K : ∀ j : ((Nat × Nat × List Value) × (Nat × Nat × List Value) × (Nat × Nat × List Value) × Nat) × ((Nat × Nat × List Value) × (Nat × Nat × List Value) × (Nat × Nat × List Value) × Nat) × Nat × Nat, GE 169 None w [(0, (.agg #[(.int .i64 W), (.int .i64 H), (.slice ad n cap)])), (1, (.agg #[(.int .i64 W2), (.int .i64 H2), (.slice ad2 m cap2)])), (2, v2), (3, v3), (4, v4), (5, v5), (6, (.pointer (some ⟨b6, 0, none⟩))), (7, (.pointer (some ⟨b7, 0, none⟩))), (8, (.pointer (some ⟨b8, 0, none⟩))), (12, v12), (13, (.pointer (some ⟨kb, 0, none⟩))), (14, (.pointer (some ⟨rb, 0, none⟩))), (15, (.pointer (some ⟨j.2.2.1, 0, none⟩))), (16, (.pointer (some ⟨j.2.2.2, 0, none⟩)))] [⟨j.2.1.1.1, ([(Value.slice (some ⟨j.1.2.1.1, 0, none⟩) (n + 5) j.1.2.1.2.1)]) ++ [(Value.slice (some ⟨j.2.1.2.1.1, 0, none⟩) (m + 5) j.2.1.2.1.2.1)] ++ j.2.1.1.2.2, 30, true⟩, ⟨j.2.1.2.1.1, (roomL ys).map u32 ++ j.2.1.2.1.2.2, 72, true⟩, ⟨j.2.1.2.2.1.1, ([(Value.slice (some ⟨j.1.2.2.2, 0, none⟩) (n + 5) (n + 5))]) ++ [(Value.slice (some ⟨j.2.1.2.2.2, 0, none⟩) (m + 5) (m + 5))] ++ j.2.1.2.2.1.2.2, 30, true⟩, ⟨j.2.1.2.2.2, (roomL ys).map u32, 72, true⟩, ⟨rb, [(.slice (some ⟨j.2.1.2.2.1.1, 0, none⟩) 2 j.2.1.2.2.1.2.1), (.slice (some ⟨j.2.1.1.1, 0, none⟩) 2 j.2.1.1.2.1), (.slice none 0 0), (.slice none 0 0), (.slice none 0 0), (.slice none 0 0), (.slice none 0 0), (.slice none 0 0)], 44, true⟩, ⟨j.1.2.1.1, (roomL xs).map u32 ++ j.1.2.1.2.2, 72, true⟩, ⟨j.1.2.2.2, (roomL xs).map u32, 72, true⟩, ⟨j.2.2.1, [(.int .i64 W), (.int .i64 H), (.slice (some ⟨j.1.2.2.2, 0, none⟩) n (n + 5))], 32, true⟩, ⟨j.2.2.2, [(.int .i64 W2), (.int .i64 H2), (.slice (some ⟨j.2.1.2.2.2, 0, none⟩) m (m + 5))], 32, true⟩, ⟨kb, [(.slice none 0 0), (.slice none 0 0), (.slice none 0 0), (.slice none 0 0), (.slice none 0 0), (.slice none 0 0), (.slice none 0 0), (.slice none 0 0)], 41, true⟩, ⟨b8, c8, 54, true⟩, ⟨b7, [(.int .i64 W2), (.int .i64 H2), (.slice ad2 m cap2)], 32, true⟩, ⟨b6, [(.int .i64 W), (.int .i64 H), (.slice ad n cap)], 32, true⟩] (Q .normal)) :
    GC Try.prog Q 169 None w [(0, (.agg #[(.int .i64 W), (.int .i64 H), (.slice ad n cap)])), (1, (.agg #[(.int .i64 W2), (.int .i64 H2), (.slice ad2 m cap2)])), (2, v2), (3, v3), (4, v4), (5, v5), (6, (.pointer (some ⟨b6, 0, none⟩))), (7, (.pointer (some ⟨b7, 0, none⟩))), (8, (.pointer (some ⟨b8, 0, none⟩))), (12, v12), (13, (.pointer (some ⟨kb, 0, none⟩))), (14, (.pointer (some ⟨rb, 0, none⟩)))] [⟨rb, [(.slice none 0 0), (.slice none 0 0), (.slice none 0 0), (.slice none 0 0), (.slice none 0 0), (.slice none 0 0), (.slice none 0 0), (.slice none 0 0)], 44, true⟩, ⟨kb, [(.slice none 0 0), (.slice none 0 0), (.slice none 0 0), (.slice none 0 0), (.slice none 0 0), (.slice none 0 0), (.slice none 0 0), (.slice none 0 0)], 41, true⟩, ⟨b8, c8, 54, true⟩, ⟨b7, [(.int .i64 W2), (.int .i64 H2), (.slice ad2 m cap2)], 32, true⟩, ⟨b6, [(.int .i64 W), (.int .i64 H), (.slice ad n cap)], 32, true⟩] (seqF (seqS (seqS (seqS (seqS (Try.f8.body.getD .skip)))))) := by
  refine GC.join (σ := ((Nat × Nat × List Value) × (Nat × Nat × List Value) × (Nat × Nat × List Value) × Nat) × ((Nat × Nat × List Value) × (Nat × Nat × List Value) × (Nat × Nat × List Value) × Nat) × Nat × Nat) (fun j => True) (fun j => [(0, (.agg #[(.int .i64 W), (.int .i64 H), (.slice ad n cap)])), (1, (.agg #[(.int .i64 W2), (.int .i64 H2), (.slice ad2 m cap2)])), (2, v2), (3, v3), (4, v4), (5, v5), (6, (.pointer (some ⟨b6, 0, none⟩))), (7, (.pointer (some ⟨b7, 0, none⟩))), (8, (.pointer (some ⟨b8, 0, none⟩))), (12, v12), (13, (.pointer (some ⟨kb, 0, none⟩))), (14, (.pointer (some ⟨rb, 0, none⟩))), (15, (.pointer (some ⟨j.2.2.1, 0, none⟩))), (16, (.pointer (some ⟨j.2.2.2, 0, none⟩)))]) (fun j => [⟨j.2.1.1.1, ([(Value.slice (some ⟨j.1.2.1.1, 0, none⟩) (n + 5) j.1.2.1.2.1)]) ++ [(Value.slice (some ⟨j.2.1.2.1.1, 0, none⟩) (m + 5) j.2.1.2.1.2.1)] ++ j.2.1.1.2.2, 30, true⟩, ⟨j.2.1.2.1.1, (roomL ys).map u32 ++ j.2.1.2.1.2.2, 72, true⟩, ⟨j.2.1.2.2.1.1, ([(Value.slice (some ⟨j.1.2.2.2, 0, none⟩) (n + 5) (n + 5))]) ++ [(Value.slice (some ⟨j.2.1.2.2.2, 0, none⟩) (m + 5) (m + 5))] ++ j.2.1.2.2.1.2.2, 30, true⟩, ⟨j.2.1.2.2.2, (roomL ys).map u32, 72, true⟩, ⟨rb, [(.slice (some ⟨j.2.1.2.2.1.1, 0, none⟩) 2 j.2.1.2.2.1.2.1), (.slice (some ⟨j.2.1.1.1, 0, none⟩) 2 j.2.1.1.2.1), (.slice none 0 0), (.slice none 0 0), (.slice none 0 0), (.slice none 0 0), (.slice none 0 0), (.slice none 0 0)], 44, true⟩, ⟨j.1.2.1.1, (roomL xs).map u32 ++ j.1.2.1.2.2, 72, true⟩, ⟨j.1.2.2.2, (roomL xs).map u32, 72, true⟩, ⟨j.2.2.1, [(.int .i64 W), (.int .i64 H), (.slice (some ⟨j.1.2.2.2, 0, none⟩) n (n + 5))], 32, true⟩, ⟨j.2.2.2, [(.int .i64 W2), (.int .i64 H2), (.slice (some ⟨j.2.1.2.2.2, 0, none⟩) m (m + 5))], 32, true⟩, ⟨kb, [(.slice none 0 0), (.slice none 0 0), (.slice none 0 0), (.slice none 0 0), (.slice none 0 0), (.slice none 0 0), (.slice none 0 0), (.slice none 0 0)], 41, true⟩, ⟨b8, c8, 54, true⟩, ⟨b7, [(.int .i64 W2), (.int .i64 H2), (.slice ad2 m cap2)], 32, true⟩, ⟨b6, [(.int .i64 W), (.int .i64 H), (.slice ad n cap)], 32, true⟩]) ?_ (fun j hj => ?_)
  · refine GC.drawP [⟨kb, [(.slice none 0 0), (.slice none 0 0), (.slice none 0 0), (.slice none 0 0), (.slice none 0 0), (.slice none 0 0), (.slice none 0 0), (.slice none 0 0)], 41, true⟩, ⟨b8, c8, 54, true⟩, ⟨b7, [(.int .i64 W2), (.int .i64 H2), (.slice ad2 m cap2)], 32, true⟩, ⟨b6, [(.int .i64 W), (.int .i64 H), (.slice ad n cap)], 32, true⟩] T.mixed (by kernel_rfl) (by kernel_rfl) (fuel := 9) rfl rfl ?_
    refine GH.take 0 (v := (.pointer (some ⟨rb, 0, none⟩))) rfl (by kernel_rfl) (by kernel_rfl) (by kernel_rfl) (fun _ _ _ h => hQ _ _ _ _ _ h) (Ex.move rfl) (ulS (ulC (ulC (ulC (ulC ulN))))) (by decide) ?_
    refine GH.take 1 (v := (.agg #[(.int .i64 W), (.int .i64 H), (.slice ad n cap)])) rfl (by kernel_rfl) (by kernel_rfl) (by kernel_rfl) (fun _ _ _ h => hQ _ _ _ _ _ h) (Ex.loadA rfl T.ag32 T.sz32 (i := 3) rfl (vs := [(.int .i64 W), (.int .i64 H), (.slice ad n cap)]) rfl rfl) (ulS (ulC (ulC (ulC (ulC ulN))))) (by decide) ?_
    refine GH.take 3 (v := (.pointer (some ⟨rb, 0, none⟩))) rfl (by kernel_rfl) (by kernel_rfl) (by kernel_rfl) (fun _ _ _ h => hQ _ _ _ _ _ h) (Ex.move rfl) (ulS (ulC (ulC (ulC (ulC ulN))))) (by decide) ?_
    refine GH.take 4 (v := (.agg #[(.int .i64 W2), (.int .i64 H2), (.slice ad2 m cap2)])) rfl (by kernel_rfl) (by kernel_rfl) (by kernel_rfl) (fun _ _ _ h => hQ _ _ _ _ _ h) (Ex.loadA rfl T.ag32 T.sz32 (i := 2) rfl (vs := [(.int .i64 W2), (.int .i64 H2), (.slice ad2 m cap2)]) rfl rfl) (ulS (ulC (ulC (ulC (ulC ulN))))) (by decide) ?_
    refine GH.many (rs := [2, 6, 7]) (by kernel_rfl) (by simp) ?_
    refine GHs.cons rfl (Stp.call (vs := [(.pointer (some ⟨rb, 0, none⟩)), (.agg #[(.int .i64 W), (.int .i64 H), (.slice ad n cap)])]) rfl rfl T.own17 (by decide) (fun wc hw => room_p0 w _ W H rb n cap ad xs wc hl hb (hw.pick (idx := [0, 1, 2, 3, 4]) (by decide) rfl))) (fun _ => (ulS (ulS (ulS (ulS (ulS (ulC (ulC (ulC (ulC ulN)))))))))) (fun xq1 hq2 => ?_) ?_
    · refine GH.many (rs := [5, 6, 7]) (by kernel_rfl) (by simp) ?_
      refine GHs.cons rfl (Stp.call (vs := [(.pointer (some ⟨rb, 0, none⟩)), (.agg #[(.int .i64 W2), (.int .i64 H2), (.slice ad2 m cap2)])]) rfl rfl T.own17 (by decide) (fun wc hw => room_p1 w _ W2 H2 rb m cap2 ad2 ys 1 xq1.2.2.1.1 xq1.2.2.1.2.1 xq1.1.1 xq1.1.2.1 ([(Value.slice (some ⟨xq1.2.2.2, 0, none⟩) (n + 5) (n + 5))]) xq1.2.2.1.2.2 ([(Value.slice (some ⟨xq1.2.1.1, 0, none⟩) (n + 5) xq1.2.1.2.1)]) xq1.1.2.2 wc hl2 hb2 (by first | decide | omega) (by first | rfl | omega) (by first | rfl | omega) hq2.1 hq2.2 (hw.pick (idx := [4, 2, 0, 1, 3, 5, 6, 7, 8]) (by decide) rfl))) (fun _ => (ulS (ulS (ulS (ulS (ulS (ulS (ulS (ulC (ulC (ulC (ulC ulN)))))))))))) (fun xq3 hq4 => ?_) ?_
      · refine GH.many (rs := [6, 7]) (by kernel_rfl) (by simp) ?_
        refine GHs.cons rfl (Stp.alloc T.zr32 (by decide)) (fun _ => (ulS (ulS (ulS (ulS (ulS (ulS (ulS (ulS (ulC (ulC (ulC (ulC ulN))))))))))))) (fun bq5 _ => ?_) ?_
        · refine GH.one 7 rfl (by kernel_rfl) (Stp.alloc T.zr32 (by decide)) (fun _ => (ulS (ulS (ulS (ulS (ulS (ulS (ulS (ulS (ulS (ulC (ulC (ulC (ulC ulN)))))))))))))) (fun bq6 _ => ?_)
          refine GH.one 8 rfl (by kernel_rfl) (Stp.st1 (cs' := [(.int .i64 W), (.int .i64 H), (.slice (some ⟨xq1.2.2.2, 0, none⟩) n (n + 5))]) rfl rfl rfl T.sz32 rfl rfl rfl) (fun _ => (ulS (ulS (ulS (ulS (ulS (ulS (ulS (ulS (ulS (ulC (ulC (ulC (ulC ulN)))))))))))))) (fun _ _ => ?_)
          refine GH.done (by kernel_rfl) ?_
          refine GE.thenN ?_
          refine GE.tail rfl (Stp.st0 (cs' := [(.int .i64 W2), (.int .i64 H2), (.slice (some ⟨xq3.2.2.2, 0, none⟩) m (m + 5))]) rfl rfl rfl T.sz32 rfl rfl rfl) (fun _ _ => ?_)
          refine GE.thenN ?_
          exact St.mk ((xq1, xq3, bq5, bq6)) trivial (idx := [2, 3, 4, 5, 6, 7, 8, 1, 0, 9, 10, 11, 12]) ((sub_cons rfl ((sub_cons rfl ((sub_cons rfl ((sub_cons rfl ((sub_cons rfl ((sub_cons rfl ((sub_cons rfl ((sub_cons rfl ((sub_cons rfl ((sub_cons rfl ((sub_cons rfl ((sub_cons rfl ((sub_cons rfl ((sub_cons rfl ((sub_nil _)))))))))))))))))))))))))))))) (by decide) rfl
        refine GHs.cons rfl (Stp.alloc T.zr32 (by decide)) (fun _ => (ulS (ulS (ulS (ulS (ulS (ulS (ulS (ulS (ulC (ulC (ulC (ulC ulN))))))))))))) (fun bq7 _ => ?_) ?_
        · refine GH.one 6 rfl (by kernel_rfl) (Stp.alloc T.zr32 (by decide)) (fun _ => (ulS (ulS (ulS (ulS (ulS (ulS (ulS (ulS (ulS (ulC (ulC (ulC (ulC ulN)))))))))))))) (fun bq8 _ => ?_)
          refine GH.one 8 rfl (by kernel_rfl) (Stp.st0 (cs' := [(.int .i64 W), (.int .i64 H), (.slice (some ⟨xq1.2.2.2, 0, none⟩) n (n + 5))]) rfl rfl rfl T.sz32 rfl rfl rfl) (fun _ => (ulS (ulS (ulS (ulS (ulS (ulS (ulS (ulS (ulS (ulC (ulC (ulC (ulC ulN)))))))))))))) (fun _ _ => ?_)
          refine GH.done (by kernel_rfl) ?_
          refine GE.thenN ?_
          refine GE.tail rfl (Stp.st1 (cs' := [(.int .i64 W2), (.int .i64 H2), (.slice (some ⟨xq3.2.2.2, 0, none⟩) m (m + 5))]) rfl rfl rfl T.sz32 rfl rfl rfl) (fun _ _ => ?_)
          refine GE.thenN ?_
          exact St.mk ((xq1, xq3, bq8, bq7)) trivial (idx := [2, 3, 4, 5, 6, 7, 8, 0, 1, 9, 10, 11, 12]) ((sub_cons rfl ((sub_cons rfl ((sub_cons rfl ((sub_cons rfl ((sub_cons rfl ((sub_cons rfl ((sub_cons rfl ((sub_cons rfl ((sub_cons rfl ((sub_cons rfl ((sub_cons rfl ((sub_cons rfl ((sub_cons rfl ((sub_cons rfl ((sub_nil _)))))))))))))))))))))))))))))) (by decide) rfl
        exact GHs.nil
      refine GHs.cons rfl (Stp.alloc T.zr32 (by decide)) (fun _ => (ulS (ulS (ulS (ulS (ulS (ulS (ulC (ulC (ulC (ulC ulN))))))))))) (fun bq9 _ => ?_) ?_
      · refine GH.many (rs := [5, 7]) (by kernel_rfl) (by simp) ?_
        refine GHs.cons rfl (Stp.call (vs := [(.pointer (some ⟨rb, 0, none⟩)), (.agg #[(.int .i64 W2), (.int .i64 H2), (.slice ad2 m cap2)])]) rfl rfl T.own17 (by decide) (fun wc hw => room_p1 w _ W2 H2 rb m cap2 ad2 ys 1 xq1.2.2.1.1 xq1.2.2.1.2.1 xq1.1.1 xq1.1.2.1 ([(Value.slice (some ⟨xq1.2.2.2, 0, none⟩) (n + 5) (n + 5))]) xq1.2.2.1.2.2 ([(Value.slice (some ⟨xq1.2.1.1, 0, none⟩) (n + 5) xq1.2.1.2.1)]) xq1.1.2.2 wc hl2 hb2 (by first | decide | omega) (by first | rfl | omega) (by first | rfl | omega) hq2.1 hq2.2 (hw.pick (idx := [5, 3, 1, 0, 2, 4, 6, 7, 8, 9]) (by decide) rfl))) (fun _ => (ulS (ulS (ulS (ulS (ulS (ulS (ulS (ulS (ulC (ulC (ulC (ulC ulN))))))))))))) (fun xq10 hq11 => ?_) ?_
        · refine GH.one 7 rfl (by kernel_rfl) (Stp.alloc T.zr32 (by decide)) (fun _ => (ulS (ulS (ulS (ulS (ulS (ulS (ulS (ulS (ulS (ulC (ulC (ulC (ulC ulN)))))))))))))) (fun bq12 _ => ?_)
          refine GH.one 8 rfl (by kernel_rfl) (Stp.st6 (cs' := [(.int .i64 W), (.int .i64 H), (.slice (some ⟨xq1.2.2.2, 0, none⟩) n (n + 5))]) rfl rfl rfl T.sz32 rfl rfl rfl) (fun _ => (ulS (ulS (ulS (ulS (ulS (ulS (ulS (ulS (ulS (ulC (ulC (ulC (ulC ulN)))))))))))))) (fun _ _ => ?_)
          refine GH.done (by kernel_rfl) ?_
          refine GE.thenN ?_
          refine GE.tail rfl (Stp.st0 (cs' := [(.int .i64 W2), (.int .i64 H2), (.slice (some ⟨xq10.2.2.2, 0, none⟩) m (m + 5))]) rfl rfl rfl T.sz32 rfl rfl rfl) (fun _ _ => ?_)
          refine GE.thenN ?_
          exact St.mk ((xq1, xq10, bq9, bq12)) trivial (idx := [1, 2, 3, 4, 5, 7, 8, 6, 0, 9, 10, 11, 12]) ((sub_cons rfl ((sub_cons rfl ((sub_cons rfl ((sub_cons rfl ((sub_cons rfl ((sub_cons rfl ((sub_cons rfl ((sub_cons rfl ((sub_cons rfl ((sub_cons rfl ((sub_cons rfl ((sub_cons rfl ((sub_cons rfl ((sub_cons rfl ((sub_nil _)))))))))))))))))))))))))))))) (by decide) rfl
        refine GHs.cons rfl (Stp.alloc T.zr32 (by decide)) (fun _ => (ulS (ulS (ulS (ulS (ulS (ulS (ulS (ulC (ulC (ulC (ulC ulN)))))))))))) (fun bq13 _ => ?_) ?_
        · refine GH.one 5 rfl (by kernel_rfl) (Stp.call (vs := [(.pointer (some ⟨rb, 0, none⟩)), (.agg #[(.int .i64 W2), (.int .i64 H2), (.slice ad2 m cap2)])]) rfl rfl T.own17 (by decide) (fun wc hw => room_p1 w _ W2 H2 rb m cap2 ad2 ys 1 xq1.2.2.1.1 xq1.2.2.1.2.1 xq1.1.1 xq1.1.2.1 ([(Value.slice (some ⟨xq1.2.2.2, 0, none⟩) (n + 5) (n + 5))]) xq1.2.2.1.2.2 ([(Value.slice (some ⟨xq1.2.1.1, 0, none⟩) (n + 5) xq1.2.1.2.1)]) xq1.1.2.2 wc hl2 hb2 (by first | decide | omega) (by first | rfl | omega) (by first | rfl | omega) hq2.1 hq2.2 (hw.pick (idx := [6, 4, 2, 0, 1, 3, 5, 7, 8, 9, 10]) (by decide) rfl))) (fun _ => (ulS (ulS (ulS (ulS (ulS (ulS (ulS (ulS (ulS (ulC (ulC (ulC (ulC ulN)))))))))))))) (fun xq14 hq15 => ?_)
          refine GH.one 8 rfl (by kernel_rfl) (Stp.st6 (cs' := [(.int .i64 W), (.int .i64 H), (.slice (some ⟨xq1.2.2.2, 0, none⟩) n (n + 5))]) rfl rfl rfl T.sz32 rfl rfl rfl) (fun _ => (ulS (ulS (ulS (ulS (ulS (ulS (ulS (ulS (ulS (ulC (ulC (ulC (ulC ulN)))))))))))))) (fun _ _ => ?_)
          refine GH.done (by kernel_rfl) ?_
          refine GE.thenN ?_
          refine GE.tail rfl (Stp.st5 (cs' := [(.int .i64 W2), (.int .i64 H2), (.slice (some ⟨xq14.2.2.2, 0, none⟩) m (m + 5))]) rfl rfl rfl T.sz32 rfl rfl rfl) (fun _ _ => ?_)
          refine GE.thenN ?_
          exact St.mk ((xq1, xq14, bq9, bq13)) trivial (idx := [0, 1, 2, 3, 4, 7, 8, 6, 5, 9, 10, 11, 12]) ((sub_cons rfl ((sub_cons rfl ((sub_cons rfl ((sub_cons rfl ((sub_cons rfl ((sub_cons rfl ((sub_cons rfl ((sub_cons rfl ((sub_cons rfl ((sub_cons rfl ((sub_cons rfl ((sub_cons rfl ((sub_cons rfl ((sub_cons rfl ((sub_nil _)))))))))))))))))))))))))))))) (by decide) rfl
        exact GHs.nil
      refine GHs.cons rfl (Stp.alloc T.zr32 (by decide)) (fun _ => (ulS (ulS (ulS (ulS (ulS (ulS (ulC (ulC (ulC (ulC ulN))))))))))) (fun bq16 _ => ?_) ?_
      · refine GH.many (rs := [5, 6]) (by kernel_rfl) (by simp) ?_
        refine GHs.cons rfl (Stp.call (vs := [(.pointer (some ⟨rb, 0, none⟩)), (.agg #[(.int .i64 W2), (.int .i64 H2), (.slice ad2 m cap2)])]) rfl rfl T.own17 (by decide) (fun wc hw => room_p1 w _ W2 H2 rb m cap2 ad2 ys 1 xq1.2.2.1.1 xq1.2.2.1.2.1 xq1.1.1 xq1.1.2.1 ([(Value.slice (some ⟨xq1.2.2.2, 0, none⟩) (n + 5) (n + 5))]) xq1.2.2.1.2.2 ([(Value.slice (some ⟨xq1.2.1.1, 0, none⟩) (n + 5) xq1.2.1.2.1)]) xq1.1.2.2 wc hl2 hb2 (by first | decide | omega) (by first | rfl | omega) (by first | rfl | omega) hq2.1 hq2.2 (hw.pick (idx := [5, 3, 1, 0, 2, 4, 6, 7, 8, 9]) (by decide) rfl))) (fun _ => (ulS (ulS (ulS (ulS (ulS (ulS (ulS (ulS (ulC (ulC (ulC (ulC ulN))))))))))))) (fun xq17 hq18 => ?_) ?_
        · refine GH.one 6 rfl (by kernel_rfl) (Stp.alloc T.zr32 (by decide)) (fun _ => (ulS (ulS (ulS (ulS (ulS (ulS (ulS (ulS (ulS (ulC (ulC (ulC (ulC ulN)))))))))))))) (fun bq19 _ => ?_)
          refine GH.one 8 rfl (by kernel_rfl) (Stp.st0 (cs' := [(.int .i64 W), (.int .i64 H), (.slice (some ⟨xq1.2.2.2, 0, none⟩) n (n + 5))]) rfl rfl rfl T.sz32 rfl rfl rfl) (fun _ => (ulS (ulS (ulS (ulS (ulS (ulS (ulS (ulS (ulS (ulC (ulC (ulC (ulC ulN)))))))))))))) (fun _ _ => ?_)
          refine GH.done (by kernel_rfl) ?_
          refine GE.thenN ?_
          refine GE.tail rfl (Stp.st6 (cs' := [(.int .i64 W2), (.int .i64 H2), (.slice (some ⟨xq17.2.2.2, 0, none⟩) m (m + 5))]) rfl rfl rfl T.sz32 rfl rfl rfl) (fun _ _ => ?_)
          refine GE.thenN ?_
          exact St.mk ((xq1, xq17, bq19, bq16)) trivial (idx := [1, 2, 3, 4, 5, 7, 8, 0, 6, 9, 10, 11, 12]) ((sub_cons rfl ((sub_cons rfl ((sub_cons rfl ((sub_cons rfl ((sub_cons rfl ((sub_cons rfl ((sub_cons rfl ((sub_cons rfl ((sub_cons rfl ((sub_cons rfl ((sub_cons rfl ((sub_cons rfl ((sub_cons rfl ((sub_cons rfl ((sub_nil _)))))))))))))))))))))))))))))) (by decide) rfl
        refine GHs.cons rfl (Stp.alloc T.zr32 (by decide)) (fun _ => (ulS (ulS (ulS (ulS (ulS (ulS (ulS (ulC (ulC (ulC (ulC ulN)))))))))))) (fun bq20 _ => ?_) ?_
        · refine GH.one 5 rfl (by kernel_rfl) (Stp.call (vs := [(.pointer (some ⟨rb, 0, none⟩)), (.agg #[(.int .i64 W2), (.int .i64 H2), (.slice ad2 m cap2)])]) rfl rfl T.own17 (by decide) (fun wc hw => room_p1 w _ W2 H2 rb m cap2 ad2 ys 1 xq1.2.2.1.1 xq1.2.2.1.2.1 xq1.1.1 xq1.1.2.1 ([(Value.slice (some ⟨xq1.2.2.2, 0, none⟩) (n + 5) (n + 5))]) xq1.2.2.1.2.2 ([(Value.slice (some ⟨xq1.2.1.1, 0, none⟩) (n + 5) xq1.2.1.2.1)]) xq1.1.2.2 wc hl2 hb2 (by first | decide | omega) (by first | rfl | omega) (by first | rfl | omega) hq2.1 hq2.2 (hw.pick (idx := [6, 4, 2, 0, 1, 3, 5, 7, 8, 9, 10]) (by decide) rfl))) (fun _ => (ulS (ulS (ulS (ulS (ulS (ulS (ulS (ulS (ulS (ulC (ulC (ulC (ulC ulN)))))))))))))) (fun xq21 hq22 => ?_)
          refine GH.one 8 rfl (by kernel_rfl) (Stp.st5 (cs' := [(.int .i64 W), (.int .i64 H), (.slice (some ⟨xq1.2.2.2, 0, none⟩) n (n + 5))]) rfl rfl rfl T.sz32 rfl rfl rfl) (fun _ => (ulS (ulS (ulS (ulS (ulS (ulS (ulS (ulS (ulS (ulC (ulC (ulC (ulC ulN)))))))))))))) (fun _ _ => ?_)
          refine GH.done (by kernel_rfl) ?_
          refine GE.thenN ?_
          refine GE.tail rfl (Stp.st6 (cs' := [(.int .i64 W2), (.int .i64 H2), (.slice (some ⟨xq21.2.2.2, 0, none⟩) m (m + 5))]) rfl rfl rfl T.sz32 rfl rfl rfl) (fun _ _ => ?_)
          refine GE.thenN ?_
          exact St.mk ((xq1, xq21, bq20, bq16)) trivial (idx := [0, 1, 2, 3, 4, 7, 8, 5, 6, 9, 10, 11, 12]) ((sub_cons rfl ((sub_cons rfl ((sub_cons rfl ((sub_cons rfl ((sub_cons rfl ((sub_cons rfl ((sub_cons rfl ((sub_cons rfl ((sub_cons rfl ((sub_cons rfl ((sub_cons rfl ((sub_cons rfl ((sub_cons rfl ((sub_cons rfl ((sub_nil _)))))))))))))))))))))))))))))) (by decide) rfl
        exact GHs.nil
      exact GHs.nil
    refine GHs.cons rfl (Stp.alloc T.zr32 (by decide)) (fun _ => (ulS (ulS (ulC (ulC (ulC (ulC ulN))))))) (fun bq23 _ => ?_) ?_
    · refine GH.many (rs := [2, 7]) (by kernel_rfl) (by simp) ?_
      refine GHs.cons rfl (Stp.call (vs := [(.pointer (some ⟨rb, 0, none⟩)), (.agg #[(.int .i64 W), (.int .i64 H), (.slice ad n cap)])]) rfl rfl T.own17 (by decide) (fun wc hw => room_p0 w _ W H rb n cap ad xs wc hl hb (hw.pick (idx := [1, 0, 2, 3, 4, 5]) (by decide) rfl))) (fun _ => (ulS (ulS (ulS (ulS (ulS (ulS (ulC (ulC (ulC (ulC ulN))))))))))) (fun xq24 hq25 => ?_) ?_
      · refine GH.many (rs := [5, 7]) (by kernel_rfl) (by simp) ?_
        refine GHs.cons rfl (Stp.call (vs := [(.pointer (some ⟨rb, 0, none⟩)), (.agg #[(.int .i64 W2), (.int .i64 H2), (.slice ad2 m cap2)])]) rfl rfl T.own17 (by decide) (fun wc hw => room_p1 w _ W2 H2 rb m cap2 ad2 ys 1 xq24.2.2.1.1 xq24.2.2.1.2.1 xq24.1.1 xq24.1.2.1 ([(Value.slice (some ⟨xq24.2.2.2, 0, none⟩) (n + 5) (n + 5))]) xq24.2.2.1.2.2 ([(Value.slice (some ⟨xq24.2.1.1, 0, none⟩) (n + 5) xq24.2.1.2.1)]) xq24.1.2.2 wc hl2 hb2 (by first | decide | omega) (by first | rfl | omega) (by first | rfl | omega) hq25.1 hq25.2 (hw.pick (idx := [4, 2, 0, 1, 3, 5, 6, 7, 8, 9]) (by decide) rfl))) (fun _ => (ulS (ulS (ulS (ulS (ulS (ulS (ulS (ulS (ulC (ulC (ulC (ulC ulN))))))))))))) (fun xq26 hq27 => ?_) ?_
        · refine GH.one 7 rfl (by kernel_rfl) (Stp.alloc T.zr32 (by decide)) (fun _ => (ulS (ulS (ulS (ulS (ulS (ulS (ulS (ulS (ulS (ulC (ulC (ulC (ulC ulN)))))))))))))) (fun bq28 _ => ?_)
          refine GH.one 8 rfl (by kernel_rfl) (Stp.st8 (cs' := [(.int .i64 W), (.int .i64 H), (.slice (some ⟨xq24.2.2.2, 0, none⟩) n (n + 5))]) rfl rfl rfl T.sz32 rfl rfl rfl) (fun _ => (ulS (ulS (ulS (ulS (ulS (ulS (ulS (ulS (ulS (ulC (ulC (ulC (ulC ulN)))))))))))))) (fun _ _ => ?_)
          refine GH.done (by kernel_rfl) ?_
          refine GE.thenN ?_
          refine GE.tail rfl (Stp.st0 (cs' := [(.int .i64 W2), (.int .i64 H2), (.slice (some ⟨xq26.2.2.2, 0, none⟩) m (m + 5))]) rfl rfl rfl T.sz32 rfl rfl rfl) (fun _ _ => ?_)
          refine GE.thenN ?_
          exact St.mk ((xq24, xq26, bq23, bq28)) trivial (idx := [1, 2, 3, 4, 5, 6, 7, 8, 0, 9, 10, 11, 12]) ((sub_cons rfl ((sub_cons rfl ((sub_cons rfl ((sub_cons rfl ((sub_cons rfl ((sub_cons rfl ((sub_cons rfl ((sub_cons rfl ((sub_cons rfl ((sub_cons rfl ((sub_cons rfl ((sub_cons rfl ((sub_cons rfl ((sub_cons rfl ((sub_nil _)))))))))))))))))))))))))))))) (by decide) rfl
        refine GHs.cons rfl (Stp.alloc T.zr32 (by decide)) (fun _ => (ulS (ulS (ulS (ulS (ulS (ulS (ulS (ulC (ulC (ulC (ulC ulN)))))))))))) (fun bq29 _ => ?_) ?_
        · refine GH.one 5 rfl (by kernel_rfl) (Stp.call (vs := [(.pointer (some ⟨rb, 0, none⟩)), (.agg #[(.int .i64 W2), (.int .i64 H2), (.slice ad2 m cap2)])]) rfl rfl T.own17 (by decide) (fun wc hw => room_p1 w _ W2 H2 rb m cap2 ad2 ys 1 xq24.2.2.1.1 xq24.2.2.1.2.1 xq24.1.1 xq24.1.2.1 ([(Value.slice (some ⟨xq24.2.2.2, 0, none⟩) (n + 5) (n + 5))]) xq24.2.2.1.2.2 ([(Value.slice (some ⟨xq24.2.1.1, 0, none⟩) (n + 5) xq24.2.1.2.1)]) xq24.1.2.2 wc hl2 hb2 (by first | decide | omega) (by first | rfl | omega) (by first | rfl | omega) hq25.1 hq25.2 (hw.pick (idx := [5, 3, 1, 0, 2, 4, 6, 7, 8, 9, 10]) (by decide) rfl))) (fun _ => (ulS (ulS (ulS (ulS (ulS (ulS (ulS (ulS (ulS (ulC (ulC (ulC (ulC ulN)))))))))))))) (fun xq30 hq31 => ?_)
          refine GH.one 8 rfl (by kernel_rfl) (Stp.st8 (cs' := [(.int .i64 W), (.int .i64 H), (.slice (some ⟨xq24.2.2.2, 0, none⟩) n (n + 5))]) rfl rfl rfl T.sz32 rfl rfl rfl) (fun _ => (ulS (ulS (ulS (ulS (ulS (ulS (ulS (ulS (ulS (ulC (ulC (ulC (ulC ulN)))))))))))))) (fun _ _ => ?_)
          refine GH.done (by kernel_rfl) ?_
          refine GE.thenN ?_
          refine GE.tail rfl (Stp.st5 (cs' := [(.int .i64 W2), (.int .i64 H2), (.slice (some ⟨xq30.2.2.2, 0, none⟩) m (m + 5))]) rfl rfl rfl T.sz32 rfl rfl rfl) (fun _ _ => ?_)
          refine GE.thenN ?_
          exact St.mk ((xq24, xq30, bq23, bq29)) trivial (idx := [0, 1, 2, 3, 4, 6, 7, 8, 5, 9, 10, 11, 12]) ((sub_cons rfl ((sub_cons rfl ((sub_cons rfl ((sub_cons rfl ((sub_cons rfl ((sub_cons rfl ((sub_cons rfl ((sub_cons rfl ((sub_cons rfl ((sub_cons rfl ((sub_cons rfl ((sub_cons rfl ((sub_cons rfl ((sub_cons rfl ((sub_nil _)))))))))))))))))))))))))))))) (by decide) rfl
        exact GHs.nil
      refine GHs.cons rfl (Stp.alloc T.zr32 (by decide)) (fun _ => (ulS (ulS (ulS (ulC (ulC (ulC (ulC ulN)))))))) (fun bq32 _ => ?_) ?_
      · refine GH.one 2 rfl (by kernel_rfl) (Stp.call (vs := [(.pointer (some ⟨rb, 0, none⟩)), (.agg #[(.int .i64 W), (.int .i64 H), (.slice ad n cap)])]) rfl rfl T.own17 (by decide) (fun wc hw => room_p0 w _ W H rb n cap ad xs wc hl hb (hw.pick (idx := [2, 0, 1, 3, 4, 5, 6]) (by decide) rfl))) (fun _ => (ulS (ulS (ulS (ulS (ulS (ulS (ulS (ulC (ulC (ulC (ulC ulN)))))))))))) (fun xq33 hq34 => ?_)
        refine GH.one 5 rfl (by kernel_rfl) (Stp.call (vs := [(.pointer (some ⟨rb, 0, none⟩)), (.agg #[(.int .i64 W2), (.int .i64 H2), (.slice ad2 m cap2)])]) rfl rfl T.own17 (by decide) (fun wc hw => room_p1 w _ W2 H2 rb m cap2 ad2 ys 1 xq33.2.2.1.1 xq33.2.2.1.2.1 xq33.1.1 xq33.1.2.1 ([(Value.slice (some ⟨xq33.2.2.2, 0, none⟩) (n + 5) (n + 5))]) xq33.2.2.1.2.2 ([(Value.slice (some ⟨xq33.2.1.1, 0, none⟩) (n + 5) xq33.2.1.2.1)]) xq33.1.2.2 wc hl2 hb2 (by first | decide | omega) (by first | rfl | omega) (by first | rfl | omega) hq34.1 hq34.2 (hw.pick (idx := [4, 2, 0, 1, 3, 5, 6, 7, 8, 9, 10]) (by decide) rfl))) (fun _ => (ulS (ulS (ulS (ulS (ulS (ulS (ulS (ulS (ulS (ulC (ulC (ulC (ulC ulN)))))))))))))) (fun xq35 hq36 => ?_)
        refine GH.one 8 rfl (by kernel_rfl) (Stp.st8 (cs' := [(.int .i64 W), (.int .i64 H), (.slice (some ⟨xq33.2.2.2, 0, none⟩) n (n + 5))]) rfl rfl rfl T.sz32 rfl rfl rfl) (fun _ => (ulS (ulS (ulS (ulS (ulS (ulS (ulS (ulS (ulS (ulC (ulC (ulC (ulC ulN)))))))))))))) (fun _ _ => ?_)
        refine GH.done (by kernel_rfl) ?_
        refine GE.thenN ?_
        refine GE.tail rfl (Stp.st7 (cs' := [(.int .i64 W2), (.int .i64 H2), (.slice (some ⟨xq35.2.2.2, 0, none⟩) m (m + 5))]) rfl rfl rfl T.sz32 rfl rfl rfl) (fun _ _ => ?_)
        refine GE.thenN ?_
        exact St.mk ((xq33, xq35, bq23, bq32)) trivial (idx := [0, 1, 2, 3, 4, 5, 6, 8, 7, 9, 10, 11, 12]) ((sub_cons rfl ((sub_cons rfl ((sub_cons rfl ((sub_cons rfl ((sub_cons rfl ((sub_cons rfl ((sub_cons rfl ((sub_cons rfl ((sub_cons rfl ((sub_cons rfl ((sub_cons rfl ((sub_cons rfl ((sub_cons rfl ((sub_cons rfl ((sub_nil _)))))))))))))))))))))))))))))) (by decide) rfl
      exact GHs.nil
    refine GHs.cons rfl (Stp.alloc T.zr32 (by decide)) (fun _ => (ulS (ulS (ulC (ulC (ulC (ulC ulN))))))) (fun bq37 _ => ?_) ?_
    · refine GH.many (rs := [2, 6]) (by kernel_rfl) (by simp) ?_
      refine GHs.cons rfl (Stp.call (vs := [(.pointer (some ⟨rb, 0, none⟩)), (.agg #[(.int .i64 W), (.int .i64 H), (.slice ad n cap)])]) rfl rfl T.own17 (by decide) (fun wc hw => room_p0 w _ W H rb n cap ad xs wc hl hb (hw.pick (idx := [1, 0, 2, 3, 4, 5]) (by decide) rfl))) (fun _ => (ulS (ulS (ulS (ulS (ulS (ulS (ulC (ulC (ulC (ulC ulN))))))))))) (fun xq38 hq39 => ?_) ?_
      · refine GH.many (rs := [5, 6]) (by kernel_rfl) (by simp) ?_
        refine GHs.cons rfl (Stp.call (vs := [(.pointer (some ⟨rb, 0, none⟩)), (.agg #[(.int .i64 W2), (.int .i64 H2), (.slice ad2 m cap2)])]) rfl rfl T.own17 (by decide) (fun wc hw => room_p1 w _ W2 H2 rb m cap2 ad2 ys 1 xq38.2.2.1.1 xq38.2.2.1.2.1 xq38.1.1 xq38.1.2.1 ([(Value.slice (some ⟨xq38.2.2.2, 0, none⟩) (n + 5) (n + 5))]) xq38.2.2.1.2.2 ([(Value.slice (some ⟨xq38.2.1.1, 0, none⟩) (n + 5) xq38.2.1.2.1)]) xq38.1.2.2 wc hl2 hb2 (by first | decide | omega) (by first | rfl | omega) (by first | rfl | omega) hq39.1 hq39.2 (hw.pick (idx := [4, 2, 0, 1, 3, 5, 6, 7, 8, 9]) (by decide) rfl))) (fun _ => (ulS (ulS (ulS (ulS (ulS (ulS (ulS (ulS (ulC (ulC (ulC (ulC ulN))))))))))))) (fun xq40 hq41 => ?_) ?_
        · refine GH.one 6 rfl (by kernel_rfl) (Stp.alloc T.zr32 (by decide)) (fun _ => (ulS (ulS (ulS (ulS (ulS (ulS (ulS (ulS (ulS (ulC (ulC (ulC (ulC ulN)))))))))))))) (fun bq42 _ => ?_)
          refine GH.one 8 rfl (by kernel_rfl) (Stp.st0 (cs' := [(.int .i64 W), (.int .i64 H), (.slice (some ⟨xq38.2.2.2, 0, none⟩) n (n + 5))]) rfl rfl rfl T.sz32 rfl rfl rfl) (fun _ => (ulS (ulS (ulS (ulS (ulS (ulS (ulS (ulS (ulS (ulC (ulC (ulC (ulC ulN)))))))))))))) (fun _ _ => ?_)
          refine GH.done (by kernel_rfl) ?_
          refine GE.thenN ?_
          refine GE.tail rfl (Stp.st8 (cs' := [(.int .i64 W2), (.int .i64 H2), (.slice (some ⟨xq40.2.2.2, 0, none⟩) m (m + 5))]) rfl rfl rfl T.sz32 rfl rfl rfl) (fun _ _ => ?_)
          refine GE.thenN ?_
          exact St.mk ((xq38, xq40, bq42, bq37)) trivial (idx := [1, 2, 3, 4, 5, 6, 7, 0, 8, 9, 10, 11, 12]) ((sub_cons rfl ((sub_cons rfl ((sub_cons rfl ((sub_cons rfl ((sub_cons rfl ((sub_cons rfl ((sub_cons rfl ((sub_cons rfl ((sub_cons rfl ((sub_cons rfl ((sub_cons rfl ((sub_cons rfl ((sub_cons rfl ((sub_cons rfl ((sub_nil _)))))))))))))))))))))))))))))) (by decide) rfl
        refine GHs.cons rfl (Stp.alloc T.zr32 (by decide)) (fun _ => (ulS (ulS (ulS (ulS (ulS (ulS (ulS (ulC (ulC (ulC (ulC ulN)))))))))))) (fun bq43 _ => ?_) ?_
        · refine GH.one 5 rfl (by kernel_rfl) (Stp.call (vs := [(.pointer (some ⟨rb, 0, none⟩)), (.agg #[(.int .i64 W2), (.int .i64 H2), (.slice ad2 m cap2)])]) rfl rfl T.own17 (by decide) (fun wc hw => room_p1 w _ W2 H2 rb m cap2 ad2 ys 1 xq38.2.2.1.1 xq38.2.2.1.2.1 xq38.1.1 xq38.1.2.1 ([(Value.slice (some ⟨xq38.2.2.2, 0, none⟩) (n + 5) (n + 5))]) xq38.2.2.1.2.2 ([(Value.slice (some ⟨xq38.2.1.1, 0, none⟩) (n + 5) xq38.2.1.2.1)]) xq38.1.2.2 wc hl2 hb2 (by first | decide | omega) (by first | rfl | omega) (by first | rfl | omega) hq39.1 hq39.2 (hw.pick (idx := [5, 3, 1, 0, 2, 4, 6, 7, 8, 9, 10]) (by decide) rfl))) (fun _ => (ulS (ulS (ulS (ulS (ulS (ulS (ulS (ulS (ulS (ulC (ulC (ulC (ulC ulN)))))))))))))) (fun xq44 hq45 => ?_)
          refine GH.one 8 rfl (by kernel_rfl) (Stp.st5 (cs' := [(.int .i64 W), (.int .i64 H), (.slice (some ⟨xq38.2.2.2, 0, none⟩) n (n + 5))]) rfl rfl rfl T.sz32 rfl rfl rfl) (fun _ => (ulS (ulS (ulS (ulS (ulS (ulS (ulS (ulS (ulS (ulC (ulC (ulC (ulC ulN)))))))))))))) (fun _ _ => ?_)
          refine GH.done (by kernel_rfl) ?_
          refine GE.thenN ?_
          refine GE.tail rfl (Stp.st8 (cs' := [(.int .i64 W2), (.int .i64 H2), (.slice (some ⟨xq44.2.2.2, 0, none⟩) m (m + 5))]) rfl rfl rfl T.sz32 rfl rfl rfl) (fun _ _ => ?_)
          refine GE.thenN ?_
          exact St.mk ((xq38, xq44, bq43, bq37)) trivial (idx := [0, 1, 2, 3, 4, 6, 7, 5, 8, 9, 10, 11, 12]) ((sub_cons rfl ((sub_cons rfl ((sub_cons rfl ((sub_cons rfl ((sub_cons rfl ((sub_cons rfl ((sub_cons rfl ((sub_cons rfl ((sub_cons rfl ((sub_cons rfl ((sub_cons rfl ((sub_cons rfl ((sub_cons rfl ((sub_cons rfl ((sub_nil _)))))))))))))))))))))))))))))) (by decide) rfl
        exact GHs.nil
      refine GHs.cons rfl (Stp.alloc T.zr32 (by decide)) (fun _ => (ulS (ulS (ulS (ulC (ulC (ulC (ulC ulN)))))))) (fun bq46 _ => ?_) ?_
      · refine GH.one 2 rfl (by kernel_rfl) (Stp.call (vs := [(.pointer (some ⟨rb, 0, none⟩)), (.agg #[(.int .i64 W), (.int .i64 H), (.slice ad n cap)])]) rfl rfl T.own17 (by decide) (fun wc hw => room_p0 w _ W H rb n cap ad xs wc hl hb (hw.pick (idx := [2, 0, 1, 3, 4, 5, 6]) (by decide) rfl))) (fun _ => (ulS (ulS (ulS (ulS (ulS (ulS (ulS (ulC (ulC (ulC (ulC ulN)))))))))))) (fun xq47 hq48 => ?_)
        refine GH.one 5 rfl (by kernel_rfl) (Stp.call (vs := [(.pointer (some ⟨rb, 0, none⟩)), (.agg #[(.int .i64 W2), (.int .i64 H2), (.slice ad2 m cap2)])]) rfl rfl T.own17 (by decide) (fun wc hw => room_p1 w _ W2 H2 rb m cap2 ad2 ys 1 xq47.2.2.1.1 xq47.2.2.1.2.1 xq47.1.1 xq47.1.2.1 ([(Value.slice (some ⟨xq47.2.2.2, 0, none⟩) (n + 5) (n + 5))]) xq47.2.2.1.2.2 ([(Value.slice (some ⟨xq47.2.1.1, 0, none⟩) (n + 5) xq47.2.1.2.1)]) xq47.1.2.2 wc hl2 hb2 (by first | decide | omega) (by first | rfl | omega) (by first | rfl | omega) hq48.1 hq48.2 (hw.pick (idx := [4, 2, 0, 1, 3, 5, 6, 7, 8, 9, 10]) (by decide) rfl))) (fun _ => (ulS (ulS (ulS (ulS (ulS (ulS (ulS (ulS (ulS (ulC (ulC (ulC (ulC ulN)))))))))))))) (fun xq49 hq50 => ?_)
        refine GH.one 8 rfl (by kernel_rfl) (Stp.st7 (cs' := [(.int .i64 W), (.int .i64 H), (.slice (some ⟨xq47.2.2.2, 0, none⟩) n (n + 5))]) rfl rfl rfl T.sz32 rfl rfl rfl) (fun _ => (ulS (ulS (ulS (ulS (ulS (ulS (ulS (ulS (ulS (ulC (ulC (ulC (ulC ulN)))))))))))))) (fun _ _ => ?_)
        refine GH.done (by kernel_rfl) ?_
        refine GE.thenN ?_
        refine GE.tail rfl (Stp.st8 (cs' := [(.int .i64 W2), (.int .i64 H2), (.slice (some ⟨xq49.2.2.2, 0, none⟩) m (m + 5))]) rfl rfl rfl T.sz32 rfl rfl rfl) (fun _ _ => ?_)
        refine GE.thenN ?_
        exact St.mk ((xq47, xq49, bq46, bq37)) trivial (idx := [0, 1, 2, 3, 4, 5, 6, 7, 8, 9, 10, 11, 12]) ((sub_cons rfl ((sub_cons rfl ((sub_cons rfl ((sub_cons rfl ((sub_cons rfl ((sub_cons rfl ((sub_cons rfl ((sub_cons rfl ((sub_cons rfl ((sub_cons rfl ((sub_cons rfl ((sub_cons rfl ((sub_cons rfl ((sub_cons rfl ((sub_nil _)))))))))))))))))))))))))))))) (by decide) rfl
      exact GHs.nil
    exact GHs.nil
  exact K j

set_option maxRecDepth 100000 in
set_option maxHeartbeats 1000000 in
theorem mv_iq (W H n cap b o : Nat) (xs : List Int) (V U m cap2 b2 o2 : Nat) (ys : List Int) (X0 Y0 X1 Y1 : Nat) (x y q1 : Int) (w : World) (hok : okP W H) (hn : n = W * H) (hl : Lst w (some ⟨b, o, none⟩) n xs) (hr : Rd w b o (xs.map u32)) (hb : n ≤ 35184372087808) (hok2 : okP V U) (hn2 : m = V * U) (hl2 : Lst w (some ⟨b2, o2, none⟩) m ys) (hr2 : Rd w b2 o2 (ys.map u32)) (hb2 : m ≤ 35184372087808) (hX0 : X0 < X1) (hX1 : X1 ≤ W) (hY0 : Y0 < Y1) (hY1 : Y1 ≤ H) (hxb : -9223372036854775808 ≤ x ∧ x ≤ 9223372036854775807) (hyb : -9223372036854775808 ≤ y ∧ y ≤ 9223372036854775807) :
    Calls Try.prog 8 #[(.agg #[(.int .i64 (((W : Nat) : Int))), (.int .i64 (((H : Nat) : Int))), (.slice (some ⟨b, o, none⟩) n cap)]), (.agg #[(.int .i64 (((V : Nat) : Int))), (.int .i64 (((U : Nat) : Int))), (.slice (some ⟨b2, o2, none⟩) m cap2)]), (.agg #[(.int .i64 (((X0 : Nat) : Int))), (.int .i64 (((Y0 : Nat) : Int))), (.int .i64 (((X1 : Nat) : Int))), (.int .i64 (((Y1 : Nat) : Int)))]), (.int .i64 x), (.int .i64 y), (.int .i64 q1)] w (Ret w (fun _ : Unit => True) (fun _ => .bool true) (fun _ => [])) := by
  have hx := hl.1
  have hc0 : chk W H n = 0 := by rw [hn]; exact chk_ok hok
  refine enter (M := None) (L := []) (n := 169) (l := [(0, (.agg #[(.int .i64 (((W : Nat) : Int))), (.int .i64 (((H : Nat) : Int))), (.slice (some ⟨b, o, none⟩) n cap)])), (1, (.agg #[(.int .i64 (((V : Nat) : Int))), (.int .i64 (((U : Nat) : Int))), (.slice (some ⟨b2, o2, none⟩) m cap2)])), (2, (.agg #[(.int .i64 (((X0 : Nat) : Int))), (.int .i64 (((Y0 : Nat) : Int))), (.int .i64 (((X1 : Nat) : Int))), (.int .i64 (((Y1 : Nat) : Int)))])), (3, (.int .i64 x)), (4, (.int .i64 y)), (5, (.int .i64 q1))]) Try.func8 rfl rfl (Args.cons rfl (Args.cons rfl (Args.cons rfl (Args.cons rfl (Args.cons rfl (Args.cons rfl (Args.nil _))))))) (Hp.start _ _) ?_
  refine GC.seq ?_
  refine GC.region ?_
  refine GL.step (Stp.box (cs := [(.int .i64 (((W : Nat) : Int))), (.int .i64 (((H : Nat) : Int))), (.slice (some ⟨b, o, none⟩) n cap)]) rfl rfl (by decide)) (fun bq1 _ => ?_)
  refine GL.step (Stp.box (cs := [(.int .i64 (((V : Nat) : Int))), (.int .i64 (((U : Nat) : Int))), (.slice (some ⟨b2, o2, none⟩) m cap2)]) rfl rfl (by decide)) (fun bq2 _ => ?_)
  refine GL.step (Stp.box (cs := [(.int .i64 (((X0 : Nat) : Int))), (.int .i64 (((Y0 : Nat) : Int))), (.int .i64 (((X1 : Nat) : Int))), (.int .i64 (((Y1 : Nat) : Int)))]) rfl rfl (by decide)) (fun bq3 _ => ?_)
  refine GL.val (Ex.assign rfl) (by decide) ?_
  refine GL.nil ?_
  refine GE.thenN ?_
  refine GC.seq ?_
  refine GC.seq ?_
  refine GC.region ?_
  refine GL.step (Stp.callR (vs := []) rfl rfl T.own13 (by decide) (fun wc hw => known wc)) (fun xq4 hq5 => ?_)
  refine GL.val (v := (.bool false)) (Ex.cast (Ex.not rfl) rfl) (by decide) ?_
  refine GL.nil ?_
  refine GE.thenN ?_
  refine GC.cond rfl (fun hq6 => by cases hq6) (fun _ => ?_)
  refine GC.skip ?_
  refine GE.thenN ?_
  refine GC.seq ?_
  refine GC.region ?_
  refine GL.val (v := (.agg #[(.slice none 0 0), (.slice none 0 0), (.slice none 0 0), (.slice none 0 0), (.slice none 0 0), (.slice none 0 0), (.slice none 0 0), (.slice none 0 0)])) (Ex.build (vs := []) rfl (by first | rfl | kernel_rfl)) (by decide) ?_
  refine GL.step (Stp.box (cs := [(.slice none 0 0), (.slice none 0 0), (.slice none 0 0), (.slice none 0 0), (.slice none 0 0), (.slice none 0 0), (.slice none 0 0), (.slice none 0 0)]) rfl rfl (by decide)) (fun bq7 _ => ?_)
  refine GL.val (Ex.assign rfl) (by decide) ?_
  refine GL.nil ?_
  refine GE.thenN ?_
  refine GC.seq ?_
  refine GC.region ?_
  refine GL.val (v := (.agg #[(.slice none 0 0), (.slice none 0 0), (.slice none 0 0), (.slice none 0 0), (.slice none 0 0), (.slice none 0 0), (.slice none 0 0), (.slice none 0 0)])) (Ex.build (vs := []) rfl (by first | rfl | kernel_rfl)) (by decide) ?_
  refine GL.step (Stp.box (cs := [(.slice none 0 0), (.slice none 0 0), (.slice none 0 0), (.slice none 0 0), (.slice none 0 0), (.slice none 0 0), (.slice none 0 0), (.slice none 0 0)]) rfl rfl (by decide)) (fun bq8 _ => ?_)
  refine GL.val (Ex.assign rfl) (by decide) ?_
  refine GL.nil ?_
  refine GE.thenN ?_
  refine GC.seq ?_
  refine GC.sub (l' := [(0, (.agg #[(.int .i64 (((W : Nat) : Int))), (.int .i64 (((H : Nat) : Int))), (.slice (some ⟨b, o, none⟩) n cap)])), (1, (.agg #[(.int .i64 (((V : Nat) : Int))), (.int .i64 (((U : Nat) : Int))), (.slice (some ⟨b2, o2, none⟩) m cap2)])), (2, (.agg #[(.int .i64 (((X0 : Nat) : Int))), (.int .i64 (((Y0 : Nat) : Int))), (.int .i64 (((X1 : Nat) : Int))), (.int .i64 (((Y1 : Nat) : Int)))])), (3, (.int .i64 x)), (4, (.int .i64 y)), (5, (.int .i64 q1)), (6, (.pointer (some ⟨bq1, 0, none⟩))), (7, (.pointer (some ⟨bq2, 0, none⟩))), (8, (.pointer (some ⟨bq3, 0, none⟩))), (12, (.bool false)), (13, (.pointer (some ⟨bq7, 0, none⟩))), (14, (.pointer (some ⟨bq8, 0, none⟩)))]) ((sub_cons rfl ((sub_cons rfl ((sub_cons rfl ((sub_cons rfl ((sub_cons rfl ((sub_cons rfl ((sub_cons rfl ((sub_cons rfl ((sub_cons rfl ((sub_cons rfl ((sub_cons rfl ((sub_cons rfl ((sub_nil _)))))))))))))))))))))))))) ulR ?_
  refine mv_lend (((W : Nat) : Int)) (((H : Nat) : Int)) (some ⟨b, o, none⟩) n cap xs (((V : Nat) : Int)) (((U : Nat) : Int)) (some ⟨b2, o2, none⟩) m cap2 ys (.agg #[(.int .i64 (((X0 : Nat) : Int))), (.int .i64 (((Y0 : Nat) : Int))), (.int .i64 (((X1 : Nat) : Int))), (.int .i64 (((Y1 : Nat) : Int)))]) (.int .i64 x) (.int .i64 y) (.int .i64 q1) (.bool false) bq8 bq7 bq3 bq2 bq1 [(.int .i64 (((X0 : Nat) : Int))), (.int .i64 (((Y0 : Nat) : Int))), (.int .i64 (((X1 : Nat) : Int))), (.int .i64 (((Y1 : Nat) : Int)))] w hl hb hl2 hb2 (fun _ _ _ _ _ h => h) (fun j => ?_)
  refine GE.thenN ?_
  refine GC.seq ?_
  refine GC.seq ?_
  refine GC.region ?_
  refine GL.val (Ex.assign rfl) (by decide) ?_
  refine GL.nil ?_
  refine GE.thenN ?_
  refine GC.block ?_
  refine GC.unroll 3 ?_
  refine GE.round ?_
  refine GC.seq ?_
  refine GC.seq ?_
  refine GC.region ?_
  refine GL.val (Ex.move rfl) (by decide) ?_
  refine GL.val (v := (.bool true)) (Ex.cast (Ex.lss rfl rfl) rfl) (by decide) ?_
  refine GL.nil ?_
  refine GE.thenN ?_
  refine GC.cond rfl (fun _ => ?_) (fun hq9 => by cases hq9)
  refine GC.skip ?_
  refine GE.thenN ?_
  refine GC.seq ?_
  refine GC.block ?_
  refine GC.seq ?_
  refine GC.region ?_
  refine GL.val (Ex.move rfl) (by decide) ?_
  refine GL.val (v := (.int .i64 0)) (Ex.mul rfl rfl (Z := 0) (by decide)) (by decide) ?_
  refine GL.val (Ex.assign rfl) (by decide) ?_
  refine GL.nil ?_
  refine GE.thenN ?_
  refine GC.seq ?_
  refine GC.region ?_
  refine GL.val (v := (.agg #[(.int .i64 (((W : Nat) : Int))), (.int .i64 (((H : Nat) : Int))), (.slice (some ⟨j.1.2.2.2, 0, none⟩) n (n + 5))])) (Ex.loadA rfl T.ag32 T.sz32 (i := 7) rfl (vs := [(.int .i64 (((W : Nat) : Int))), (.int .i64 (((H : Nat) : Int))), (.slice (some ⟨j.1.2.2.2, 0, none⟩) n (n + 5))]) rfl rfl) (by decide) ?_
  refine GL.val (v := (.agg #[(.int .i64 (((X0 : Nat) : Int))), (.int .i64 (((Y0 : Nat) : Int))), (.int .i64 (((X1 : Nat) : Int))), (.int .i64 (((Y1 : Nat) : Int)))])) (Ex.loadA rfl T.ag54 T.sz54 (i := 10) rfl (vs := [(.int .i64 (((X0 : Nat) : Int))), (.int .i64 (((Y0 : Nat) : Int))), (.int .i64 (((X1 : Nat) : Int))), (.int .i64 (((Y1 : Nat) : Int)))]) rfl rfl) (by decide) ?_
  refine GL.step (Stp.callR (vs := [(.agg #[(.int .i64 (((W : Nat) : Int))), (.int .i64 (((H : Nat) : Int))), (.slice (some ⟨j.1.2.2.2, 0, none⟩) n (n + 5))]), (.agg #[(.int .i64 (((X0 : Nat) : Int))), (.int .i64 (((Y0 : Nat) : Int))), (.int .i64 (((X1 : Nat) : Int))), (.int .i64 (((Y1 : Nat) : Int)))])]) rfl rfl T.own24 (by decide) (fun wc hw => crop_in W H n (n + 5) j.1.2.2.2 0 X0 Y0 X1 Y1 xs wc hok hn hx (Rd.lent (hw.rdOf (i := 6) rfl 0)) hX0 hX1 hY0 hY1)) (fun xq10 hq11 => ?_)
  refine GL.val (Ex.move rfl) (by decide) ?_
  refine GL.val (Ex.extract rfl rfl) (by decide) ?_
  refine GL.val (Ex.extract rfl rfl) (by decide) ?_
  refine GL.step (Stp.alloc T.zr32 (by decide)) (fun bq12 _ => ?_)
  refine GL.step (Stp.st0 (cs' := [(.int .i64 (((X1 - X0 : Nat) : Int))), (.int .i64 (((Y1 - Y0 : Nat) : Int))), (.slice (some ⟨xq10, 0, none⟩) ((X1 - X0) * (Y1 - Y0)) ((X1 - X0) * (Y1 - Y0)))]) rfl rfl rfl T.sz32 rfl rfl rfl) (fun _ _ => ?_)
  refine GL.val (Ex.assign rfl) (by decide) ?_
  refine GL.nil ?_
  refine GE.thenN ?_
  refine GC.seq ?_
  refine GC.region ?_
  refine GL.val (v := (.agg #[(.int .i64 (((W : Nat) : Int))), (.int .i64 (((H : Nat) : Int))), (.slice (some ⟨b, o, none⟩) n cap)])) (Ex.loadA rfl T.ag32 T.sz32 (i := 14) rfl (vs := [(.int .i64 (((W : Nat) : Int))), (.int .i64 (((H : Nat) : Int))), (.slice (some ⟨b, o, none⟩) n cap)]) rfl rfl) (by decide) ?_
  refine GL.val (v := (.agg #[(.int .i64 (((X0 : Nat) : Int))), (.int .i64 (((Y0 : Nat) : Int))), (.int .i64 (((X1 : Nat) : Int))), (.int .i64 (((Y1 : Nat) : Int)))])) (Ex.loadA rfl T.ag54 T.sz54 (i := 12) rfl (vs := [(.int .i64 (((X0 : Nat) : Int))), (.int .i64 (((Y0 : Nat) : Int))), (.int .i64 (((X1 : Nat) : Int))), (.int .i64 (((Y1 : Nat) : Int)))]) rfl rfl) (by decide) ?_
  refine GL.step (Stp.callR (vs := [(.agg #[(.int .i64 (((W : Nat) : Int))), (.int .i64 (((H : Nat) : Int))), (.slice (some ⟨b, o, none⟩) n cap)]), (.agg #[(.int .i64 (((X0 : Nat) : Int))), (.int .i64 (((Y0 : Nat) : Int))), (.int .i64 (((X1 : Nat) : Int))), (.int .i64 (((Y1 : Nat) : Int)))])]) rfl rfl T.own27 (by decide) (fun wc hw => ref_crop W H n cap b o X0 Y0 X1 Y1 xs wc hok hn hx (hw.rd hr (fun x => x)) hX0 hX1 hY0 hY1)) (fun xq13 hq14 => ?_)
  refine GL.val (Ex.move rfl) (by decide) ?_
  refine GL.val (Ex.extract rfl rfl) (by decide) ?_
  refine GL.val (Ex.extract rfl rfl) (by decide) ?_
  refine GL.step (Stp.alloc T.zr32 (by decide)) (fun bq15 _ => ?_)
  refine GL.step (Stp.st0 (cs' := [(.int .i64 (((X1 - X0 : Nat) : Int))), (.int .i64 (((Y1 - Y0 : Nat) : Int))), (.slice (some ⟨xq13, 0, none⟩) ((X1 - X0) * (Y1 - Y0)) ((X1 - X0) * (Y1 - Y0)))]) rfl rfl rfl T.sz32 rfl rfl rfl) (fun _ _ => ?_)
  refine GL.val (Ex.assign rfl) (by decide) ?_
  refine GL.nil ?_
  refine GE.thenN ?_
  refine GC.seq ?_
  refine GC.seq ?_
  refine GC.region ?_
  refine GL.val (v := (.agg #[(.int .i64 (((X1 - X0 : Nat) : Int))), (.int .i64 (((Y1 - Y0 : Nat) : Int))), (.slice (some ⟨xq10, 0, none⟩) ((X1 - X0) * (Y1 - Y0)) ((X1 - X0) * (Y1 - Y0)))])) (Ex.loadA rfl T.ag32 T.sz32 (i := 2) rfl (vs := [(.int .i64 (((X1 - X0 : Nat) : Int))), (.int .i64 (((Y1 - Y0 : Nat) : Int))), (.slice (some ⟨xq10, 0, none⟩) ((X1 - X0) * (Y1 - Y0)) ((X1 - X0) * (Y1 - Y0)))]) rfl rfl) (by decide) ?_
  refine GL.val (Ex.move rfl) (by decide) ?_
  refine GL.val (v := (.agg #[(.int .i64 (((X1 - X0 : Nat) : Int))), (.int .i64 (((Y1 - Y0 : Nat) : Int))), (.slice (some ⟨xq13, 0, none⟩) ((X1 - X0) * (Y1 - Y0)) ((X1 - X0) * (Y1 - Y0)))])) (Ex.loadA rfl T.ag32 T.sz32 (i := 0) rfl (vs := [(.int .i64 (((X1 - X0 : Nat) : Int))), (.int .i64 (((Y1 - Y0 : Nat) : Int))), (.slice (some ⟨xq13, 0, none⟩) ((X1 - X0) * (Y1 - Y0)) ((X1 - X0) * (Y1 - Y0)))]) rfl rfl) (by decide) ?_
  refine GL.val (Ex.move rfl) (by decide) ?_
  refine GL.step (Stp.callR (vs := [(.agg #[(.int .i64 (((X1 - X0 : Nat) : Int))), (.int .i64 (((Y1 - Y0 : Nat) : Int))), (.slice (some ⟨xq10, 0, none⟩) ((X1 - X0) * (Y1 - Y0)) ((X1 - X0) * (Y1 - Y0)))]), (.int .i64 0), (.agg #[(.int .i64 (((X1 - X0 : Nat) : Int))), (.int .i64 (((Y1 - Y0 : Nat) : Int))), (.slice (some ⟨xq13, 0, none⟩) ((X1 - X0) * (Y1 - Y0)) ((X1 - X0) * (Y1 - Y0)))]), (.int .i64 0)]) rfl rfl T.own20 (by decide) (fun wc hw => same_ (((X1 - X0 : Nat) : Int)) (((Y1 - Y0 : Nat) : Int)) (some ⟨xq10, 0, none⟩) ((X1 - X0) * (Y1 - Y0)) ((X1 - X0) * (Y1 - Y0)) (((X1 - X0 : Nat) : Int)) (((Y1 - Y0 : Nat) : Int)) (some ⟨xq13, 0, none⟩) ((X1 - X0) * (Y1 - Y0)) ((X1 - X0) * (Y1 - Y0)) 0 (crp xs W X0 Y0 (X1 - X0) (Y1 - Y0)) (crp xs W X0 Y0 (X1 - X0) (Y1 - Y0)) wc (by have h' := ((show okP (X1 - X0) (Y1 - Y0) from (hok.part (by omega) (by omega) (by omega) (by omega)))).2.2.2.2; omega) (LsR.blk crp_len (hw.rdOf (i := 3) rfl 0)) (LsR.blk crp_len (hw.rdOf (i := 1) rfl 0)) (by first | rfl | omega) (by first | rfl | omega) (by first | rfl | (simp only [Nat.add_zero])))) (fun xq16 hq17 => ?_)
  refine GL.val (v := (.bool false)) (Ex.cast (Ex.not rfl) rfl) (by decide) ?_
  refine GL.nil ?_
  refine GE.thenN ?_
  refine GC.cond rfl (fun hq18 => by cases hq18) (fun _ => ?_)
  refine GC.skip ?_
  refine GE.thenN ?_
  refine GC.seq ?_
  refine GC.region ?_
  refine GL.val (Ex.move rfl) (by decide) ?_
  refine GL.val (v := (.agg #[(.int .i64 (((X1 - X0 : Nat) : Int))), (.int .i64 (((Y1 - Y0 : Nat) : Int))), (.slice (some ⟨xq10, 0, none⟩) ((X1 - X0) * (Y1 - Y0)) ((X1 - X0) * (Y1 - Y0)))])) (Ex.loadA rfl T.ag32 T.sz32 (i := 2) rfl (vs := [(.int .i64 (((X1 - X0 : Nat) : Int))), (.int .i64 (((Y1 - Y0 : Nat) : Int))), (.slice (some ⟨xq10, 0, none⟩) ((X1 - X0) * (Y1 - Y0)) ((X1 - X0) * (Y1 - Y0)))]) rfl rfl) (by decide) ?_
  refine GL.val (Ex.move rfl) (by decide) ?_
  refine GL.step (Stp.call (vs := [(.pointer (some ⟨bq7, 0, none⟩)), (.agg #[(.int .i64 (((X1 - X0 : Nat) : Int))), (.int .i64 (((Y1 - Y0 : Nat) : Int))), (.slice (some ⟨xq10, 0, none⟩) ((X1 - X0) * (Y1 - Y0)) ((X1 - X0) * (Y1 - Y0)))]), (.int .i64 0)]) rfl rfl T.own21 (by decide) (fun wc hw => book_p01 w _ (((X1 - X0 : Nat) : Int)) (((Y1 - Y0 : Nat) : Int)) bq7 0 xq10 ((X1 - X0) * (Y1 - Y0)) ((X1 - X0) * (Y1 - Y0)) ((crp xs W X0 Y0 (X1 - X0) (Y1 - Y0)).map u32) wc (by rw [List.length_map]; exact crp_len) (by have h' := ((show okP (X1 - X0) (Y1 - Y0) from (hok.part (by omega) (by omega) (by omega) (by omega)))).2.2.2.2; omega) (hw.pick (idx := [13, 3, 0, 1, 2, 4, 5, 6, 7, 8, 9, 10, 11, 12, 14, 15, 16]) (by decide) rfl))) (fun xq19 hq20 => ?_)
  refine GL.nil ?_
  refine GE.thenN ?_
  refine GC.seq ?_
  refine GC.pick (idx := [0, 1, 2, 3, 4, 6, 7, 8, 9, 10, 11, 12, 13, 14, 15, 16, 17, 18]) (by decide) rfl ?_
  refine GC.region ?_
  refine GL.val (v := (.agg #[(.int .i64 (((W : Nat) : Int))), (.int .i64 (((H : Nat) : Int))), (.slice (some ⟨j.1.2.2.2, 0, none⟩) n (n + 5))])) (Ex.loadA rfl T.ag32 T.sz32 (i := 13) rfl (vs := [(.int .i64 (((W : Nat) : Int))), (.int .i64 (((H : Nat) : Int))), (.slice (some ⟨j.1.2.2.2, 0, none⟩) n (n + 5))]) rfl rfl) (by decide) ?_
  refine GL.val (v := (.agg #[(.int .i64 (((V : Nat) : Int))), (.int .i64 (((U : Nat) : Int))), (.slice (some ⟨j.2.1.2.2.2, 0, none⟩) m (m + 5))])) (Ex.loadA rfl T.ag32 T.sz32 (i := 14) rfl (vs := [(.int .i64 (((V : Nat) : Int))), (.int .i64 (((U : Nat) : Int))), (.slice (some ⟨j.2.1.2.2.2, 0, none⟩) m (m + 5))]) rfl rfl) (by decide) ?_
  refine GL.val (Ex.move rfl) (by decide) ?_
  refine GL.val (Ex.move rfl) (by decide) ?_
  refine GL.step (Stp.callR (vs := [(.agg #[(.int .i64 (((W : Nat) : Int))), (.int .i64 (((H : Nat) : Int))), (.slice (some ⟨j.1.2.2.2, 0, none⟩) n (n + 5))]), (.agg #[(.int .i64 (((V : Nat) : Int))), (.int .i64 (((U : Nat) : Int))), (.slice (some ⟨j.2.1.2.2.2, 0, none⟩) m (m + 5))]), (.int .i64 x), (.int .i64 y)]) rfl rfl T.own25 (by decide) (fun wc hw => paste W H n (n + 5) j.1.2.2.2 0 V U m (m + 5) j.2.1.2.2.2 0 xs ys x y wc hok hn hx (Rd.lent (hw.rdOf (i := 12) rfl 0)) hok2 hn2 hl2.1 (Rd.lent (hw.rdOf (i := 9) rfl 0)) hxb hyb)) (fun xq21 hq22 => ?_)
  refine GL.val (Ex.move rfl) (by decide) ?_
  refine GL.val (Ex.extract rfl rfl) (by decide) ?_
  refine GL.val (Ex.extract rfl rfl) (by decide) ?_
  refine GL.step (Stp.st6 (cs' := [(.int .i64 (((W : Nat) : Int))), (.int .i64 (((H : Nat) : Int))), (.slice (some ⟨xq21, 0, none⟩) (W * H) (W * H))]) rfl rfl rfl T.sz32 rfl rfl rfl) (fun _ _ => ?_)
  refine GL.val (Ex.assign rfl) (by decide) ?_
  refine GL.nil ?_
  refine GE.thenN ?_
  refine GC.seq ?_
  refine GC.region ?_
  refine GL.val (v := (.agg #[(.int .i64 (((W : Nat) : Int))), (.int .i64 (((H : Nat) : Int))), (.slice (some ⟨b, o, none⟩) n cap)])) (Ex.loadA rfl T.ag32 T.sz32 (i := 18) rfl (vs := [(.int .i64 (((W : Nat) : Int))), (.int .i64 (((H : Nat) : Int))), (.slice (some ⟨b, o, none⟩) n cap)]) rfl rfl) (by decide) ?_
  refine GL.val (v := (.agg #[(.int .i64 (((V : Nat) : Int))), (.int .i64 (((U : Nat) : Int))), (.slice (some ⟨b2, o2, none⟩) m cap2)])) (Ex.loadA rfl T.ag32 T.sz32 (i := 17) rfl (vs := [(.int .i64 (((V : Nat) : Int))), (.int .i64 (((U : Nat) : Int))), (.slice (some ⟨b2, o2, none⟩) m cap2)]) rfl rfl) (by decide) ?_
  refine GL.val (Ex.move rfl) (by decide) ?_
  refine GL.val (Ex.move rfl) (by decide) ?_
  refine GL.step (Stp.callR (vs := [(.agg #[(.int .i64 (((W : Nat) : Int))), (.int .i64 (((H : Nat) : Int))), (.slice (some ⟨b, o, none⟩) n cap)]), (.agg #[(.int .i64 (((V : Nat) : Int))), (.int .i64 (((U : Nat) : Int))), (.slice (some ⟨b2, o2, none⟩) m cap2)]), (.int .i64 x), (.int .i64 y)]) rfl rfl T.own28 (by decide) (fun wc hw => ref_paste W H n cap b o V U m cap2 b2 o2 xs ys x y wc hok hn hx (hw.rd hr (fun x => x)) hok2 hn2 hl2.1 (hw.rd hr2 (fun x => x)))) (fun xq23 hq24 => ?_)
  refine GL.val (Ex.move rfl) (by decide) ?_
  refine GL.val (Ex.extract rfl rfl) (by decide) ?_
  refine GL.val (Ex.extract rfl rfl) (by decide) ?_
  refine GL.step (Stp.st6 (cs' := [(.int .i64 (((W : Nat) : Int))), (.int .i64 (((H : Nat) : Int))), (.slice (some ⟨xq23, 0, none⟩) (W * H) (W * H))]) rfl rfl rfl T.sz32 rfl rfl rfl) (fun _ _ => ?_)
  refine GL.val (Ex.assign rfl) (by decide) ?_
  refine GL.nil ?_
  refine GE.thenN ?_
  refine GC.seq ?_
  refine GC.seq ?_
  refine GC.region ?_
  refine GL.val (v := (.agg #[(.int .i64 (((W : Nat) : Int))), (.int .i64 (((H : Nat) : Int))), (.slice (some ⟨xq21, 0, none⟩) (W * H) (W * H))])) (Ex.loadA rfl T.ag32 T.sz32 (i := 7) rfl (vs := [(.int .i64 (((W : Nat) : Int))), (.int .i64 (((H : Nat) : Int))), (.slice (some ⟨xq21, 0, none⟩) (W * H) (W * H))]) rfl rfl) (by decide) ?_
  refine GL.val (Ex.move rfl) (by decide) ?_
  refine GL.val (v := (.agg #[(.int .i64 (((W : Nat) : Int))), (.int .i64 (((H : Nat) : Int))), (.slice (some ⟨xq23, 0, none⟩) (W * H) (W * H))])) (Ex.loadA rfl T.ag32 T.sz32 (i := 6) rfl (vs := [(.int .i64 (((W : Nat) : Int))), (.int .i64 (((H : Nat) : Int))), (.slice (some ⟨xq23, 0, none⟩) (W * H) (W * H))]) rfl rfl) (by decide) ?_
  refine GL.val (Ex.move rfl) (by decide) ?_
  refine GL.step (Stp.callR (vs := [(.agg #[(.int .i64 (((W : Nat) : Int))), (.int .i64 (((H : Nat) : Int))), (.slice (some ⟨xq21, 0, none⟩) (W * H) (W * H))]), (.int .i64 0), (.agg #[(.int .i64 (((W : Nat) : Int))), (.int .i64 (((H : Nat) : Int))), (.slice (some ⟨xq23, 0, none⟩) (W * H) (W * H))]), (.int .i64 0)]) rfl rfl T.own20 (by decide) (fun wc hw => same_ (((W : Nat) : Int)) (((H : Nat) : Int)) (some ⟨xq21, 0, none⟩) (W * H) (W * H) (((W : Nat) : Int)) (((H : Nat) : Int)) (some ⟨xq23, 0, none⟩) (W * H) (W * H) 0 (pstd xs ys W H V U x y) (pstd xs ys W H V U x y) wc (by have h' := ((show okP W H from hok)).2.2.2.2; omega) (LsR.blk (tab_len _ _ _) (hw.rdOf (i := 1) rfl 0)) (LsR.blk (tab_len _ _ _) (hw.rdOf (i := 0) rfl 0)) (by first | rfl | omega) (by first | rfl | omega) (by first | rfl | (simp only [Nat.add_zero])))) (fun xq25 hq26 => ?_)
  refine GL.val (v := (.bool false)) (Ex.cast (Ex.not rfl) rfl) (by decide) ?_
  refine GL.nil ?_
  refine GE.thenN ?_
  refine GC.cond rfl (fun hq27 => by cases hq27) (fun _ => ?_)
  refine GC.skip ?_
  refine GE.thenN ?_
  refine GC.seq ?_
  refine GC.region ?_
  refine GL.val (Ex.move rfl) (by decide) ?_
  refine GL.val (v := (.agg #[(.int .i64 (((W : Nat) : Int))), (.int .i64 (((H : Nat) : Int))), (.slice (some ⟨xq21, 0, none⟩) (W * H) (W * H))])) (Ex.loadA rfl T.ag32 T.sz32 (i := 7) rfl (vs := [(.int .i64 (((W : Nat) : Int))), (.int .i64 (((H : Nat) : Int))), (.slice (some ⟨xq21, 0, none⟩) (W * H) (W * H))]) rfl rfl) (by decide) ?_
  refine GL.val (Ex.move rfl) (by decide) ?_
  refine GL.val (v := (.int .i64 1)) (Ex.add rfl rfl (Z := 1) (by decide)) (by decide) ?_
  refine GL.step (Stp.call (vs := [(.pointer (some ⟨bq7, 0, none⟩)), (.agg #[(.int .i64 (((W : Nat) : Int))), (.int .i64 (((H : Nat) : Int))), (.slice (some ⟨xq21, 0, none⟩) (W * H) (W * H))]), (.int .i64 1)]) rfl rfl T.own21 (by decide) (fun wc hw => book_p11 w _ (((W : Nat) : Int)) (((H : Nat) : Int)) bq7 1 xq21 (W * H) (W * H) ((pstd xs ys W H V U x y).map u32) 1 xq19.2.1 xq19.2.2.1 xq19.1.1 xq19.1.2.1 ([(Value.slice (some ⟨xq10, 0, none⟩) ((X1 - X0) * (Y1 - Y0)) ((X1 - X0) * (Y1 - Y0)))]) xq19.2.2.2 ([(Value.int .i64 0)]) xq19.1.2.2 wc (by rw [List.length_map]; exact (tab_len _ _ _)) (by have h' := ((show okP W H from hok)).2.2.2.2; omega) (by first | decide | omega) (by first | rfl | omega) (by first | rfl | omega) hq20.1 hq20.2 (hw.pick (idx := [4, 3, 2, 1, 0, 5, 6, 7, 8, 9, 10, 11, 12, 13, 14, 15, 16, 17, 18, 19]) (by decide) rfl))) (fun xq28 hq29 => ?_)
  refine GL.nil ?_
  refine GE.thenN ?_
  refine GC.seq ?_
  refine GC.pick (idx := [0, 1, 2, 3, 5, 6, 7, 8, 9, 10, 11, 12, 13, 14, 15, 16, 17, 18, 19]) (by decide) rfl ?_
  refine GC.region ?_
  refine GL.val (v := (.agg #[(.int .i64 (((W : Nat) : Int))), (.int .i64 (((H : Nat) : Int))), (.slice (some ⟨j.1.2.2.2, 0, none⟩) n (n + 5))])) (Ex.loadA rfl T.ag32 T.sz32 (i := 14) rfl (vs := [(.int .i64 (((W : Nat) : Int))), (.int .i64 (((H : Nat) : Int))), (.slice (some ⟨j.1.2.2.2, 0, none⟩) n (n + 5))]) rfl rfl) (by decide) ?_
  refine GL.val (Ex.move rfl) (by decide) ?_
  refine GL.val (v := (.bool true)) (Ex.cast (Ex.eql rfl rfl) rfl) (by decide) ?_
  refine GL.step (Stp.callR (vs := [(.agg #[(.int .i64 (((W : Nat) : Int))), (.int .i64 (((H : Nat) : Int))), (.slice (some ⟨j.1.2.2.2, 0, none⟩) n (n + 5))]), (.bool true)]) rfl rfl T.own29 (by decide) (fun wc hw => flipT W H n (n + 5) j.1.2.2.2 0 xs wc hok hn hx (Rd.lent (hw.rdOf (i := 13) rfl 0)) )) (fun xq30 hq31 => ?_)
  refine GL.val (Ex.move rfl) (by decide) ?_
  refine GL.val (Ex.extract rfl rfl) (by decide) ?_
  refine GL.val (Ex.extract rfl rfl) (by decide) ?_
  refine GL.step (Stp.st7 (cs' := [(.int .i64 (((W : Nat) : Int))), (.int .i64 (((H : Nat) : Int))), (.slice (some ⟨xq30, 0, none⟩) (W * H) (W * H))]) rfl rfl rfl T.sz32 rfl rfl rfl) (fun _ _ => ?_)
  refine GL.val (Ex.assign rfl) (by decide) ?_
  refine GL.nil ?_
  refine GE.thenN ?_
  refine GC.seq ?_
  refine GC.region ?_
  refine GL.val (v := (.agg #[(.int .i64 (((W : Nat) : Int))), (.int .i64 (((H : Nat) : Int))), (.slice (some ⟨b, o, none⟩) n cap)])) (Ex.loadA rfl T.ag32 T.sz32 (i := 19) rfl (vs := [(.int .i64 (((W : Nat) : Int))), (.int .i64 (((H : Nat) : Int))), (.slice (some ⟨b, o, none⟩) n cap)]) rfl rfl) (by decide) ?_
  refine GL.val (Ex.move rfl) (by decide) ?_
  refine GL.val (v := (.bool true)) (Ex.cast (Ex.eql rfl rfl) rfl) (by decide) ?_
  refine GL.step (Stp.callR (vs := [(.agg #[(.int .i64 (((W : Nat) : Int))), (.int .i64 (((H : Nat) : Int))), (.slice (some ⟨b, o, none⟩) n cap)]), (.bool true)]) rfl rfl T.own30 (by decide) (fun wc hw => ref_flipT W H n cap b o xs wc hok hn hx (hw.rd hr (fun x => x)) )) (fun xq32 hq33 => ?_)
  refine GL.val (Ex.move rfl) (by decide) ?_
  refine GL.val (Ex.extract rfl rfl) (by decide) ?_
  refine GL.val (Ex.extract rfl rfl) (by decide) ?_
  refine GL.step (Stp.st7 (cs' := [(.int .i64 (((W : Nat) : Int))), (.int .i64 (((H : Nat) : Int))), (.slice (some ⟨xq32, 0, none⟩) (W * H) (W * H))]) rfl rfl rfl T.sz32 rfl rfl rfl) (fun _ _ => ?_)
  refine GL.val (Ex.assign rfl) (by decide) ?_
  refine GL.nil ?_
  refine GE.thenN ?_
  refine GC.seq ?_
  refine GC.seq ?_
  refine GC.region ?_
  refine GL.val (v := (.agg #[(.int .i64 (((W : Nat) : Int))), (.int .i64 (((H : Nat) : Int))), (.slice (some ⟨xq30, 0, none⟩) (W * H) (W * H))])) (Ex.loadA rfl T.ag32 T.sz32 (i := 8) rfl (vs := [(.int .i64 (((W : Nat) : Int))), (.int .i64 (((H : Nat) : Int))), (.slice (some ⟨xq30, 0, none⟩) (W * H) (W * H))]) rfl rfl) (by decide) ?_
  refine GL.val (Ex.move rfl) (by decide) ?_
  refine GL.val (v := (.agg #[(.int .i64 (((W : Nat) : Int))), (.int .i64 (((H : Nat) : Int))), (.slice (some ⟨xq32, 0, none⟩) (W * H) (W * H))])) (Ex.loadA rfl T.ag32 T.sz32 (i := 7) rfl (vs := [(.int .i64 (((W : Nat) : Int))), (.int .i64 (((H : Nat) : Int))), (.slice (some ⟨xq32, 0, none⟩) (W * H) (W * H))]) rfl rfl) (by decide) ?_
  refine GL.val (Ex.move rfl) (by decide) ?_
  refine GL.step (Stp.callR (vs := [(.agg #[(.int .i64 (((W : Nat) : Int))), (.int .i64 (((H : Nat) : Int))), (.slice (some ⟨xq30, 0, none⟩) (W * H) (W * H))]), (.int .i64 0), (.agg #[(.int .i64 (((W : Nat) : Int))), (.int .i64 (((H : Nat) : Int))), (.slice (some ⟨xq32, 0, none⟩) (W * H) (W * H))]), (.int .i64 0)]) rfl rfl T.own20 (by decide) (fun wc hw => same_ (((W : Nat) : Int)) (((H : Nat) : Int)) (some ⟨xq30, 0, none⟩) (W * H) (W * H) (((W : Nat) : Int)) (((H : Nat) : Int)) (some ⟨xq32, 0, none⟩) (W * H) (W * H) 0 (flT xs W H) (flT xs W H) wc (by have h' := ((show okP W H from hok)).2.2.2.2; omega) (LsR.blk flT_len (hw.rdOf (i := 1) rfl 0)) (LsR.blk flT_len (hw.rdOf (i := 0) rfl 0)) (by first | rfl | omega) (by first | rfl | omega) (by first | rfl | (simp only [Nat.add_zero])))) (fun xq34 hq35 => ?_)
  refine GL.val (v := (.bool false)) (Ex.cast (Ex.not rfl) rfl) (by decide) ?_
  refine GL.nil ?_
  refine GE.thenN ?_
  refine GC.cond rfl (fun hq36 => by cases hq36) (fun _ => ?_)
  refine GC.skip ?_
  refine GE.thenN ?_
  refine GC.seq ?_
  refine GC.region ?_
  refine GL.val (Ex.move rfl) (by decide) ?_
  refine GL.val (v := (.agg #[(.int .i64 (((W : Nat) : Int))), (.int .i64 (((H : Nat) : Int))), (.slice (some ⟨xq30, 0, none⟩) (W * H) (W * H))])) (Ex.loadA rfl T.ag32 T.sz32 (i := 8) rfl (vs := [(.int .i64 (((W : Nat) : Int))), (.int .i64 (((H : Nat) : Int))), (.slice (some ⟨xq30, 0, none⟩) (W * H) (W * H))]) rfl rfl) (by decide) ?_
  refine GL.val (Ex.move rfl) (by decide) ?_
  refine GL.val (v := (.int .i64 2)) (Ex.add rfl rfl (Z := 2) (by decide)) (by decide) ?_
  refine GL.step (Stp.call (vs := [(.pointer (some ⟨bq7, 0, none⟩)), (.agg #[(.int .i64 (((W : Nat) : Int))), (.int .i64 (((H : Nat) : Int))), (.slice (some ⟨xq30, 0, none⟩) (W * H) (W * H))]), (.int .i64 2)]) rfl rfl T.own21 (by decide) (fun wc hw => book_p11 w _ (((W : Nat) : Int)) (((H : Nat) : Int)) bq7 2 xq30 (W * H) (W * H) ((flT xs W H).map u32) 2 xq28.2.1 xq28.2.2.1 xq28.1.1 xq28.1.2.1 (([(Value.slice (some ⟨xq10, 0, none⟩) ((X1 - X0) * (Y1 - Y0)) ((X1 - X0) * (Y1 - Y0)))]) ++ [(Value.slice (some ⟨xq21, 0, none⟩) (W * H) (W * H))]) xq28.2.2.2 (([(Value.int .i64 0)]) ++ [(Value.int .i64 1)]) xq28.1.2.2 wc (by rw [List.length_map]; exact flT_len) (by have h' := ((show okP W H from hok)).2.2.2.2; omega) (by first | decide | omega) (by first | rfl | omega) (by first | rfl | omega) hq29.1 hq29.2 (hw.pick (idx := [4, 3, 2, 1, 0, 5, 6, 7, 8, 9, 10, 11, 12, 13, 14, 15, 16, 17, 18, 19, 20]) (by decide) rfl))) (fun xq37 hq38 => ?_)
  refine GL.nil ?_
  refine GE.thenN ?_
  refine GC.seq ?_
  refine GC.pick (idx := [0, 1, 2, 3, 5, 6, 7, 8, 9, 10, 11, 12, 13, 14, 15, 16, 17, 18, 19, 20]) (by decide) rfl ?_
  refine GC.region ?_
  refine GL.val (v := (.agg #[(.int .i64 (((W : Nat) : Int))), (.int .i64 (((H : Nat) : Int))), (.slice (some ⟨j.1.2.2.2, 0, none⟩) n (n + 5))])) (Ex.loadA rfl T.ag32 T.sz32 (i := 15) rfl (vs := [(.int .i64 (((W : Nat) : Int))), (.int .i64 (((H : Nat) : Int))), (.slice (some ⟨j.1.2.2.2, 0, none⟩) n (n + 5))]) rfl rfl) (by decide) ?_
  refine GL.step (Stp.callR (vs := [(.agg #[(.int .i64 (((W : Nat) : Int))), (.int .i64 (((H : Nat) : Int))), (.slice (some ⟨j.1.2.2.2, 0, none⟩) n (n + 5))])]) rfl rfl T.own31 (by decide) (fun wc hw => transp W H n (n + 5) j.1.2.2.2 0 xs wc hok hn hx (Rd.lent (hw.rdOf (i := 14) rfl 0)) )) (fun xq39 hq40 => ?_)
  refine GL.val (Ex.move rfl) (by decide) ?_
  refine GL.val (Ex.extract rfl rfl) (by decide) ?_
  refine GL.val (Ex.extract rfl rfl) (by decide) ?_
  refine GL.step (Stp.st8 (cs' := [(.int .i64 (((H : Nat) : Int))), (.int .i64 (((W : Nat) : Int))), (.slice (some ⟨xq39, 0, none⟩) (H * W) (H * W))]) rfl rfl rfl T.sz32 rfl rfl rfl) (fun _ _ => ?_)
  refine GL.val (Ex.assign rfl) (by decide) ?_
  refine GL.nil ?_
  refine GE.thenN ?_
  refine GC.seq ?_
  refine GC.region ?_
  refine GL.val (v := (.agg #[(.int .i64 (((W : Nat) : Int))), (.int .i64 (((H : Nat) : Int))), (.slice (some ⟨b, o, none⟩) n cap)])) (Ex.loadA rfl T.ag32 T.sz32 (i := 20) rfl (vs := [(.int .i64 (((W : Nat) : Int))), (.int .i64 (((H : Nat) : Int))), (.slice (some ⟨b, o, none⟩) n cap)]) rfl rfl) (by decide) ?_
  refine GL.step (Stp.callR (vs := [(.agg #[(.int .i64 (((W : Nat) : Int))), (.int .i64 (((H : Nat) : Int))), (.slice (some ⟨b, o, none⟩) n cap)])]) rfl rfl T.own32 (by decide) (fun wc hw => ref_transp W H n cap b o xs wc hok hn hx (hw.rd hr (fun x => x)) )) (fun xq41 hq42 => ?_)
  refine GL.val (Ex.move rfl) (by decide) ?_
  refine GL.val (Ex.extract rfl rfl) (by decide) ?_
  refine GL.val (Ex.extract rfl rfl) (by decide) ?_
  refine GL.step (Stp.st8 (cs' := [(.int .i64 (((H : Nat) : Int))), (.int .i64 (((W : Nat) : Int))), (.slice (some ⟨xq41, 0, none⟩) (H * W) (H * W))]) rfl rfl rfl T.sz32 rfl rfl rfl) (fun _ _ => ?_)
  refine GL.val (Ex.assign rfl) (by decide) ?_
  refine GL.nil ?_
  refine GE.thenN ?_
  refine GC.seq ?_
  refine GC.seq ?_
  refine GC.region ?_
  refine GL.val (v := (.agg #[(.int .i64 (((H : Nat) : Int))), (.int .i64 (((W : Nat) : Int))), (.slice (some ⟨xq39, 0, none⟩) (H * W) (H * W))])) (Ex.loadA rfl T.ag32 T.sz32 (i := 9) rfl (vs := [(.int .i64 (((H : Nat) : Int))), (.int .i64 (((W : Nat) : Int))), (.slice (some ⟨xq39, 0, none⟩) (H * W) (H * W))]) rfl rfl) (by decide) ?_
  refine GL.val (Ex.move rfl) (by decide) ?_
  refine GL.val (v := (.agg #[(.int .i64 (((H : Nat) : Int))), (.int .i64 (((W : Nat) : Int))), (.slice (some ⟨xq41, 0, none⟩) (H * W) (H * W))])) (Ex.loadA rfl T.ag32 T.sz32 (i := 8) rfl (vs := [(.int .i64 (((H : Nat) : Int))), (.int .i64 (((W : Nat) : Int))), (.slice (some ⟨xq41, 0, none⟩) (H * W) (H * W))]) rfl rfl) (by decide) ?_
  refine GL.val (Ex.move rfl) (by decide) ?_
  refine GL.step (Stp.callR (vs := [(.agg #[(.int .i64 (((H : Nat) : Int))), (.int .i64 (((W : Nat) : Int))), (.slice (some ⟨xq39, 0, none⟩) (H * W) (H * W))]), (.int .i64 0), (.agg #[(.int .i64 (((H : Nat) : Int))), (.int .i64 (((W : Nat) : Int))), (.slice (some ⟨xq41, 0, none⟩) (H * W) (H * W))]), (.int .i64 0)]) rfl rfl T.own20 (by decide) (fun wc hw => same_ (((H : Nat) : Int)) (((W : Nat) : Int)) (some ⟨xq39, 0, none⟩) (H * W) (H * W) (((H : Nat) : Int)) (((W : Nat) : Int)) (some ⟨xq41, 0, none⟩) (H * W) (H * W) 0 (trp xs W H) (trp xs W H) wc (by have h' := ((show okP H W from hok.swap)).2.2.2.2; omega) (LsR.blk trp_len (hw.rdOf (i := 1) rfl 0)) (LsR.blk trp_len (hw.rdOf (i := 0) rfl 0)) (by first | rfl | omega) (by first | rfl | omega) (by first | rfl | (simp only [Nat.add_zero])))) (fun xq43 hq44 => ?_)
  refine GL.val (v := (.bool false)) (Ex.cast (Ex.not rfl) rfl) (by decide) ?_
  refine GL.nil ?_
  refine GE.thenN ?_
  refine GC.cond rfl (fun hq45 => by cases hq45) (fun _ => ?_)
  refine GC.skip ?_
  refine GE.thenN ?_
  refine GC.seq ?_
  refine GC.region ?_
  refine GL.val (Ex.move rfl) (by decide) ?_
  refine GL.val (v := (.agg #[(.int .i64 (((H : Nat) : Int))), (.int .i64 (((W : Nat) : Int))), (.slice (some ⟨xq39, 0, none⟩) (H * W) (H * W))])) (Ex.loadA rfl T.ag32 T.sz32 (i := 9) rfl (vs := [(.int .i64 (((H : Nat) : Int))), (.int .i64 (((W : Nat) : Int))), (.slice (some ⟨xq39, 0, none⟩) (H * W) (H * W))]) rfl rfl) (by decide) ?_
  refine GL.val (Ex.move rfl) (by decide) ?_
  refine GL.val (v := (.int .i64 3)) (Ex.add rfl rfl (Z := 3) (by decide)) (by decide) ?_
  refine GL.step (Stp.call (vs := [(.pointer (some ⟨bq7, 0, none⟩)), (.agg #[(.int .i64 (((H : Nat) : Int))), (.int .i64 (((W : Nat) : Int))), (.slice (some ⟨xq39, 0, none⟩) (H * W) (H * W))]), (.int .i64 3)]) rfl rfl T.own21 (by decide) (fun wc hw => book_p11 w _ (((H : Nat) : Int)) (((W : Nat) : Int)) bq7 3 xq39 (H * W) (H * W) ((trp xs W H).map u32) 3 xq37.2.1 xq37.2.2.1 xq37.1.1 xq37.1.2.1 ((([(Value.slice (some ⟨xq10, 0, none⟩) ((X1 - X0) * (Y1 - Y0)) ((X1 - X0) * (Y1 - Y0)))]) ++ [(Value.slice (some ⟨xq21, 0, none⟩) (W * H) (W * H))]) ++ [(Value.slice (some ⟨xq30, 0, none⟩) (W * H) (W * H))]) xq37.2.2.2 ((([(Value.int .i64 0)]) ++ [(Value.int .i64 1)]) ++ [(Value.int .i64 2)]) xq37.1.2.2 wc (by rw [List.length_map]; exact trp_len) (by have h' := ((show okP H W from hok.swap)).2.2.2.2; omega) (by first | decide | omega) (by first | rfl | omega) (by first | rfl | omega) hq38.1 hq38.2 (hw.pick (idx := [4, 3, 2, 1, 0, 5, 6, 7, 8, 9, 10, 11, 12, 13, 14, 15, 16, 17, 18, 19, 20, 21]) (by decide) rfl))) (fun xq46 hq47 => ?_)
  refine GL.nil ?_
  refine GE.thenN ?_
  refine GC.seq ?_
  refine GC.pick (idx := [0, 1, 2, 3, 5, 6, 7, 8, 9, 10, 11, 12, 13, 14, 15, 16, 17, 18, 19, 20, 21]) (by decide) rfl ?_
  refine GC.region ?_
  refine GL.val (v := (.agg #[(.int .i64 (((W : Nat) : Int))), (.int .i64 (((H : Nat) : Int))), (.slice (some ⟨j.1.2.2.2, 0, none⟩) n (n + 5))])) (Ex.loadA rfl T.ag32 T.sz32 (i := 16) rfl (vs := [(.int .i64 (((W : Nat) : Int))), (.int .i64 (((H : Nat) : Int))), (.slice (some ⟨j.1.2.2.2, 0, none⟩) n (n + 5))]) rfl rfl) (by decide) ?_
  refine GL.val (Ex.move rfl) (by decide) ?_
  refine GL.val (Ex.move rfl) (by decide) ?_
  refine GL.val (v := (.int .i64 (IntKind.i64.wrap (q1 + 0)))) (Ex.add rfl rfl (Z := IntKind.i64.wrap (q1 + 0)) rfl) (by decide) ?_
  refine GL.step (Stp.callR (vs := [(.agg #[(.int .i64 (((W : Nat) : Int))), (.int .i64 (((H : Nat) : Int))), (.slice (some ⟨j.1.2.2.2, 0, none⟩) n (n + 5))]), (.int .i64 (IntKind.i64.wrap (q1 + 0)))]) rfl rfl T.own33 (by decide) (fun wc hw => turn_any W H n (n + 5) j.1.2.2.2 0 xs (IntKind.i64.wrap (q1 + 0)) ((rst (IntKind.i64.wrap (q1 + 0)) 4).toNat) wc hok hn hx (Rd.lent (hw.rdOf (i := 15) rfl 0)) (rst4 (IntKind.i64.wrap (q1 + 0))).2 (rst4 (IntKind.i64.wrap (q1 + 0))).1)) (fun xq48 hq49 => ?_)
  refine GL.val (Ex.move rfl) (by decide) ?_
  refine GL.val (Ex.extract rfl rfl) (by decide) ?_
  refine GL.val (Ex.extract rfl rfl) (by decide) ?_
  refine GL.step (Stp.st9 (cs' := [(.int .i64 (((tW ((rst (IntKind.i64.wrap (q1 + 0)) 4).toNat) W H : Nat) : Int))), (.int .i64 (((tH ((rst (IntKind.i64.wrap (q1 + 0)) 4).toNat) W H : Nat) : Int))), (.slice (some ⟨xq48, 0, none⟩) ((tW ((rst (IntKind.i64.wrap (q1 + 0)) 4).toNat) W H) * (tH ((rst (IntKind.i64.wrap (q1 + 0)) 4).toNat) W H)) ((tW ((rst (IntKind.i64.wrap (q1 + 0)) 4).toNat) W H) * (tH ((rst (IntKind.i64.wrap (q1 + 0)) 4).toNat) W H)))]) rfl rfl rfl T.sz32 rfl rfl rfl) (fun _ _ => ?_)
  refine GL.val (Ex.assign rfl) (by decide) ?_
  refine GL.nil ?_
  refine GE.thenN ?_
  refine GC.seq ?_
  refine GC.region ?_
  refine GL.val (v := (.agg #[(.int .i64 (((W : Nat) : Int))), (.int .i64 (((H : Nat) : Int))), (.slice (some ⟨b, o, none⟩) n cap)])) (Ex.loadA rfl T.ag32 T.sz32 (i := 21) rfl (vs := [(.int .i64 (((W : Nat) : Int))), (.int .i64 (((H : Nat) : Int))), (.slice (some ⟨b, o, none⟩) n cap)]) rfl rfl) (by decide) ?_
  refine GL.val (Ex.move rfl) (by decide) ?_
  refine GL.val (Ex.move rfl) (by decide) ?_
  refine GL.val (v := (.int .i64 (IntKind.i64.wrap (q1 + 0)))) (Ex.add rfl rfl (Z := IntKind.i64.wrap (q1 + 0)) rfl) (by decide) ?_
  refine GL.step (Stp.callR (vs := [(.agg #[(.int .i64 (((W : Nat) : Int))), (.int .i64 (((H : Nat) : Int))), (.slice (some ⟨b, o, none⟩) n cap)]), (.int .i64 (IntKind.i64.wrap (q1 + 0)))]) rfl rfl T.own34 (by decide) (fun wc hw => ref_turn W H n cap b o xs (IntKind.i64.wrap (q1 + 0)) ((rst (IntKind.i64.wrap (q1 + 0)) 4).toNat) wc hok hn hx (hw.rd hr (fun x => x)) (rst4 (IntKind.i64.wrap (q1 + 0))).2 (rst4 (IntKind.i64.wrap (q1 + 0))).1)) (fun xq50 hq51 => ?_)
  refine GL.val (Ex.move rfl) (by decide) ?_
  refine GL.val (Ex.extract rfl rfl) (by decide) ?_
  refine GL.val (Ex.extract rfl rfl) (by decide) ?_
  refine GL.step (Stp.st9 (cs' := [(.int .i64 (((tW ((rst (IntKind.i64.wrap (q1 + 0)) 4).toNat) W H : Nat) : Int))), (.int .i64 (((tH ((rst (IntKind.i64.wrap (q1 + 0)) 4).toNat) W H : Nat) : Int))), (.slice (some ⟨xq50, 0, none⟩) ((tW ((rst (IntKind.i64.wrap (q1 + 0)) 4).toNat) W H) * (tH ((rst (IntKind.i64.wrap (q1 + 0)) 4).toNat) W H)) ((tW ((rst (IntKind.i64.wrap (q1 + 0)) 4).toNat) W H) * (tH ((rst (IntKind.i64.wrap (q1 + 0)) 4).toNat) W H)))]) rfl rfl rfl T.sz32 rfl rfl rfl) (fun _ _ => ?_)
  refine GL.val (Ex.assign rfl) (by decide) ?_
  refine GL.nil ?_
  refine GE.thenN ?_
  refine GC.seq ?_
  refine GC.seq ?_
  refine GC.region ?_
  refine GL.val (v := (.agg #[(.int .i64 (((tW ((rst (IntKind.i64.wrap (q1 + 0)) 4).toNat) W H : Nat) : Int))), (.int .i64 (((tH ((rst (IntKind.i64.wrap (q1 + 0)) 4).toNat) W H : Nat) : Int))), (.slice (some ⟨xq48, 0, none⟩) ((tW ((rst (IntKind.i64.wrap (q1 + 0)) 4).toNat) W H) * (tH ((rst (IntKind.i64.wrap (q1 + 0)) 4).toNat) W H)) ((tW ((rst (IntKind.i64.wrap (q1 + 0)) 4).toNat) W H) * (tH ((rst (IntKind.i64.wrap (q1 + 0)) 4).toNat) W H)))])) (Ex.loadA rfl T.ag32 T.sz32 (i := 10) rfl (vs := [(.int .i64 (((tW ((rst (IntKind.i64.wrap (q1 + 0)) 4).toNat) W H : Nat) : Int))), (.int .i64 (((tH ((rst (IntKind.i64.wrap (q1 + 0)) 4).toNat) W H : Nat) : Int))), (.slice (some ⟨xq48, 0, none⟩) ((tW ((rst (IntKind.i64.wrap (q1 + 0)) 4).toNat) W H) * (tH ((rst (IntKind.i64.wrap (q1 + 0)) 4).toNat) W H)) ((tW ((rst (IntKind.i64.wrap (q1 + 0)) 4).toNat) W H) * (tH ((rst (IntKind.i64.wrap (q1 + 0)) 4).toNat) W H)))]) rfl rfl) (by decide) ?_
  refine GL.val (Ex.move rfl) (by decide) ?_
  refine GL.val (v := (.agg #[(.int .i64 (((tW ((rst (IntKind.i64.wrap (q1 + 0)) 4).toNat) W H : Nat) : Int))), (.int .i64 (((tH ((rst (IntKind.i64.wrap (q1 + 0)) 4).toNat) W H : Nat) : Int))), (.slice (some ⟨xq50, 0, none⟩) ((tW ((rst (IntKind.i64.wrap (q1 + 0)) 4).toNat) W H) * (tH ((rst (IntKind.i64.wrap (q1 + 0)) 4).toNat) W H)) ((tW ((rst (IntKind.i64.wrap (q1 + 0)) 4).toNat) W H) * (tH ((rst (IntKind.i64.wrap (q1 + 0)) 4).toNat) W H)))])) (Ex.loadA rfl T.ag32 T.sz32 (i := 9) rfl (vs := [(.int .i64 (((tW ((rst (IntKind.i64.wrap (q1 + 0)) 4).toNat) W H : Nat) : Int))), (.int .i64 (((tH ((rst (IntKind.i64.wrap (q1 + 0)) 4).toNat) W H : Nat) : Int))), (.slice (some ⟨xq50, 0, none⟩) ((tW ((rst (IntKind.i64.wrap (q1 + 0)) 4).toNat) W H) * (tH ((rst (IntKind.i64.wrap (q1 + 0)) 4).toNat) W H)) ((tW ((rst (IntKind.i64.wrap (q1 + 0)) 4).toNat) W H) * (tH ((rst (IntKind.i64.wrap (q1 + 0)) 4).toNat) W H)))]) rfl rfl) (by decide) ?_
  refine GL.val (Ex.move rfl) (by decide) ?_
  refine GL.step (Stp.callR (vs := [(.agg #[(.int .i64 (((tW ((rst (IntKind.i64.wrap (q1 + 0)) 4).toNat) W H : Nat) : Int))), (.int .i64 (((tH ((rst (IntKind.i64.wrap (q1 + 0)) 4).toNat) W H : Nat) : Int))), (.slice (some ⟨xq48, 0, none⟩) ((tW ((rst (IntKind.i64.wrap (q1 + 0)) 4).toNat) W H) * (tH ((rst (IntKind.i64.wrap (q1 + 0)) 4).toNat) W H)) ((tW ((rst (IntKind.i64.wrap (q1 + 0)) 4).toNat) W H) * (tH ((rst (IntKind.i64.wrap (q1 + 0)) 4).toNat) W H)))]), (.int .i64 0), (.agg #[(.int .i64 (((tW ((rst (IntKind.i64.wrap (q1 + 0)) 4).toNat) W H : Nat) : Int))), (.int .i64 (((tH ((rst (IntKind.i64.wrap (q1 + 0)) 4).toNat) W H : Nat) : Int))), (.slice (some ⟨xq50, 0, none⟩) ((tW ((rst (IntKind.i64.wrap (q1 + 0)) 4).toNat) W H) * (tH ((rst (IntKind.i64.wrap (q1 + 0)) 4).toNat) W H)) ((tW ((rst (IntKind.i64.wrap (q1 + 0)) 4).toNat) W H) * (tH ((rst (IntKind.i64.wrap (q1 + 0)) 4).toNat) W H)))]), (.int .i64 0)]) rfl rfl T.own20 (by decide) (fun wc hw => same_ (((tW ((rst (IntKind.i64.wrap (q1 + 0)) 4).toNat) W H : Nat) : Int)) (((tH ((rst (IntKind.i64.wrap (q1 + 0)) 4).toNat) W H : Nat) : Int)) (some ⟨xq48, 0, none⟩) ((tW ((rst (IntKind.i64.wrap (q1 + 0)) 4).toNat) W H) * (tH ((rst (IntKind.i64.wrap (q1 + 0)) 4).toNat) W H)) ((tW ((rst (IntKind.i64.wrap (q1 + 0)) 4).toNat) W H) * (tH ((rst (IntKind.i64.wrap (q1 + 0)) 4).toNat) W H)) (((tW ((rst (IntKind.i64.wrap (q1 + 0)) 4).toNat) W H : Nat) : Int)) (((tH ((rst (IntKind.i64.wrap (q1 + 0)) 4).toNat) W H : Nat) : Int)) (some ⟨xq50, 0, none⟩) ((tW ((rst (IntKind.i64.wrap (q1 + 0)) 4).toNat) W H) * (tH ((rst (IntKind.i64.wrap (q1 + 0)) 4).toNat) W H)) ((tW ((rst (IntKind.i64.wrap (q1 + 0)) 4).toNat) W H) * (tH ((rst (IntKind.i64.wrap (q1 + 0)) 4).toNat) W H)) 0 (trn ((rst (IntKind.i64.wrap (q1 + 0)) 4).toNat) xs W H) (trn ((rst (IntKind.i64.wrap (q1 + 0)) 4).toNat) xs W H) wc (by have h' := ((show okP (tW ((rst (IntKind.i64.wrap (q1 + 0)) 4).toNat) W H) (tH ((rst (IntKind.i64.wrap (q1 + 0)) 4).toNat) W H) from (okP.turn hok ((rst (IntKind.i64.wrap (q1 + 0)) 4).toNat)))).2.2.2.2; omega) (LsR.blk (trn_len (rst4 _).2) (hw.rdOf (i := 1) rfl 0)) (LsR.blk (trn_len (rst4 _).2) (hw.rdOf (i := 0) rfl 0)) (by first | rfl | omega) (by first | rfl | omega) (by first | rfl | (simp only [Nat.add_zero])))) (fun xq52 hq53 => ?_)
  refine GL.val (v := (.bool false)) (Ex.cast (Ex.not rfl) rfl) (by decide) ?_
  refine GL.nil ?_
  refine GE.thenN ?_
  refine GC.cond rfl (fun hq54 => by cases hq54) (fun _ => ?_)
  refine GC.skip ?_
  refine GE.thenN ?_
  refine GC.region ?_
  refine GL.val (Ex.move rfl) (by decide) ?_
  refine GL.val (v := (.agg #[(.int .i64 (((tW ((rst (IntKind.i64.wrap (q1 + 0)) 4).toNat) W H : Nat) : Int))), (.int .i64 (((tH ((rst (IntKind.i64.wrap (q1 + 0)) 4).toNat) W H : Nat) : Int))), (.slice (some ⟨xq48, 0, none⟩) ((tW ((rst (IntKind.i64.wrap (q1 + 0)) 4).toNat) W H) * (tH ((rst (IntKind.i64.wrap (q1 + 0)) 4).toNat) W H)) ((tW ((rst (IntKind.i64.wrap (q1 + 0)) 4).toNat) W H) * (tH ((rst (IntKind.i64.wrap (q1 + 0)) 4).toNat) W H)))])) (Ex.loadA rfl T.ag32 T.sz32 (i := 10) rfl (vs := [(.int .i64 (((tW ((rst (IntKind.i64.wrap (q1 + 0)) 4).toNat) W H : Nat) : Int))), (.int .i64 (((tH ((rst (IntKind.i64.wrap (q1 + 0)) 4).toNat) W H : Nat) : Int))), (.slice (some ⟨xq48, 0, none⟩) ((tW ((rst (IntKind.i64.wrap (q1 + 0)) 4).toNat) W H) * (tH ((rst (IntKind.i64.wrap (q1 + 0)) 4).toNat) W H)) ((tW ((rst (IntKind.i64.wrap (q1 + 0)) 4).toNat) W H) * (tH ((rst (IntKind.i64.wrap (q1 + 0)) 4).toNat) W H)))]) rfl rfl) (by decide) ?_
  refine GL.val (Ex.move rfl) (by decide) ?_
  refine GL.val (v := (.int .i64 4)) (Ex.add rfl rfl (Z := 4) (by decide)) (by decide) ?_
  refine GL.step (Stp.call (vs := [(.pointer (some ⟨bq7, 0, none⟩)), (.agg #[(.int .i64 (((tW ((rst (IntKind.i64.wrap (q1 + 0)) 4).toNat) W H : Nat) : Int))), (.int .i64 (((tH ((rst (IntKind.i64.wrap (q1 + 0)) 4).toNat) W H : Nat) : Int))), (.slice (some ⟨xq48, 0, none⟩) ((tW ((rst (IntKind.i64.wrap (q1 + 0)) 4).toNat) W H) * (tH ((rst (IntKind.i64.wrap (q1 + 0)) 4).toNat) W H)) ((tW ((rst (IntKind.i64.wrap (q1 + 0)) 4).toNat) W H) * (tH ((rst (IntKind.i64.wrap (q1 + 0)) 4).toNat) W H)))]), (.int .i64 4)]) rfl rfl T.own21 (by decide) (fun wc hw => book_p11 w _ (((tW ((rst (IntKind.i64.wrap (q1 + 0)) 4).toNat) W H : Nat) : Int)) (((tH ((rst (IntKind.i64.wrap (q1 + 0)) 4).toNat) W H : Nat) : Int)) bq7 4 xq48 ((tW ((rst (IntKind.i64.wrap (q1 + 0)) 4).toNat) W H) * (tH ((rst (IntKind.i64.wrap (q1 + 0)) 4).toNat) W H)) ((tW ((rst (IntKind.i64.wrap (q1 + 0)) 4).toNat) W H) * (tH ((rst (IntKind.i64.wrap (q1 + 0)) 4).toNat) W H)) ((trn ((rst (IntKind.i64.wrap (q1 + 0)) 4).toNat) xs W H).map u32) 4 xq46.2.1 xq46.2.2.1 xq46.1.1 xq46.1.2.1 (((([(Value.slice (some ⟨xq10, 0, none⟩) ((X1 - X0) * (Y1 - Y0)) ((X1 - X0) * (Y1 - Y0)))]) ++ [(Value.slice (some ⟨xq21, 0, none⟩) (W * H) (W * H))]) ++ [(Value.slice (some ⟨xq30, 0, none⟩) (W * H) (W * H))]) ++ [(Value.slice (some ⟨xq39, 0, none⟩) (H * W) (H * W))]) xq46.2.2.2 (((([(Value.int .i64 0)]) ++ [(Value.int .i64 1)]) ++ [(Value.int .i64 2)]) ++ [(Value.int .i64 3)]) xq46.1.2.2 wc (by rw [List.length_map]; exact (trn_len (rst4 _).2)) (by have h' := ((show okP (tW ((rst (IntKind.i64.wrap (q1 + 0)) 4).toNat) W H) (tH ((rst (IntKind.i64.wrap (q1 + 0)) 4).toNat) W H) from (okP.turn hok ((rst (IntKind.i64.wrap (q1 + 0)) 4).toNat)))).2.2.2.2; omega) (by first | decide | omega) (by first | rfl | omega) (by first | rfl | omega) hq47.1 hq47.2 (hw.pick (idx := [4, 3, 2, 1, 0, 5, 6, 7, 8, 9, 10, 11, 12, 13, 14, 15, 16, 17, 18, 19, 20, 21, 22]) (by decide) rfl))) (fun xq55 hq56 => ?_)
  refine GL.nil ?_
  refine GE.blockN ?_
  refine GE.thenN ?_
  refine GC.region ?_
  refine GL.val (Ex.move rfl) (by decide) ?_
  refine GL.val (v := (.int .i64 1)) (Ex.add rfl rfl (Z := 1) (by decide)) (by decide) ?_
  refine GL.val (Ex.assign rfl) (by decide) ?_
  refine GL.nil ?_
  refine GE.thenN ?_
  refine GE.round ?_
  refine GC.seq ?_
  refine GC.seq ?_
  refine GC.region ?_
  refine GL.val (Ex.move rfl) (by decide) ?_
  refine GL.val (v := (.bool true)) (Ex.cast (Ex.lss rfl rfl) rfl) (by decide) ?_
  refine GL.nil ?_
  refine GE.thenN ?_
  refine GC.cond rfl (fun _ => ?_) (fun hq57 => by cases hq57)
  refine GC.skip ?_
  refine GE.thenN ?_
  refine GC.seq ?_
  refine GC.block ?_
  refine GC.seq ?_
  refine GC.region ?_
  refine GL.val (Ex.move rfl) (by decide) ?_
  refine GL.val (v := (.int .i64 100)) (Ex.mul rfl rfl (Z := 100) (by decide)) (by decide) ?_
  refine GL.val (Ex.assign rfl) (by decide) ?_
  refine GL.nil ?_
  refine GE.thenN ?_
  refine GC.seq ?_
  refine GC.pick (idx := [0, 1, 2, 3, 5, 6, 7, 8, 9, 10, 11, 12, 13, 14, 15, 16, 17, 18, 19, 20, 21, 22]) (by decide) rfl ?_
  refine GC.region ?_
  refine GL.val (v := (.agg #[(.int .i64 (((W : Nat) : Int))), (.int .i64 (((H : Nat) : Int))), (.slice (some ⟨j.1.2.2.2, 0, none⟩) n (n + 5))])) (Ex.loadA rfl T.ag32 T.sz32 (i := 17) rfl (vs := [(.int .i64 (((W : Nat) : Int))), (.int .i64 (((H : Nat) : Int))), (.slice (some ⟨j.1.2.2.2, 0, none⟩) n (n + 5))]) rfl rfl) (by decide) ?_
  refine GL.val (v := (.agg #[(.int .i64 (((X0 : Nat) : Int))), (.int .i64 (((Y0 : Nat) : Int))), (.int .i64 (((X1 : Nat) : Int))), (.int .i64 (((Y1 : Nat) : Int)))])) (Ex.loadA rfl T.ag54 T.sz54 (i := 19) rfl (vs := [(.int .i64 (((X0 : Nat) : Int))), (.int .i64 (((Y0 : Nat) : Int))), (.int .i64 (((X1 : Nat) : Int))), (.int .i64 (((Y1 : Nat) : Int)))]) rfl rfl) (by decide) ?_
  refine GL.step (Stp.callR (vs := [(.agg #[(.int .i64 (((W : Nat) : Int))), (.int .i64 (((H : Nat) : Int))), (.slice (some ⟨j.1.2.2.2, 0, none⟩) n (n + 5))]), (.agg #[(.int .i64 (((X0 : Nat) : Int))), (.int .i64 (((Y0 : Nat) : Int))), (.int .i64 (((X1 : Nat) : Int))), (.int .i64 (((Y1 : Nat) : Int)))])]) rfl rfl T.own24 (by decide) (fun wc hw => crop_in W H n (n + 5) j.1.2.2.2 0 X0 Y0 X1 Y1 xs wc hok hn hx (Rd.lent (hw.rdOf (i := 16) rfl 0)) hX0 hX1 hY0 hY1)) (fun xq58 hq59 => ?_)
  refine GL.val (Ex.move rfl) (by decide) ?_
  refine GL.val (Ex.extract rfl rfl) (by decide) ?_
  refine GL.val (Ex.extract rfl rfl) (by decide) ?_
  refine GL.step (Stp.alloc T.zr32 (by decide)) (fun bq60 _ => ?_)
  refine GL.step (Stp.st0 (cs' := [(.int .i64 (((X1 - X0 : Nat) : Int))), (.int .i64 (((Y1 - Y0 : Nat) : Int))), (.slice (some ⟨xq58, 0, none⟩) ((X1 - X0) * (Y1 - Y0)) ((X1 - X0) * (Y1 - Y0)))]) rfl rfl rfl T.sz32 rfl rfl rfl) (fun _ _ => ?_)
  refine GL.val (Ex.assign rfl) (by decide) ?_
  refine GL.nil ?_
  refine GE.thenN ?_
  refine GC.seq ?_
  refine GC.region ?_
  refine GL.val (v := (.agg #[(.int .i64 (((W : Nat) : Int))), (.int .i64 (((H : Nat) : Int))), (.slice (some ⟨b, o, none⟩) n cap)])) (Ex.loadA rfl T.ag32 T.sz32 (i := 23) rfl (vs := [(.int .i64 (((W : Nat) : Int))), (.int .i64 (((H : Nat) : Int))), (.slice (some ⟨b, o, none⟩) n cap)]) rfl rfl) (by decide) ?_
  refine GL.val (v := (.agg #[(.int .i64 (((X0 : Nat) : Int))), (.int .i64 (((Y0 : Nat) : Int))), (.int .i64 (((X1 : Nat) : Int))), (.int .i64 (((Y1 : Nat) : Int)))])) (Ex.loadA rfl T.ag54 T.sz54 (i := 21) rfl (vs := [(.int .i64 (((X0 : Nat) : Int))), (.int .i64 (((Y0 : Nat) : Int))), (.int .i64 (((X1 : Nat) : Int))), (.int .i64 (((Y1 : Nat) : Int)))]) rfl rfl) (by decide) ?_
  refine GL.step (Stp.callR (vs := [(.agg #[(.int .i64 (((W : Nat) : Int))), (.int .i64 (((H : Nat) : Int))), (.slice (some ⟨b, o, none⟩) n cap)]), (.agg #[(.int .i64 (((X0 : Nat) : Int))), (.int .i64 (((Y0 : Nat) : Int))), (.int .i64 (((X1 : Nat) : Int))), (.int .i64 (((Y1 : Nat) : Int)))])]) rfl rfl T.own27 (by decide) (fun wc hw => ref_crop W H n cap b o X0 Y0 X1 Y1 xs wc hok hn hx (hw.rd hr (fun x => x)) hX0 hX1 hY0 hY1)) (fun xq61 hq62 => ?_)
  refine GL.val (Ex.move rfl) (by decide) ?_
  refine GL.val (Ex.extract rfl rfl) (by decide) ?_
  refine GL.val (Ex.extract rfl rfl) (by decide) ?_
  refine GL.step (Stp.alloc T.zr32 (by decide)) (fun bq63 _ => ?_)
  refine GL.step (Stp.st0 (cs' := [(.int .i64 (((X1 - X0 : Nat) : Int))), (.int .i64 (((Y1 - Y0 : Nat) : Int))), (.slice (some ⟨xq61, 0, none⟩) ((X1 - X0) * (Y1 - Y0)) ((X1 - X0) * (Y1 - Y0)))]) rfl rfl rfl T.sz32 rfl rfl rfl) (fun _ _ => ?_)
  refine GL.val (Ex.assign rfl) (by decide) ?_
  refine GL.nil ?_
  refine GE.thenN ?_
  refine GC.seq ?_
  refine GC.seq ?_
  refine GC.region ?_
  refine GL.val (v := (.agg #[(.int .i64 (((X1 - X0 : Nat) : Int))), (.int .i64 (((Y1 - Y0 : Nat) : Int))), (.slice (some ⟨xq58, 0, none⟩) ((X1 - X0) * (Y1 - Y0)) ((X1 - X0) * (Y1 - Y0)))])) (Ex.loadA rfl T.ag32 T.sz32 (i := 2) rfl (vs := [(.int .i64 (((X1 - X0 : Nat) : Int))), (.int .i64 (((Y1 - Y0 : Nat) : Int))), (.slice (some ⟨xq58, 0, none⟩) ((X1 - X0) * (Y1 - Y0)) ((X1 - X0) * (Y1 - Y0)))]) rfl rfl) (by decide) ?_
  refine GL.val (Ex.move rfl) (by decide) ?_
  refine GL.val (v := (.agg #[(.int .i64 (((X1 - X0 : Nat) : Int))), (.int .i64 (((Y1 - Y0 : Nat) : Int))), (.slice (some ⟨xq61, 0, none⟩) ((X1 - X0) * (Y1 - Y0)) ((X1 - X0) * (Y1 - Y0)))])) (Ex.loadA rfl T.ag32 T.sz32 (i := 0) rfl (vs := [(.int .i64 (((X1 - X0 : Nat) : Int))), (.int .i64 (((Y1 - Y0 : Nat) : Int))), (.slice (some ⟨xq61, 0, none⟩) ((X1 - X0) * (Y1 - Y0)) ((X1 - X0) * (Y1 - Y0)))]) rfl rfl) (by decide) ?_
  refine GL.val (Ex.move rfl) (by decide) ?_
  refine GL.step (Stp.callR (vs := [(.agg #[(.int .i64 (((X1 - X0 : Nat) : Int))), (.int .i64 (((Y1 - Y0 : Nat) : Int))), (.slice (some ⟨xq58, 0, none⟩) ((X1 - X0) * (Y1 - Y0)) ((X1 - X0) * (Y1 - Y0)))]), (.int .i64 0), (.agg #[(.int .i64 (((X1 - X0 : Nat) : Int))), (.int .i64 (((Y1 - Y0 : Nat) : Int))), (.slice (some ⟨xq61, 0, none⟩) ((X1 - X0) * (Y1 - Y0)) ((X1 - X0) * (Y1 - Y0)))]), (.int .i64 0)]) rfl rfl T.own20 (by decide) (fun wc hw => same_ (((X1 - X0 : Nat) : Int)) (((Y1 - Y0 : Nat) : Int)) (some ⟨xq58, 0, none⟩) ((X1 - X0) * (Y1 - Y0)) ((X1 - X0) * (Y1 - Y0)) (((X1 - X0 : Nat) : Int)) (((Y1 - Y0 : Nat) : Int)) (some ⟨xq61, 0, none⟩) ((X1 - X0) * (Y1 - Y0)) ((X1 - X0) * (Y1 - Y0)) 0 (crp xs W X0 Y0 (X1 - X0) (Y1 - Y0)) (crp xs W X0 Y0 (X1 - X0) (Y1 - Y0)) wc (by have h' := ((show okP (X1 - X0) (Y1 - Y0) from (hok.part (by omega) (by omega) (by omega) (by omega)))).2.2.2.2; omega) (LsR.blk crp_len (hw.rdOf (i := 3) rfl 0)) (LsR.blk crp_len (hw.rdOf (i := 1) rfl 0)) (by first | rfl | omega) (by first | rfl | omega) (by first | rfl | (simp only [Nat.add_zero])))) (fun xq64 hq65 => ?_)
  refine GL.val (v := (.bool false)) (Ex.cast (Ex.not rfl) rfl) (by decide) ?_
  refine GL.nil ?_
  refine GE.thenN ?_
  refine GC.cond rfl (fun hq66 => by cases hq66) (fun _ => ?_)
  refine GC.skip ?_
  refine GE.thenN ?_
  refine GC.seq ?_
  refine GC.region ?_
  refine GL.val (Ex.move rfl) (by decide) ?_
  refine GL.val (v := (.agg #[(.int .i64 (((X1 - X0 : Nat) : Int))), (.int .i64 (((Y1 - Y0 : Nat) : Int))), (.slice (some ⟨xq58, 0, none⟩) ((X1 - X0) * (Y1 - Y0)) ((X1 - X0) * (Y1 - Y0)))])) (Ex.loadA rfl T.ag32 T.sz32 (i := 2) rfl (vs := [(.int .i64 (((X1 - X0 : Nat) : Int))), (.int .i64 (((Y1 - Y0 : Nat) : Int))), (.slice (some ⟨xq58, 0, none⟩) ((X1 - X0) * (Y1 - Y0)) ((X1 - X0) * (Y1 - Y0)))]) rfl rfl) (by decide) ?_
  refine GL.val (Ex.move rfl) (by decide) ?_
  refine GL.step (Stp.call (vs := [(.pointer (some ⟨bq7, 0, none⟩)), (.agg #[(.int .i64 (((X1 - X0 : Nat) : Int))), (.int .i64 (((Y1 - Y0 : Nat) : Int))), (.slice (some ⟨xq58, 0, none⟩) ((X1 - X0) * (Y1 - Y0)) ((X1 - X0) * (Y1 - Y0)))]), (.int .i64 100)]) rfl rfl T.own21 (by decide) (fun wc hw => book_p11 w _ (((X1 - X0 : Nat) : Int)) (((Y1 - Y0 : Nat) : Int)) bq7 100 xq58 ((X1 - X0) * (Y1 - Y0)) ((X1 - X0) * (Y1 - Y0)) ((crp xs W X0 Y0 (X1 - X0) (Y1 - Y0)).map u32) 5 xq55.2.1 xq55.2.2.1 xq55.1.1 xq55.1.2.1 ((((([(Value.slice (some ⟨xq10, 0, none⟩) ((X1 - X0) * (Y1 - Y0)) ((X1 - X0) * (Y1 - Y0)))]) ++ [(Value.slice (some ⟨xq21, 0, none⟩) (W * H) (W * H))]) ++ [(Value.slice (some ⟨xq30, 0, none⟩) (W * H) (W * H))]) ++ [(Value.slice (some ⟨xq39, 0, none⟩) (H * W) (H * W))]) ++ [(Value.slice (some ⟨xq48, 0, none⟩) ((tW ((rst (IntKind.i64.wrap (q1 + 0)) 4).toNat) W H) * (tH ((rst (IntKind.i64.wrap (q1 + 0)) 4).toNat) W H)) ((tW ((rst (IntKind.i64.wrap (q1 + 0)) 4).toNat) W H) * (tH ((rst (IntKind.i64.wrap (q1 + 0)) 4).toNat) W H)))]) xq55.2.2.2 ((((([(Value.int .i64 0)]) ++ [(Value.int .i64 1)]) ++ [(Value.int .i64 2)]) ++ [(Value.int .i64 3)]) ++ [(Value.int .i64 4)]) xq55.1.2.2 wc (by rw [List.length_map]; exact crp_len) (by have h' := ((show okP (X1 - X0) (Y1 - Y0) from (hok.part (by omega) (by omega) (by omega) (by omega)))).2.2.2.2; omega) (by first | decide | omega) (by first | rfl | omega) (by first | rfl | omega) hq56.1 hq56.2 (hw.pick (idx := [6, 5, 4, 3, 0, 1, 2, 7, 8, 9, 10, 11, 12, 13, 14, 15, 16, 17, 18, 19, 20, 21, 22, 23, 24, 25]) (by decide) rfl))) (fun xq67 hq68 => ?_)
  refine GL.nil ?_
  refine GE.thenN ?_
  refine GC.seq ?_
  refine GC.pick (idx := [0, 1, 2, 3, 4, 6, 7, 8, 9, 10, 11, 14, 15, 16, 17, 18, 19, 20, 21, 22, 23, 24, 25]) (by decide) rfl ?_
  refine GC.region ?_
  refine GL.val (v := (.agg #[(.int .i64 (((W : Nat) : Int))), (.int .i64 (((H : Nat) : Int))), (.slice (some ⟨j.1.2.2.2, 0, none⟩) n (n + 5))])) (Ex.loadA rfl T.ag32 T.sz32 (i := 18) rfl (vs := [(.int .i64 (((W : Nat) : Int))), (.int .i64 (((H : Nat) : Int))), (.slice (some ⟨j.1.2.2.2, 0, none⟩) n (n + 5))]) rfl rfl) (by decide) ?_
  refine GL.val (v := (.agg #[(.int .i64 (((V : Nat) : Int))), (.int .i64 (((U : Nat) : Int))), (.slice (some ⟨j.2.1.2.2.2, 0, none⟩) m (m + 5))])) (Ex.loadA rfl T.ag32 T.sz32 (i := 19) rfl (vs := [(.int .i64 (((V : Nat) : Int))), (.int .i64 (((U : Nat) : Int))), (.slice (some ⟨j.2.1.2.2.2, 0, none⟩) m (m + 5))]) rfl rfl) (by decide) ?_
  refine GL.val (Ex.move rfl) (by decide) ?_
  refine GL.val (Ex.move rfl) (by decide) ?_
  refine GL.step (Stp.callR (vs := [(.agg #[(.int .i64 (((W : Nat) : Int))), (.int .i64 (((H : Nat) : Int))), (.slice (some ⟨j.1.2.2.2, 0, none⟩) n (n + 5))]), (.agg #[(.int .i64 (((V : Nat) : Int))), (.int .i64 (((U : Nat) : Int))), (.slice (some ⟨j.2.1.2.2.2, 0, none⟩) m (m + 5))]), (.int .i64 x), (.int .i64 y)]) rfl rfl T.own25 (by decide) (fun wc hw => paste W H n (n + 5) j.1.2.2.2 0 V U m (m + 5) j.2.1.2.2.2 0 xs ys x y wc hok hn hx (Rd.lent (hw.rdOf (i := 17) rfl 0)) hok2 hn2 hl2.1 (Rd.lent (hw.rdOf (i := 14) rfl 0)) hxb hyb)) (fun xq69 hq70 => ?_)
  refine GL.val (Ex.move rfl) (by decide) ?_
  refine GL.val (Ex.extract rfl rfl) (by decide) ?_
  refine GL.val (Ex.extract rfl rfl) (by decide) ?_
  refine GL.step (Stp.st6 (cs' := [(.int .i64 (((W : Nat) : Int))), (.int .i64 (((H : Nat) : Int))), (.slice (some ⟨xq69, 0, none⟩) (W * H) (W * H))]) rfl rfl rfl T.sz32 rfl rfl rfl) (fun _ _ => ?_)
  refine GL.val (Ex.assign rfl) (by decide) ?_
  refine GL.nil ?_
  refine GE.thenN ?_
  refine GC.seq ?_
  refine GC.region ?_
  refine GL.val (v := (.agg #[(.int .i64 (((W : Nat) : Int))), (.int .i64 (((H : Nat) : Int))), (.slice (some ⟨b, o, none⟩) n cap)])) (Ex.loadA rfl T.ag32 T.sz32 (i := 23) rfl (vs := [(.int .i64 (((W : Nat) : Int))), (.int .i64 (((H : Nat) : Int))), (.slice (some ⟨b, o, none⟩) n cap)]) rfl rfl) (by decide) ?_
  refine GL.val (v := (.agg #[(.int .i64 (((V : Nat) : Int))), (.int .i64 (((U : Nat) : Int))), (.slice (some ⟨b2, o2, none⟩) m cap2)])) (Ex.loadA rfl T.ag32 T.sz32 (i := 22) rfl (vs := [(.int .i64 (((V : Nat) : Int))), (.int .i64 (((U : Nat) : Int))), (.slice (some ⟨b2, o2, none⟩) m cap2)]) rfl rfl) (by decide) ?_
  refine GL.val (Ex.move rfl) (by decide) ?_
  refine GL.val (Ex.move rfl) (by decide) ?_
  refine GL.step (Stp.callR (vs := [(.agg #[(.int .i64 (((W : Nat) : Int))), (.int .i64 (((H : Nat) : Int))), (.slice (some ⟨b, o, none⟩) n cap)]), (.agg #[(.int .i64 (((V : Nat) : Int))), (.int .i64 (((U : Nat) : Int))), (.slice (some ⟨b2, o2, none⟩) m cap2)]), (.int .i64 x), (.int .i64 y)]) rfl rfl T.own28 (by decide) (fun wc hw => ref_paste W H n cap b o V U m cap2 b2 o2 xs ys x y wc hok hn hx (hw.rd hr (fun x => x)) hok2 hn2 hl2.1 (hw.rd hr2 (fun x => x)))) (fun xq71 hq72 => ?_)
  refine GL.val (Ex.move rfl) (by decide) ?_
  refine GL.val (Ex.extract rfl rfl) (by decide) ?_
  refine GL.val (Ex.extract rfl rfl) (by decide) ?_
  refine GL.step (Stp.st6 (cs' := [(.int .i64 (((W : Nat) : Int))), (.int .i64 (((H : Nat) : Int))), (.slice (some ⟨xq71, 0, none⟩) (W * H) (W * H))]) rfl rfl rfl T.sz32 rfl rfl rfl) (fun _ _ => ?_)
  refine GL.val (Ex.assign rfl) (by decide) ?_
  refine GL.nil ?_
  refine GE.thenN ?_
  refine GC.seq ?_
  refine GC.seq ?_
  refine GC.region ?_
  refine GL.val (v := (.agg #[(.int .i64 (((W : Nat) : Int))), (.int .i64 (((H : Nat) : Int))), (.slice (some ⟨xq69, 0, none⟩) (W * H) (W * H))])) (Ex.loadA rfl T.ag32 T.sz32 (i := 7) rfl (vs := [(.int .i64 (((W : Nat) : Int))), (.int .i64 (((H : Nat) : Int))), (.slice (some ⟨xq69, 0, none⟩) (W * H) (W * H))]) rfl rfl) (by decide) ?_
  refine GL.val (Ex.move rfl) (by decide) ?_
  refine GL.val (v := (.agg #[(.int .i64 (((W : Nat) : Int))), (.int .i64 (((H : Nat) : Int))), (.slice (some ⟨xq71, 0, none⟩) (W * H) (W * H))])) (Ex.loadA rfl T.ag32 T.sz32 (i := 6) rfl (vs := [(.int .i64 (((W : Nat) : Int))), (.int .i64 (((H : Nat) : Int))), (.slice (some ⟨xq71, 0, none⟩) (W * H) (W * H))]) rfl rfl) (by decide) ?_
  refine GL.val (Ex.move rfl) (by decide) ?_
  refine GL.step (Stp.callR (vs := [(.agg #[(.int .i64 (((W : Nat) : Int))), (.int .i64 (((H : Nat) : Int))), (.slice (some ⟨xq69, 0, none⟩) (W * H) (W * H))]), (.int .i64 0), (.agg #[(.int .i64 (((W : Nat) : Int))), (.int .i64 (((H : Nat) : Int))), (.slice (some ⟨xq71, 0, none⟩) (W * H) (W * H))]), (.int .i64 0)]) rfl rfl T.own20 (by decide) (fun wc hw => same_ (((W : Nat) : Int)) (((H : Nat) : Int)) (some ⟨xq69, 0, none⟩) (W * H) (W * H) (((W : Nat) : Int)) (((H : Nat) : Int)) (some ⟨xq71, 0, none⟩) (W * H) (W * H) 0 (pstd xs ys W H V U x y) (pstd xs ys W H V U x y) wc (by have h' := ((show okP W H from hok)).2.2.2.2; omega) (LsR.blk (tab_len _ _ _) (hw.rdOf (i := 1) rfl 0)) (LsR.blk (tab_len _ _ _) (hw.rdOf (i := 0) rfl 0)) (by first | rfl | omega) (by first | rfl | omega) (by first | rfl | (simp only [Nat.add_zero])))) (fun xq73 hq74 => ?_)
  refine GL.val (v := (.bool false)) (Ex.cast (Ex.not rfl) rfl) (by decide) ?_
  refine GL.nil ?_
  refine GE.thenN ?_
  refine GC.cond rfl (fun hq75 => by cases hq75) (fun _ => ?_)
  refine GC.skip ?_
  refine GE.thenN ?_
  refine GC.seq ?_
  refine GC.region ?_
  refine GL.val (Ex.move rfl) (by decide) ?_
  refine GL.val (v := (.agg #[(.int .i64 (((W : Nat) : Int))), (.int .i64 (((H : Nat) : Int))), (.slice (some ⟨xq69, 0, none⟩) (W * H) (W * H))])) (Ex.loadA rfl T.ag32 T.sz32 (i := 7) rfl (vs := [(.int .i64 (((W : Nat) : Int))), (.int .i64 (((H : Nat) : Int))), (.slice (some ⟨xq69, 0, none⟩) (W * H) (W * H))]) rfl rfl) (by decide) ?_
  refine GL.val (Ex.move rfl) (by decide) ?_
  refine GL.val (v := (.int .i64 101)) (Ex.add rfl rfl (Z := 101) (by decide)) (by decide) ?_
  refine GL.step (Stp.call (vs := [(.pointer (some ⟨bq7, 0, none⟩)), (.agg #[(.int .i64 (((W : Nat) : Int))), (.int .i64 (((H : Nat) : Int))), (.slice (some ⟨xq69, 0, none⟩) (W * H) (W * H))]), (.int .i64 101)]) rfl rfl T.own21 (by decide) (fun wc hw => book_p11 w _ (((W : Nat) : Int)) (((H : Nat) : Int)) bq7 101 xq69 (W * H) (W * H) ((pstd xs ys W H V U x y).map u32) 6 xq67.2.1 xq67.2.2.1 xq67.1.1 xq67.1.2.1 (((((([(Value.slice (some ⟨xq10, 0, none⟩) ((X1 - X0) * (Y1 - Y0)) ((X1 - X0) * (Y1 - Y0)))]) ++ [(Value.slice (some ⟨xq21, 0, none⟩) (W * H) (W * H))]) ++ [(Value.slice (some ⟨xq30, 0, none⟩) (W * H) (W * H))]) ++ [(Value.slice (some ⟨xq39, 0, none⟩) (H * W) (H * W))]) ++ [(Value.slice (some ⟨xq48, 0, none⟩) ((tW ((rst (IntKind.i64.wrap (q1 + 0)) 4).toNat) W H) * (tH ((rst (IntKind.i64.wrap (q1 + 0)) 4).toNat) W H)) ((tW ((rst (IntKind.i64.wrap (q1 + 0)) 4).toNat) W H) * (tH ((rst (IntKind.i64.wrap (q1 + 0)) 4).toNat) W H)))]) ++ [(Value.slice (some ⟨xq58, 0, none⟩) ((X1 - X0) * (Y1 - Y0)) ((X1 - X0) * (Y1 - Y0)))]) xq67.2.2.2 (((((([(Value.int .i64 0)]) ++ [(Value.int .i64 1)]) ++ [(Value.int .i64 2)]) ++ [(Value.int .i64 3)]) ++ [(Value.int .i64 4)]) ++ [(Value.int .i64 100)]) xq67.1.2.2 wc (by rw [List.length_map]; exact (tab_len _ _ _)) (by have h' := ((show okP W H from hok)).2.2.2.2; omega) (by first | decide | omega) (by first | rfl | omega) (by first | rfl | omega) hq68.1 hq68.2 (hw.pick (idx := [4, 3, 2, 1, 0, 5, 6, 7, 8, 9, 10, 11, 12, 13, 14, 15, 16, 17, 18, 19, 20, 21, 22, 23, 24]) (by decide) rfl))) (fun xq76 hq77 => ?_)
  refine GL.nil ?_
  refine GE.thenN ?_
  refine GC.seq ?_
  refine GC.pick (idx := [0, 1, 2, 3, 5, 6, 7, 8, 9, 10, 11, 12, 13, 14, 15, 16, 17, 18, 19, 20, 21, 22, 23, 24]) (by decide) rfl ?_
  refine GC.region ?_
  refine GL.val (v := (.agg #[(.int .i64 (((W : Nat) : Int))), (.int .i64 (((H : Nat) : Int))), (.slice (some ⟨j.1.2.2.2, 0, none⟩) n (n + 5))])) (Ex.loadA rfl T.ag32 T.sz32 (i := 19) rfl (vs := [(.int .i64 (((W : Nat) : Int))), (.int .i64 (((H : Nat) : Int))), (.slice (some ⟨j.1.2.2.2, 0, none⟩) n (n + 5))]) rfl rfl) (by decide) ?_
  refine GL.val (Ex.move rfl) (by decide) ?_
  refine GL.val (v := (.bool false)) (Ex.cast (Ex.eql rfl rfl) rfl) (by decide) ?_
  refine GL.step (Stp.callR (vs := [(.agg #[(.int .i64 (((W : Nat) : Int))), (.int .i64 (((H : Nat) : Int))), (.slice (some ⟨j.1.2.2.2, 0, none⟩) n (n + 5))]), (.bool false)]) rfl rfl T.own29 (by decide) (fun wc hw => flipF W H n (n + 5) j.1.2.2.2 0 xs wc hok hn hx (Rd.lent (hw.rdOf (i := 18) rfl 0)) )) (fun xq78 hq79 => ?_)
  refine GL.val (Ex.move rfl) (by decide) ?_
  refine GL.val (Ex.extract rfl rfl) (by decide) ?_
  refine GL.val (Ex.extract rfl rfl) (by decide) ?_
  refine GL.step (Stp.st7 (cs' := [(.int .i64 (((W : Nat) : Int))), (.int .i64 (((H : Nat) : Int))), (.slice (some ⟨xq78, 0, none⟩) (W * H) (W * H))]) rfl rfl rfl T.sz32 rfl rfl rfl) (fun _ _ => ?_)
  refine GL.val (Ex.assign rfl) (by decide) ?_
  refine GL.nil ?_
  refine GE.thenN ?_
  refine GC.seq ?_
  refine GC.region ?_
  refine GL.val (v := (.agg #[(.int .i64 (((W : Nat) : Int))), (.int .i64 (((H : Nat) : Int))), (.slice (some ⟨b, o, none⟩) n cap)])) (Ex.loadA rfl T.ag32 T.sz32 (i := 24) rfl (vs := [(.int .i64 (((W : Nat) : Int))), (.int .i64 (((H : Nat) : Int))), (.slice (some ⟨b, o, none⟩) n cap)]) rfl rfl) (by decide) ?_
  refine GL.val (Ex.move rfl) (by decide) ?_
  refine GL.val (v := (.bool false)) (Ex.cast (Ex.eql rfl rfl) rfl) (by decide) ?_
  refine GL.step (Stp.callR (vs := [(.agg #[(.int .i64 (((W : Nat) : Int))), (.int .i64 (((H : Nat) : Int))), (.slice (some ⟨b, o, none⟩) n cap)]), (.bool false)]) rfl rfl T.own30 (by decide) (fun wc hw => ref_flipF W H n cap b o xs wc hok hn hx (hw.rd hr (fun x => x)) )) (fun xq80 hq81 => ?_)
  refine GL.val (Ex.move rfl) (by decide) ?_
  refine GL.val (Ex.extract rfl rfl) (by decide) ?_
  refine GL.val (Ex.extract rfl rfl) (by decide) ?_
  refine GL.step (Stp.st7 (cs' := [(.int .i64 (((W : Nat) : Int))), (.int .i64 (((H : Nat) : Int))), (.slice (some ⟨xq80, 0, none⟩) (W * H) (W * H))]) rfl rfl rfl T.sz32 rfl rfl rfl) (fun _ _ => ?_)
  refine GL.val (Ex.assign rfl) (by decide) ?_
  refine GL.nil ?_
  refine GE.thenN ?_
  refine GC.seq ?_
  refine GC.seq ?_
  refine GC.region ?_
  refine GL.val (v := (.agg #[(.int .i64 (((W : Nat) : Int))), (.int .i64 (((H : Nat) : Int))), (.slice (some ⟨xq78, 0, none⟩) (W * H) (W * H))])) (Ex.loadA rfl T.ag32 T.sz32 (i := 8) rfl (vs := [(.int .i64 (((W : Nat) : Int))), (.int .i64 (((H : Nat) : Int))), (.slice (some ⟨xq78, 0, none⟩) (W * H) (W * H))]) rfl rfl) (by decide) ?_
  refine GL.val (Ex.move rfl) (by decide) ?_
  refine GL.val (v := (.agg #[(.int .i64 (((W : Nat) : Int))), (.int .i64 (((H : Nat) : Int))), (.slice (some ⟨xq80, 0, none⟩) (W * H) (W * H))])) (Ex.loadA rfl T.ag32 T.sz32 (i := 7) rfl (vs := [(.int .i64 (((W : Nat) : Int))), (.int .i64 (((H : Nat) : Int))), (.slice (some ⟨xq80, 0, none⟩) (W * H) (W * H))]) rfl rfl) (by decide) ?_
  refine GL.val (Ex.move rfl) (by decide) ?_
  refine GL.step (Stp.callR (vs := [(.agg #[(.int .i64 (((W : Nat) : Int))), (.int .i64 (((H : Nat) : Int))), (.slice (some ⟨xq78, 0, none⟩) (W * H) (W * H))]), (.int .i64 0), (.agg #[(.int .i64 (((W : Nat) : Int))), (.int .i64 (((H : Nat) : Int))), (.slice (some ⟨xq80, 0, none⟩) (W * H) (W * H))]), (.int .i64 0)]) rfl rfl T.own20 (by decide) (fun wc hw => same_ (((W : Nat) : Int)) (((H : Nat) : Int)) (some ⟨xq78, 0, none⟩) (W * H) (W * H) (((W : Nat) : Int)) (((H : Nat) : Int)) (some ⟨xq80, 0, none⟩) (W * H) (W * H) 0 (flF xs W H) (flF xs W H) wc (by have h' := ((show okP W H from hok)).2.2.2.2; omega) (LsR.blk flF_len (hw.rdOf (i := 1) rfl 0)) (LsR.blk flF_len (hw.rdOf (i := 0) rfl 0)) (by first | rfl | omega) (by first | rfl | omega) (by first | rfl | (simp only [Nat.add_zero])))) (fun xq82 hq83 => ?_)
  refine GL.val (v := (.bool false)) (Ex.cast (Ex.not rfl) rfl) (by decide) ?_
  refine GL.nil ?_
  refine GE.thenN ?_
  refine GC.cond rfl (fun hq84 => by cases hq84) (fun _ => ?_)
  refine GC.skip ?_
  refine GE.thenN ?_
  refine GC.seq ?_
  refine GC.region ?_
  refine GL.val (Ex.move rfl) (by decide) ?_
  refine GL.val (v := (.agg #[(.int .i64 (((W : Nat) : Int))), (.int .i64 (((H : Nat) : Int))), (.slice (some ⟨xq78, 0, none⟩) (W * H) (W * H))])) (Ex.loadA rfl T.ag32 T.sz32 (i := 8) rfl (vs := [(.int .i64 (((W : Nat) : Int))), (.int .i64 (((H : Nat) : Int))), (.slice (some ⟨xq78, 0, none⟩) (W * H) (W * H))]) rfl rfl) (by decide) ?_
  refine GL.val (Ex.move rfl) (by decide) ?_
  refine GL.val (v := (.int .i64 102)) (Ex.add rfl rfl (Z := 102) (by decide)) (by decide) ?_
  refine GL.step (Stp.call (vs := [(.pointer (some ⟨bq7, 0, none⟩)), (.agg #[(.int .i64 (((W : Nat) : Int))), (.int .i64 (((H : Nat) : Int))), (.slice (some ⟨xq78, 0, none⟩) (W * H) (W * H))]), (.int .i64 102)]) rfl rfl T.own21 (by decide) (fun wc hw => book_p11 w _ (((W : Nat) : Int)) (((H : Nat) : Int)) bq7 102 xq78 (W * H) (W * H) ((flF xs W H).map u32) 7 xq76.2.1 xq76.2.2.1 xq76.1.1 xq76.1.2.1 ((((((([(Value.slice (some ⟨xq10, 0, none⟩) ((X1 - X0) * (Y1 - Y0)) ((X1 - X0) * (Y1 - Y0)))]) ++ [(Value.slice (some ⟨xq21, 0, none⟩) (W * H) (W * H))]) ++ [(Value.slice (some ⟨xq30, 0, none⟩) (W * H) (W * H))]) ++ [(Value.slice (some ⟨xq39, 0, none⟩) (H * W) (H * W))]) ++ [(Value.slice (some ⟨xq48, 0, none⟩) ((tW ((rst (IntKind.i64.wrap (q1 + 0)) 4).toNat) W H) * (tH ((rst (IntKind.i64.wrap (q1 + 0)) 4).toNat) W H)) ((tW ((rst (IntKind.i64.wrap (q1 + 0)) 4).toNat) W H) * (tH ((rst (IntKind.i64.wrap (q1 + 0)) 4).toNat) W H)))]) ++ [(Value.slice (some ⟨xq58, 0, none⟩) ((X1 - X0) * (Y1 - Y0)) ((X1 - X0) * (Y1 - Y0)))]) ++ [(Value.slice (some ⟨xq69, 0, none⟩) (W * H) (W * H))]) xq76.2.2.2 ((((((([(Value.int .i64 0)]) ++ [(Value.int .i64 1)]) ++ [(Value.int .i64 2)]) ++ [(Value.int .i64 3)]) ++ [(Value.int .i64 4)]) ++ [(Value.int .i64 100)]) ++ [(Value.int .i64 101)]) xq76.1.2.2 wc (by rw [List.length_map]; exact flF_len) (by have h' := ((show okP W H from hok)).2.2.2.2; omega) (by first | decide | omega) (by first | rfl | omega) (by first | rfl | omega) hq77.1 hq77.2 (hw.pick (idx := [4, 3, 2, 1, 0, 5, 6, 7, 8, 9, 10, 11, 12, 13, 14, 15, 16, 17, 18, 19, 20, 21, 22, 23, 24, 25]) (by decide) rfl))) (fun xq85 hq86 => ?_)
  refine GL.nil ?_
  refine GE.thenN ?_
  refine GC.seq ?_
  refine GC.pick (idx := [0, 1, 2, 3, 5, 6, 7, 8, 9, 10, 11, 12, 13, 14, 15, 16, 17, 18, 19, 20, 21, 22, 23, 24, 25]) (by decide) rfl ?_
  refine GC.region ?_
  refine GL.val (v := (.agg #[(.int .i64 (((W : Nat) : Int))), (.int .i64 (((H : Nat) : Int))), (.slice (some ⟨j.1.2.2.2, 0, none⟩) n (n + 5))])) (Ex.loadA rfl T.ag32 T.sz32 (i := 20) rfl (vs := [(.int .i64 (((W : Nat) : Int))), (.int .i64 (((H : Nat) : Int))), (.slice (some ⟨j.1.2.2.2, 0, none⟩) n (n + 5))]) rfl rfl) (by decide) ?_
  refine GL.step (Stp.callR (vs := [(.agg #[(.int .i64 (((W : Nat) : Int))), (.int .i64 (((H : Nat) : Int))), (.slice (some ⟨j.1.2.2.2, 0, none⟩) n (n + 5))])]) rfl rfl T.own31 (by decide) (fun wc hw => transp W H n (n + 5) j.1.2.2.2 0 xs wc hok hn hx (Rd.lent (hw.rdOf (i := 19) rfl 0)) )) (fun xq87 hq88 => ?_)
  refine GL.val (Ex.move rfl) (by decide) ?_
  refine GL.val (Ex.extract rfl rfl) (by decide) ?_
  refine GL.val (Ex.extract rfl rfl) (by decide) ?_
  refine GL.step (Stp.st8 (cs' := [(.int .i64 (((H : Nat) : Int))), (.int .i64 (((W : Nat) : Int))), (.slice (some ⟨xq87, 0, none⟩) (H * W) (H * W))]) rfl rfl rfl T.sz32 rfl rfl rfl) (fun _ _ => ?_)
  refine GL.val (Ex.assign rfl) (by decide) ?_
  refine GL.nil ?_
  refine GE.thenN ?_
  refine GC.seq ?_
  refine GC.region ?_
  refine GL.val (v := (.agg #[(.int .i64 (((W : Nat) : Int))), (.int .i64 (((H : Nat) : Int))), (.slice (some ⟨b, o, none⟩) n cap)])) (Ex.loadA rfl T.ag32 T.sz32 (i := 25) rfl (vs := [(.int .i64 (((W : Nat) : Int))), (.int .i64 (((H : Nat) : Int))), (.slice (some ⟨b, o, none⟩) n cap)]) rfl rfl) (by decide) ?_
  refine GL.step (Stp.callR (vs := [(.agg #[(.int .i64 (((W : Nat) : Int))), (.int .i64 (((H : Nat) : Int))), (.slice (some ⟨b, o, none⟩) n cap)])]) rfl rfl T.own32 (by decide) (fun wc hw => ref_transp W H n cap b o xs wc hok hn hx (hw.rd hr (fun x => x)) )) (fun xq89 hq90 => ?_)
  refine GL.val (Ex.move rfl) (by decide) ?_
  refine GL.val (Ex.extract rfl rfl) (by decide) ?_
  refine GL.val (Ex.extract rfl rfl) (by decide) ?_
  refine GL.step (Stp.st8 (cs' := [(.int .i64 (((H : Nat) : Int))), (.int .i64 (((W : Nat) : Int))), (.slice (some ⟨xq89, 0, none⟩) (H * W) (H * W))]) rfl rfl rfl T.sz32 rfl rfl rfl) (fun _ _ => ?_)
  refine GL.val (Ex.assign rfl) (by decide) ?_
  refine GL.nil ?_
  refine GE.thenN ?_
  refine GC.seq ?_
  refine GC.seq ?_
  refine GC.region ?_
  refine GL.val (v := (.agg #[(.int .i64 (((H : Nat) : Int))), (.int .i64 (((W : Nat) : Int))), (.slice (some ⟨xq87, 0, none⟩) (H * W) (H * W))])) (Ex.loadA rfl T.ag32 T.sz32 (i := 9) rfl (vs := [(.int .i64 (((H : Nat) : Int))), (.int .i64 (((W : Nat) : Int))), (.slice (some ⟨xq87, 0, none⟩) (H * W) (H * W))]) rfl rfl) (by decide) ?_
  refine GL.val (Ex.move rfl) (by decide) ?_
  refine GL.val (v := (.agg #[(.int .i64 (((H : Nat) : Int))), (.int .i64 (((W : Nat) : Int))), (.slice (some ⟨xq89, 0, none⟩) (H * W) (H * W))])) (Ex.loadA rfl T.ag32 T.sz32 (i := 8) rfl (vs := [(.int .i64 (((H : Nat) : Int))), (.int .i64 (((W : Nat) : Int))), (.slice (some ⟨xq89, 0, none⟩) (H * W) (H * W))]) rfl rfl) (by decide) ?_
  refine GL.val (Ex.move rfl) (by decide) ?_
  refine GL.step (Stp.callR (vs := [(.agg #[(.int .i64 (((H : Nat) : Int))), (.int .i64 (((W : Nat) : Int))), (.slice (some ⟨xq87, 0, none⟩) (H * W) (H * W))]), (.int .i64 0), (.agg #[(.int .i64 (((H : Nat) : Int))), (.int .i64 (((W : Nat) : Int))), (.slice (some ⟨xq89, 0, none⟩) (H * W) (H * W))]), (.int .i64 0)]) rfl rfl T.own20 (by decide) (fun wc hw => same_ (((H : Nat) : Int)) (((W : Nat) : Int)) (some ⟨xq87, 0, none⟩) (H * W) (H * W) (((H : Nat) : Int)) (((W : Nat) : Int)) (some ⟨xq89, 0, none⟩) (H * W) (H * W) 0 (trp xs W H) (trp xs W H) wc (by have h' := ((show okP H W from hok.swap)).2.2.2.2; omega) (LsR.blk trp_len (hw.rdOf (i := 1) rfl 0)) (LsR.blk trp_len (hw.rdOf (i := 0) rfl 0)) (by first | rfl | omega) (by first | rfl | omega) (by first | rfl | (simp only [Nat.add_zero])))) (fun xq91 hq92 => ?_)
  refine GL.val (v := (.bool false)) (Ex.cast (Ex.not rfl) rfl) (by decide) ?_
  refine GL.nil ?_
  refine GE.thenN ?_
  refine GC.cond rfl (fun hq93 => by cases hq93) (fun _ => ?_)
  refine GC.skip ?_
  refine GE.thenN ?_
  refine GC.seq ?_
  refine GC.region ?_
  refine GL.val (Ex.move rfl) (by decide) ?_
  refine GL.val (v := (.agg #[(.int .i64 (((H : Nat) : Int))), (.int .i64 (((W : Nat) : Int))), (.slice (some ⟨xq87, 0, none⟩) (H * W) (H * W))])) (Ex.loadA rfl T.ag32 T.sz32 (i := 9) rfl (vs := [(.int .i64 (((H : Nat) : Int))), (.int .i64 (((W : Nat) : Int))), (.slice (some ⟨xq87, 0, none⟩) (H * W) (H * W))]) rfl rfl) (by decide) ?_
  refine GL.val (Ex.move rfl) (by decide) ?_
  refine GL.val (v := (.int .i64 103)) (Ex.add rfl rfl (Z := 103) (by decide)) (by decide) ?_
  refine GL.step (Stp.call (vs := [(.pointer (some ⟨bq7, 0, none⟩)), (.agg #[(.int .i64 (((H : Nat) : Int))), (.int .i64 (((W : Nat) : Int))), (.slice (some ⟨xq87, 0, none⟩) (H * W) (H * W))]), (.int .i64 103)]) rfl rfl T.own21 (by decide) (fun wc hw => book_p11 w _ (((H : Nat) : Int)) (((W : Nat) : Int)) bq7 103 xq87 (H * W) (H * W) ((trp xs W H).map u32) 8 xq85.2.1 xq85.2.2.1 xq85.1.1 xq85.1.2.1 (((((((([(Value.slice (some ⟨xq10, 0, none⟩) ((X1 - X0) * (Y1 - Y0)) ((X1 - X0) * (Y1 - Y0)))]) ++ [(Value.slice (some ⟨xq21, 0, none⟩) (W * H) (W * H))]) ++ [(Value.slice (some ⟨xq30, 0, none⟩) (W * H) (W * H))]) ++ [(Value.slice (some ⟨xq39, 0, none⟩) (H * W) (H * W))]) ++ [(Value.slice (some ⟨xq48, 0, none⟩) ((tW ((rst (IntKind.i64.wrap (q1 + 0)) 4).toNat) W H) * (tH ((rst (IntKind.i64.wrap (q1 + 0)) 4).toNat) W H)) ((tW ((rst (IntKind.i64.wrap (q1 + 0)) 4).toNat) W H) * (tH ((rst (IntKind.i64.wrap (q1 + 0)) 4).toNat) W H)))]) ++ [(Value.slice (some ⟨xq58, 0, none⟩) ((X1 - X0) * (Y1 - Y0)) ((X1 - X0) * (Y1 - Y0)))]) ++ [(Value.slice (some ⟨xq69, 0, none⟩) (W * H) (W * H))]) ++ [(Value.slice (some ⟨xq78, 0, none⟩) (W * H) (W * H))]) xq85.2.2.2 (((((((([(Value.int .i64 0)]) ++ [(Value.int .i64 1)]) ++ [(Value.int .i64 2)]) ++ [(Value.int .i64 3)]) ++ [(Value.int .i64 4)]) ++ [(Value.int .i64 100)]) ++ [(Value.int .i64 101)]) ++ [(Value.int .i64 102)]) xq85.1.2.2 wc (by rw [List.length_map]; exact trp_len) (by have h' := ((show okP H W from hok.swap)).2.2.2.2; omega) (by first | decide | omega) (by first | rfl | omega) (by first | rfl | omega) hq86.1 hq86.2 (hw.pick (idx := [4, 3, 2, 1, 0, 5, 6, 7, 8, 9, 10, 11, 12, 13, 14, 15, 16, 17, 18, 19, 20, 21, 22, 23, 24, 25, 26]) (by decide) rfl))) (fun xq94 hq95 => ?_)
  refine GL.nil ?_
  refine GE.thenN ?_
  refine GC.seq ?_
  refine GC.pick (idx := [0, 1, 2, 3, 5, 6, 7, 8, 9, 10, 11, 12, 13, 14, 15, 16, 17, 18, 19, 20, 21, 22, 23, 24, 25, 26]) (by decide) rfl ?_
  refine GC.region ?_
  refine GL.val (v := (.agg #[(.int .i64 (((W : Nat) : Int))), (.int .i64 (((H : Nat) : Int))), (.slice (some ⟨j.1.2.2.2, 0, none⟩) n (n + 5))])) (Ex.loadA rfl T.ag32 T.sz32 (i := 21) rfl (vs := [(.int .i64 (((W : Nat) : Int))), (.int .i64 (((H : Nat) : Int))), (.slice (some ⟨j.1.2.2.2, 0, none⟩) n (n + 5))]) rfl rfl) (by decide) ?_
  refine GL.val (Ex.move rfl) (by decide) ?_
  refine GL.val (Ex.move rfl) (by decide) ?_
  refine GL.val (v := (.int .i64 (IntKind.i64.wrap (q1 + 1)))) (Ex.add rfl rfl (Z := IntKind.i64.wrap (q1 + 1)) rfl) (by decide) ?_
  refine GL.step (Stp.callR (vs := [(.agg #[(.int .i64 (((W : Nat) : Int))), (.int .i64 (((H : Nat) : Int))), (.slice (some ⟨j.1.2.2.2, 0, none⟩) n (n + 5))]), (.int .i64 (IntKind.i64.wrap (q1 + 1)))]) rfl rfl T.own33 (by decide) (fun wc hw => turn_any W H n (n + 5) j.1.2.2.2 0 xs (IntKind.i64.wrap (q1 + 1)) ((rst (IntKind.i64.wrap (q1 + 1)) 4).toNat) wc hok hn hx (Rd.lent (hw.rdOf (i := 20) rfl 0)) (rst4 (IntKind.i64.wrap (q1 + 1))).2 (rst4 (IntKind.i64.wrap (q1 + 1))).1)) (fun xq96 hq97 => ?_)
  refine GL.val (Ex.move rfl) (by decide) ?_
  refine GL.val (Ex.extract rfl rfl) (by decide) ?_
  refine GL.val (Ex.extract rfl rfl) (by decide) ?_
  refine GL.step (Stp.st9 (cs' := [(.int .i64 (((tW ((rst (IntKind.i64.wrap (q1 + 1)) 4).toNat) W H : Nat) : Int))), (.int .i64 (((tH ((rst (IntKind.i64.wrap (q1 + 1)) 4).toNat) W H : Nat) : Int))), (.slice (some ⟨xq96, 0, none⟩) ((tW ((rst (IntKind.i64.wrap (q1 + 1)) 4).toNat) W H) * (tH ((rst (IntKind.i64.wrap (q1 + 1)) 4).toNat) W H)) ((tW ((rst (IntKind.i64.wrap (q1 + 1)) 4).toNat) W H) * (tH ((rst (IntKind.i64.wrap (q1 + 1)) 4).toNat) W H)))]) rfl rfl rfl T.sz32 rfl rfl rfl) (fun _ _ => ?_)
  refine GL.val (Ex.assign rfl) (by decide) ?_
  refine GL.nil ?_
  refine GE.thenN ?_
  refine GC.seq ?_
  refine GC.region ?_
  refine GL.val (v := (.agg #[(.int .i64 (((W : Nat) : Int))), (.int .i64 (((H : Nat) : Int))), (.slice (some ⟨b, o, none⟩) n cap)])) (Ex.loadA rfl T.ag32 T.sz32 (i := 26) rfl (vs := [(.int .i64 (((W : Nat) : Int))), (.int .i64 (((H : Nat) : Int))), (.slice (some ⟨b, o, none⟩) n cap)]) rfl rfl) (by decide) ?_
  refine GL.val (Ex.move rfl) (by decide) ?_
  refine GL.val (Ex.move rfl) (by decide) ?_
  refine GL.val (v := (.int .i64 (IntKind.i64.wrap (q1 + 1)))) (Ex.add rfl rfl (Z := IntKind.i64.wrap (q1 + 1)) rfl) (by decide) ?_
  refine GL.step (Stp.callR (vs := [(.agg #[(.int .i64 (((W : Nat) : Int))), (.int .i64 (((H : Nat) : Int))), (.slice (some ⟨b, o, none⟩) n cap)]), (.int .i64 (IntKind.i64.wrap (q1 + 1)))]) rfl rfl T.own34 (by decide) (fun wc hw => ref_turn W H n cap b o xs (IntKind.i64.wrap (q1 + 1)) ((rst (IntKind.i64.wrap (q1 + 1)) 4).toNat) wc hok hn hx (hw.rd hr (fun x => x)) (rst4 (IntKind.i64.wrap (q1 + 1))).2 (rst4 (IntKind.i64.wrap (q1 + 1))).1)) (fun xq98 hq99 => ?_)
  refine GL.val (Ex.move rfl) (by decide) ?_
  refine GL.val (Ex.extract rfl rfl) (by decide) ?_
  refine GL.val (Ex.extract rfl rfl) (by decide) ?_
  refine GL.step (Stp.st9 (cs' := [(.int .i64 (((tW ((rst (IntKind.i64.wrap (q1 + 1)) 4).toNat) W H : Nat) : Int))), (.int .i64 (((tH ((rst (IntKind.i64.wrap (q1 + 1)) 4).toNat) W H : Nat) : Int))), (.slice (some ⟨xq98, 0, none⟩) ((tW ((rst (IntKind.i64.wrap (q1 + 1)) 4).toNat) W H) * (tH ((rst (IntKind.i64.wrap (q1 + 1)) 4).toNat) W H)) ((tW ((rst (IntKind.i64.wrap (q1 + 1)) 4).toNat) W H) * (tH ((rst (IntKind.i64.wrap (q1 + 1)) 4).toNat) W H)))]) rfl rfl rfl T.sz32 rfl rfl rfl) (fun _ _ => ?_)
  refine GL.val (Ex.assign rfl) (by decide) ?_
  refine GL.nil ?_
  refine GE.thenN ?_
  refine GC.seq ?_
  refine GC.seq ?_
  refine GC.region ?_
  refine GL.val (v := (.agg #[(.int .i64 (((tW ((rst (IntKind.i64.wrap (q1 + 1)) 4).toNat) W H : Nat) : Int))), (.int .i64 (((tH ((rst (IntKind.i64.wrap (q1 + 1)) 4).toNat) W H : Nat) : Int))), (.slice (some ⟨xq96, 0, none⟩) ((tW ((rst (IntKind.i64.wrap (q1 + 1)) 4).toNat) W H) * (tH ((rst (IntKind.i64.wrap (q1 + 1)) 4).toNat) W H)) ((tW ((rst (IntKind.i64.wrap (q1 + 1)) 4).toNat) W H) * (tH ((rst (IntKind.i64.wrap (q1 + 1)) 4).toNat) W H)))])) (Ex.loadA rfl T.ag32 T.sz32 (i := 10) rfl (vs := [(.int .i64 (((tW ((rst (IntKind.i64.wrap (q1 + 1)) 4).toNat) W H : Nat) : Int))), (.int .i64 (((tH ((rst (IntKind.i64.wrap (q1 + 1)) 4).toNat) W H : Nat) : Int))), (.slice (some ⟨xq96, 0, none⟩) ((tW ((rst (IntKind.i64.wrap (q1 + 1)) 4).toNat) W H) * (tH ((rst (IntKind.i64.wrap (q1 + 1)) 4).toNat) W H)) ((tW ((rst (IntKind.i64.wrap (q1 + 1)) 4).toNat) W H) * (tH ((rst (IntKind.i64.wrap (q1 + 1)) 4).toNat) W H)))]) rfl rfl) (by decide) ?_
  refine GL.val (Ex.move rfl) (by decide) ?_
  refine GL.val (v := (.agg #[(.int .i64 (((tW ((rst (IntKind.i64.wrap (q1 + 1)) 4).toNat) W H : Nat) : Int))), (.int .i64 (((tH ((rst (IntKind.i64.wrap (q1 + 1)) 4).toNat) W H : Nat) : Int))), (.slice (some ⟨xq98, 0, none⟩) ((tW ((rst (IntKind.i64.wrap (q1 + 1)) 4).toNat) W H) * (tH ((rst (IntKind.i64.wrap (q1 + 1)) 4).toNat) W H)) ((tW ((rst (IntKind.i64.wrap (q1 + 1)) 4).toNat) W H) * (tH ((rst (IntKind.i64.wrap (q1 + 1)) 4).toNat) W H)))])) (Ex.loadA rfl T.ag32 T.sz32 (i := 9) rfl (vs := [(.int .i64 (((tW ((rst (IntKind.i64.wrap (q1 + 1)) 4).toNat) W H : Nat) : Int))), (.int .i64 (((tH ((rst (IntKind.i64.wrap (q1 + 1)) 4).toNat) W H : Nat) : Int))), (.slice (some ⟨xq98, 0, none⟩) ((tW ((rst (IntKind.i64.wrap (q1 + 1)) 4).toNat) W H) * (tH ((rst (IntKind.i64.wrap (q1 + 1)) 4).toNat) W H)) ((tW ((rst (IntKind.i64.wrap (q1 + 1)) 4).toNat) W H) * (tH ((rst (IntKind.i64.wrap (q1 + 1)) 4).toNat) W H)))]) rfl rfl) (by decide) ?_
  refine GL.val (Ex.move rfl) (by decide) ?_
  refine GL.step (Stp.callR (vs := [(.agg #[(.int .i64 (((tW ((rst (IntKind.i64.wrap (q1 + 1)) 4).toNat) W H : Nat) : Int))), (.int .i64 (((tH ((rst (IntKind.i64.wrap (q1 + 1)) 4).toNat) W H : Nat) : Int))), (.slice (some ⟨xq96, 0, none⟩) ((tW ((rst (IntKind.i64.wrap (q1 + 1)) 4).toNat) W H) * (tH ((rst (IntKind.i64.wrap (q1 + 1)) 4).toNat) W H)) ((tW ((rst (IntKind.i64.wrap (q1 + 1)) 4).toNat) W H) * (tH ((rst (IntKind.i64.wrap (q1 + 1)) 4).toNat) W H)))]), (.int .i64 0), (.agg #[(.int .i64 (((tW ((rst (IntKind.i64.wrap (q1 + 1)) 4).toNat) W H : Nat) : Int))), (.int .i64 (((tH ((rst (IntKind.i64.wrap (q1 + 1)) 4).toNat) W H : Nat) : Int))), (.slice (some ⟨xq98, 0, none⟩) ((tW ((rst (IntKind.i64.wrap (q1 + 1)) 4).toNat) W H) * (tH ((rst (IntKind.i64.wrap (q1 + 1)) 4).toNat) W H)) ((tW ((rst (IntKind.i64.wrap (q1 + 1)) 4).toNat) W H) * (tH ((rst (IntKind.i64.wrap (q1 + 1)) 4).toNat) W H)))]), (.int .i64 0)]) rfl rfl T.own20 (by decide) (fun wc hw => same_ (((tW ((rst (IntKind.i64.wrap (q1 + 1)) 4).toNat) W H : Nat) : Int)) (((tH ((rst (IntKind.i64.wrap (q1 + 1)) 4).toNat) W H : Nat) : Int)) (some ⟨xq96, 0, none⟩) ((tW ((rst (IntKind.i64.wrap (q1 + 1)) 4).toNat) W H) * (tH ((rst (IntKind.i64.wrap (q1 + 1)) 4).toNat) W H)) ((tW ((rst (IntKind.i64.wrap (q1 + 1)) 4).toNat) W H) * (tH ((rst (IntKind.i64.wrap (q1 + 1)) 4).toNat) W H)) (((tW ((rst (IntKind.i64.wrap (q1 + 1)) 4).toNat) W H : Nat) : Int)) (((tH ((rst (IntKind.i64.wrap (q1 + 1)) 4).toNat) W H : Nat) : Int)) (some ⟨xq98, 0, none⟩) ((tW ((rst (IntKind.i64.wrap (q1 + 1)) 4).toNat) W H) * (tH ((rst (IntKind.i64.wrap (q1 + 1)) 4).toNat) W H)) ((tW ((rst (IntKind.i64.wrap (q1 + 1)) 4).toNat) W H) * (tH ((rst (IntKind.i64.wrap (q1 + 1)) 4).toNat) W H)) 0 (trn ((rst (IntKind.i64.wrap (q1 + 1)) 4).toNat) xs W H) (trn ((rst (IntKind.i64.wrap (q1 + 1)) 4).toNat) xs W H) wc (by have h' := ((show okP (tW ((rst (IntKind.i64.wrap (q1 + 1)) 4).toNat) W H) (tH ((rst (IntKind.i64.wrap (q1 + 1)) 4).toNat) W H) from (okP.turn hok ((rst (IntKind.i64.wrap (q1 + 1)) 4).toNat)))).2.2.2.2; omega) (LsR.blk (trn_len (rst4 _).2) (hw.rdOf (i := 1) rfl 0)) (LsR.blk (trn_len (rst4 _).2) (hw.rdOf (i := 0) rfl 0)) (by first | rfl | omega) (by first | rfl | omega) (by first | rfl | (simp only [Nat.add_zero])))) (fun xq100 hq101 => ?_)
  refine GL.val (v := (.bool false)) (Ex.cast (Ex.not rfl) rfl) (by decide) ?_
  refine GL.nil ?_
  refine GE.thenN ?_
  refine GC.cond rfl (fun hq102 => by cases hq102) (fun _ => ?_)
  refine GC.skip ?_
  refine GE.thenN ?_
  refine GC.region ?_
  refine GL.val (Ex.move rfl) (by decide) ?_
  refine GL.val (v := (.agg #[(.int .i64 (((tW ((rst (IntKind.i64.wrap (q1 + 1)) 4).toNat) W H : Nat) : Int))), (.int .i64 (((tH ((rst (IntKind.i64.wrap (q1 + 1)) 4).toNat) W H : Nat) : Int))), (.slice (some ⟨xq96, 0, none⟩) ((tW ((rst (IntKind.i64.wrap (q1 + 1)) 4).toNat) W H) * (tH ((rst (IntKind.i64.wrap (q1 + 1)) 4).toNat) W H)) ((tW ((rst (IntKind.i64.wrap (q1 + 1)) 4).toNat) W H) * (tH ((rst (IntKind.i64.wrap (q1 + 1)) 4).toNat) W H)))])) (Ex.loadA rfl T.ag32 T.sz32 (i := 10) rfl (vs := [(.int .i64 (((tW ((rst (IntKind.i64.wrap (q1 + 1)) 4).toNat) W H : Nat) : Int))), (.int .i64 (((tH ((rst (IntKind.i64.wrap (q1 + 1)) 4).toNat) W H : Nat) : Int))), (.slice (some ⟨xq96, 0, none⟩) ((tW ((rst (IntKind.i64.wrap (q1 + 1)) 4).toNat) W H) * (tH ((rst (IntKind.i64.wrap (q1 + 1)) 4).toNat) W H)) ((tW ((rst (IntKind.i64.wrap (q1 + 1)) 4).toNat) W H) * (tH ((rst (IntKind.i64.wrap (q1 + 1)) 4).toNat) W H)))]) rfl rfl) (by decide) ?_
  refine GL.val (Ex.move rfl) (by decide) ?_
  refine GL.val (v := (.int .i64 104)) (Ex.add rfl rfl (Z := 104) (by decide)) (by decide) ?_
  refine GL.step (Stp.call (vs := [(.pointer (some ⟨bq7, 0, none⟩)), (.agg #[(.int .i64 (((tW ((rst (IntKind.i64.wrap (q1 + 1)) 4).toNat) W H : Nat) : Int))), (.int .i64 (((tH ((rst (IntKind.i64.wrap (q1 + 1)) 4).toNat) W H : Nat) : Int))), (.slice (some ⟨xq96, 0, none⟩) ((tW ((rst (IntKind.i64.wrap (q1 + 1)) 4).toNat) W H) * (tH ((rst (IntKind.i64.wrap (q1 + 1)) 4).toNat) W H)) ((tW ((rst (IntKind.i64.wrap (q1 + 1)) 4).toNat) W H) * (tH ((rst (IntKind.i64.wrap (q1 + 1)) 4).toNat) W H)))]), (.int .i64 104)]) rfl rfl T.own21 (by decide) (fun wc hw => book_p11 w _ (((tW ((rst (IntKind.i64.wrap (q1 + 1)) 4).toNat) W H : Nat) : Int)) (((tH ((rst (IntKind.i64.wrap (q1 + 1)) 4).toNat) W H : Nat) : Int)) bq7 104 xq96 ((tW ((rst (IntKind.i64.wrap (q1 + 1)) 4).toNat) W H) * (tH ((rst (IntKind.i64.wrap (q1 + 1)) 4).toNat) W H)) ((tW ((rst (IntKind.i64.wrap (q1 + 1)) 4).toNat) W H) * (tH ((rst (IntKind.i64.wrap (q1 + 1)) 4).toNat) W H)) ((trn ((rst (IntKind.i64.wrap (q1 + 1)) 4).toNat) xs W H).map u32) 9 xq94.2.1 xq94.2.2.1 xq94.1.1 xq94.1.2.1 ((((((((([(Value.slice (some ⟨xq10, 0, none⟩) ((X1 - X0) * (Y1 - Y0)) ((X1 - X0) * (Y1 - Y0)))]) ++ [(Value.slice (some ⟨xq21, 0, none⟩) (W * H) (W * H))]) ++ [(Value.slice (some ⟨xq30, 0, none⟩) (W * H) (W * H))]) ++ [(Value.slice (some ⟨xq39, 0, none⟩) (H * W) (H * W))]) ++ [(Value.slice (some ⟨xq48, 0, none⟩) ((tW ((rst (IntKind.i64.wrap (q1 + 0)) 4).toNat) W H) * (tH ((rst (IntKind.i64.wrap (q1 + 0)) 4).toNat) W H)) ((tW ((rst (IntKind.i64.wrap (q1 + 0)) 4).toNat) W H) * (tH ((rst (IntKind.i64.wrap (q1 + 0)) 4).toNat) W H)))]) ++ [(Value.slice (some ⟨xq58, 0, none⟩) ((X1 - X0) * (Y1 - Y0)) ((X1 - X0) * (Y1 - Y0)))]) ++ [(Value.slice (some ⟨xq69, 0, none⟩) (W * H) (W * H))]) ++ [(Value.slice (some ⟨xq78, 0, none⟩) (W * H) (W * H))]) ++ [(Value.slice (some ⟨xq87, 0, none⟩) (H * W) (H * W))]) xq94.2.2.2 ((((((((([(Value.int .i64 0)]) ++ [(Value.int .i64 1)]) ++ [(Value.int .i64 2)]) ++ [(Value.int .i64 3)]) ++ [(Value.int .i64 4)]) ++ [(Value.int .i64 100)]) ++ [(Value.int .i64 101)]) ++ [(Value.int .i64 102)]) ++ [(Value.int .i64 103)]) xq94.1.2.2 wc (by rw [List.length_map]; exact (trn_len (rst4 _).2)) (by have h' := ((show okP (tW ((rst (IntKind.i64.wrap (q1 + 1)) 4).toNat) W H) (tH ((rst (IntKind.i64.wrap (q1 + 1)) 4).toNat) W H) from (okP.turn hok ((rst (IntKind.i64.wrap (q1 + 1)) 4).toNat)))).2.2.2.2; omega) (by first | decide | omega) (by first | rfl | omega) (by first | rfl | omega) hq95.1 hq95.2 (hw.pick (idx := [4, 3, 2, 1, 0, 5, 6, 7, 8, 9, 10, 11, 12, 13, 14, 15, 16, 17, 18, 19, 20, 21, 22, 23, 24, 25, 26, 27]) (by decide) rfl))) (fun xq103 hq104 => ?_)
  refine GL.nil ?_
  refine GE.blockN ?_
  refine GE.thenN ?_
  refine GC.region ?_
  refine GL.val (Ex.move rfl) (by decide) ?_
  refine GL.val (v := (.int .i64 2)) (Ex.add rfl rfl (Z := 2) (by decide)) (by decide) ?_
  refine GL.val (Ex.assign rfl) (by decide) ?_
  refine GL.nil ?_
  refine GE.thenN ?_
  refine GE.round ?_
  refine GC.seq ?_
  refine GC.seq ?_
  refine GC.region ?_
  refine GL.val (Ex.move rfl) (by decide) ?_
  refine GL.val (v := (.bool false)) (Ex.cast (Ex.lss rfl rfl) rfl) (by decide) ?_
  refine GL.nil ?_
  refine GE.thenN ?_
  refine GC.cond rfl (fun hq105 => by cases hq105) (fun _ => ?_)
  refine GC.exit ?_
  refine GE.thenE ?_
  refine GE.thenE ?_
  refine GE.blockE ?_
  refine GE.thenN ?_
  refine GC.seq ?_
  refine GC.region ?_
  refine GL.val (Ex.move rfl) (by decide) ?_
  refine GL.step (Stp.callR (vs := [(.pointer (some ⟨bq7, 0, none⟩))]) rfl rfl T.own22 (by decide) (fun wc hw => book_hold bq7 10 xq103.2.1 xq103.2.2.1 xq103.1.1 xq103.1.2.1 ([⟨(some ⟨xq10, 0, none⟩), (X1 - X0) * (Y1 - Y0), 0⟩, ⟨(some ⟨xq21, 0, none⟩), W * H, 1⟩, ⟨(some ⟨xq30, 0, none⟩), W * H, 2⟩, ⟨(some ⟨xq39, 0, none⟩), H * W, 3⟩, ⟨(some ⟨xq48, 0, none⟩), (tW ((rst (IntKind.i64.wrap (q1 + 0)) 4).toNat) W H) * (tH ((rst (IntKind.i64.wrap (q1 + 0)) 4).toNat) W H), 4⟩, ⟨(some ⟨xq58, 0, none⟩), (X1 - X0) * (Y1 - Y0), 100⟩, ⟨(some ⟨xq69, 0, none⟩), W * H, 101⟩, ⟨(some ⟨xq78, 0, none⟩), W * H, 102⟩, ⟨(some ⟨xq87, 0, none⟩), H * W, 103⟩, ⟨(some ⟨xq96, 0, none⟩), (tW ((rst (IntKind.i64.wrap (q1 + 1)) 4).toNat) W H) * (tH ((rst (IntKind.i64.wrap (q1 + 1)) 4).toNat) W H), 104⟩] : List It) xq103.2.2.2 xq103.1.2.2 wc rfl (by decide) (it_cons (it_blk (by have h' := ((show okP (X1 - X0) (Y1 - Y0) from (hok.part (by omega) (by omega) (by omega) (by omega)))).2.2.2.2; omega) (hw.rdOf (i := 15) rfl 0)) (it_cons (it_blk (by have h' := ((show okP W H from hok)).2.2.2.2; omega) (hw.rdOf (i := 14) rfl 0)) (it_cons (it_blk (by have h' := ((show okP W H from hok)).2.2.2.2; omega) (hw.rdOf (i := 13) rfl 0)) (it_cons (it_blk (by have h' := ((show okP H W from hok.swap)).2.2.2.2; omega) (hw.rdOf (i := 12) rfl 0)) (it_cons (it_blk (by have h' := ((show okP (tW ((rst (IntKind.i64.wrap (q1 + 0)) 4).toNat) W H) (tH ((rst (IntKind.i64.wrap (q1 + 0)) 4).toNat) W H) from (okP.turn hok ((rst (IntKind.i64.wrap (q1 + 0)) 4).toNat)))).2.2.2.2; omega) (hw.rdOf (i := 11) rfl 0)) (it_cons (it_blk (by have h' := ((show okP (X1 - X0) (Y1 - Y0) from (hok.part (by omega) (by omega) (by omega) (by omega)))).2.2.2.2; omega) (hw.rdOf (i := 8) rfl 0)) (it_cons (it_blk (by have h' := ((show okP W H from hok)).2.2.2.2; omega) (hw.rdOf (i := 7) rfl 0)) (it_cons (it_blk (by have h' := ((show okP W H from hok)).2.2.2.2; omega) (hw.rdOf (i := 6) rfl 0)) (it_cons (it_blk (by have h' := ((show okP H W from hok.swap)).2.2.2.2; omega) (hw.rdOf (i := 5) rfl 0)) (it_cons (it_blk (by have h' := ((show okP (tW ((rst (IntKind.i64.wrap (q1 + 1)) 4).toNat) W H) (tH ((rst (IntKind.i64.wrap (q1 + 1)) 4).toNat) W H) from (okP.turn hok ((rst (IntKind.i64.wrap (q1 + 1)) 4).toNat)))).2.2.2.2; omega) (hw.rdOf (i := 3) rfl 0)) it_all)))))))))) (Has.cons (hw.hasOf (i := 2) rfl) (Has.cons (hw.hasOf (i := 1) rfl) (Has.cons (hw.hasOf (i := 0) rfl) (Has.nil _)))))) (fun xq106 hq107 => ?_)
  refine GL.val (Ex.move rfl) (by decide) ?_
  refine GL.stepG (tj := 165) rfl rfl (Ex.wp (v := (.pointer (some ⟨bq8, 0, none⟩))) (Ex.move rfl) (by decide)) (fun _ _ => ?_)
  refine GL.stepG (tj := 165) rfl rfl (Stp.callR (vs := [(.pointer (some ⟨bq8, 0, none⟩))]) rfl rfl T.own23 (by decide) (fun wc hw => room_hold2 bq8 j.2.1.2.2.1.1 j.2.1.1.1 j.2.1.2.2.1.2.1 j.2.1.1.2.1 j.2.1.2.2.1.2.2 j.2.1.1.2.2 j.1.2.2.2 j.1.2.1.1 n j.1.2.1.2.1 j.2.1.2.2.2 j.2.1.2.1.1 m j.2.1.2.1.2.1 xs ys j.1.2.1.2.2 j.2.1.2.1.2.2 wc ⟨hl.1, hb⟩ ⟨hl2.1, hb2⟩ (Has.cons (hw.hasOf (i := 20) rfl) (Has.cons (hw.hasOf (i := 18) rfl) (Has.cons (hw.hasOf (i := 16) rfl) (Has.cons (hw.hasOf (i := 22) rfl) (Has.cons (hw.hasOf (i := 21) rfl) (Has.cons (hw.hasOf (i := 19) rfl) (Has.cons (hw.hasOf (i := 17) rfl) (Has.nil _)))))))))) (fun xq108 hq109 => ?_)
  refine GL.val (v := (.bool true)) (Ex.pickT rfl rfl) (by decide) ?_
  refine GL.val (Ex.assign rfl) (by decide) ?_
  refine GL.nil ?_
  refine GE.thenN ?_
  refine GC.ret ?_
  refine GC.ret1 rfl (Rv.tmp rfl) (fun wN HN => ?_)
  exact HN.ret () trivial rfl (List.nil_sublist _) rfl

end Go.Proofs.Ytileciohbhoehaa.C
