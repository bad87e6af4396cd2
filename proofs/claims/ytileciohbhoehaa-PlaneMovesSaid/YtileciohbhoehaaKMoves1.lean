/- PlaneMoves: what its code does, walked. -/
import Derived.Test.YtileciohbhoehaaT
import Derived.Test.YtileciohbhoehaaDc
namespace Go.Proofs.Ytileciohbhoehaa.C
open Go Go.RowKit Sx
set_option linter.unusedVariables false
set_option maxRecDepth 100000 in
set_option maxHeartbeats 1000000 in
theorem of1 (x y W H : Int) (bp b o len cap : Nat) (s : Int) (w : World) (hb : w.heap[bp]? = some (.cells #[.int .i64 W, .int .i64 H, .slice (some ⟨b, o, none⟩) len cap] 32 (0, 0)))
    (hc : w.cell? ⟨b, o + (y * W + x).toNat, none⟩ = some (.int .u32 s)) (hy : 0 ≤ y * W ∧ y * W ≤ 65536) (hx : 0 ≤ x ∧ x ≤ 1024) (hl : y * W + x < len) :
    Calls Try.prog 75 #[(.int .i64 x), (.int .i64 y), (.pointer (some ⟨bp, 0, none⟩))] w (Ret w (fun _ : Unit => True) (fun _ => .int .u32 s) (fun _ => [])) := by
  refine enter (M := None) (L := [⟨bp, [(.int .i64 W), (.int .i64 H), (.slice (some ⟨b, o, none⟩) len cap)], 32, false⟩]) (n := 16) (l := [(0, (.int .i64 x)), (1, (.int .i64 y)), (2, (.pointer (some ⟨bp, 0, none⟩)))]) Try.func75 rfl rfl (Args.cons rfl (Args.cons rfl (Args.cons rfl (Args.nil _)))) (Hp.reads (Has.cons hb (Has.nil _)) rfl) ?_
  refine GC.seq ?_
  refine GC.region ?_
  refine GL.val (Ex.assign rfl) (by decide) ?_
  refine GL.nil ?_
  refine GE.thenN ?_
  refine GC.seq ?_
  refine GC.region ?_
  refine GL.val (v := (.pointer (some ⟨bp, 2, none⟩))) (Ex.cast (Ex.fieldAddr rfl Try.underlying32 rfl T.sz30 (by decide)) rfl) (by decide) ?_
  refine GL.val (Ex.load rfl T.ag30 (i := 0) rfl rfl) (by decide) ?_
  refine GL.val (Ex.move rfl) (by decide) ?_
  refine GL.val (v := (.pointer (some ⟨bp, 0, none⟩))) (Ex.cast (Ex.fieldAddr rfl Try.underlying32 rfl T.sz3 (by decide)) rfl) (by decide) ?_
  refine GL.val (Ex.load rfl T.ag3 (i := 0) rfl rfl) (by decide) ?_
  refine GL.val (v := (.int .i64 (y * W))) (Ex.mul rfl rfl (Z := y * W) (w64 (by omega))) (by decide) ?_
  refine GL.val (Ex.move rfl) (by decide) ?_
  refine GL.val (v := (.int .i64 ((y * W) + x))) (Ex.add rfl rfl (Z := (y * W) + x) (w64 (by omega))) (by decide) ?_
  refine GL.val (v := (.pointer (some ⟨b, o + ((y * W) + x).toNat, none⟩))) (Ex.cast (Ex.indexAddr rfl rfl Try.underlying30 T.sz72 (by omega) (by omega)) (by simp)) (by decide) ?_
  refine GL.val (v := (.int .u32 s)) (Ex.loadO rfl T.ag72 hc (fun x => x)) (by decide) ?_
  refine GL.val (Ex.assign rfl) (by decide) ?_
  refine GL.nil ?_
  refine GE.thenN ?_
  refine GC.ret ?_
  refine GC.ret1 rfl (Rv.tmp rfl) (fun wN HN => ?_)
  exact HN.ret () trivial rfl (List.nil_sublist _) rfl

set_option maxRecDepth 100000 in
set_option maxHeartbeats 1000000 in
theorem made (W H : Nat) (fid : FuncId) (caps : Array Value) (g : Nat → Nat → Int) (w : World) (hf : Fn2 Try.prog w fid caps W H g) (hW : W ≤ 1024) (hH : H ≤ 1024) (hWH : W * H ≤ 65536) :
    Calls Try.prog 55 #[(.agg #[(.int .i64 ((W : Int))), (.int .i64 ((H : Int))), (.func (.func fid) #[] caps)])] w (Ret w (fun _ : Nat => True) (fun b => .agg #[.int .i64 W, .int .i64 H, .slice (some ⟨b, 0, none⟩) (W * H) (W * H)]) (fun b => [⟨b, (tab W g (W * H)).map u32, 72, true⟩])) := by
  refine enter (M := None) (L := []) (n := 40) (l := [(0, (.agg #[(.int .i64 ((W : Int))), (.int .i64 ((H : Int))), (.func (.func fid) #[] caps)]))]) Try.func55 rfl rfl (Args.cons rfl (Args.nil _)) (Hp.start _ _) ?_
  refine GC.seq ?_
  refine GC.region ?_
  refine GL.step (Stp.box (cs := [(.int .i64 ((W : Int))), (.int .i64 ((H : Int))), (.func (.func fid) #[] caps)]) rfl rfl (by decide)) (fun bq1 _ => ?_)
  refine GL.step (Stp.alloc T.zr32 (by decide)) (fun bq2 _ => ?_)
  refine GL.nil ?_
  refine GE.thenN ?_
  refine GC.seq ?_
  refine GC.drawP [⟨bq2, [(.int .i64 0), (.int .i64 0), (.slice none 0 0)], 32, true⟩, ⟨bq1, [(.int .i64 ((W : Int))), (.int .i64 ((H : Int))), (.func (.func fid) #[] caps)], 91, true⟩] T.mixed (by kernel_rfl) (by kernel_rfl) (fuel := 12) rfl rfl ?_
  refine GH.take 0 (v := (.pointer (some ⟨bq1, 0, none⟩))) rfl (by kernel_rfl) (by kernel_rfl) (by kernel_rfl) (fun _ _ _ h => h) (Ex.cast (Ex.fieldAddr rfl Try.underlying91 rfl T.sz3 (by decide)) rfl) (ulC (ulC ulN)) (by decide) ?_
  refine GH.take 1 (v := (.int .i64 ((W : Int)))) rfl (by kernel_rfl) (by kernel_rfl) (by kernel_rfl) (fun _ _ _ h => h) (Ex.load rfl T.ag3 (i := 1) rfl rfl) (ulC (ulC ulN)) (by decide) ?_
  refine GH.take 2 (v := (.pointer (some ⟨bq1, 1, none⟩))) rfl (by kernel_rfl) (by kernel_rfl) (by kernel_rfl) (fun _ _ _ h => h) (Ex.cast (Ex.fieldAddr rfl Try.underlying91 rfl T.sz3 (by decide)) rfl) (ulC (ulC ulN)) (by decide) ?_
  refine GH.take 3 (v := (.int .i64 ((H : Int)))) rfl (by kernel_rfl) (by kernel_rfl) (by kernel_rfl) (fun _ _ _ h => h) (Ex.load rfl T.ag3 (i := 1) rfl rfl) (ulC (ulC ulN)) (by decide) ?_
  refine GH.take 4 (v := (.pointer (some ⟨bq1, 0, none⟩))) rfl (by kernel_rfl) (by kernel_rfl) (by kernel_rfl) (fun _ _ _ h => h) (Ex.cast (Ex.fieldAddr rfl Try.underlying91 rfl T.sz3 (by decide)) rfl) (ulC (ulC ulN)) (by decide) ?_
  refine GH.take 5 (v := (.int .i64 ((W : Int)))) rfl (by kernel_rfl) (by kernel_rfl) (by kernel_rfl) (fun _ _ _ h => h) (Ex.load rfl T.ag3 (i := 1) rfl rfl) (ulC (ulC ulN)) (by decide) ?_
  refine GH.take 6 (v := (.pointer (some ⟨bq1, 1, none⟩))) rfl (by kernel_rfl) (by kernel_rfl) (by kernel_rfl) (fun _ _ _ h => h) (Ex.cast (Ex.fieldAddr rfl Try.underlying91 rfl T.sz3 (by decide)) rfl) (ulC (ulC ulN)) (by decide) ?_
  refine GH.take 7 (v := (.int .i64 ((H : Int)))) rfl (by kernel_rfl) (by kernel_rfl) (by kernel_rfl) (fun _ _ _ h => h) (Ex.load rfl T.ag3 (i := 1) rfl rfl) (ulC (ulC ulN)) (by decide) ?_
  refine GH.take 8 (v := (.int .i64 (((W * H : Nat) : Int)))) rfl (by kernel_rfl) (by kernel_rfl) (by kernel_rfl) (fun _ _ _ h => h) (Ex.mul rfl rfl (Z := ((W * H : Nat) : Int)) (by rw [w64 (by have := Int.natCast_mul W H; omega)]; exact (Int.natCast_mul W H).symm)) (ulC (ulC ulN)) (by decide) ?_
  refine GH.many (rs := [9, 11]) (by kernel_rfl) (by simp) ?_
  refine GHs.cons rfl (Stp.makeSlice (a1 := 0) (c := W * H) rfl rfl Try.underlying30 T.zr72 T.sz72 T.by72 rfl (by omega) (by omega) (by omega) (by decide)) (fun _ => (ulS (ulC (ulC ulN)))) (fun bq3 _ => ?_) ?_
  · refine GH.take 10 (v := (.agg #[(.int .i64 ((W : Int))), (.int .i64 ((H : Int))), (.slice (some ⟨bq3, 0, none⟩) 0 (W * H))])) rfl (by kernel_rfl) (by kernel_rfl) (by kernel_rfl) (fun _ _ _ h => h) (Ex.build (vs := [(0, (.int .i64 ((W : Int)))), (1, (.int .i64 ((H : Int)))), (2, (.slice (some ⟨bq3, 0, none⟩) 0 (W * H)))]) rfl (by first | rfl | kernel_rfl)) (ulS (ulC (ulC ulN))) (by decide) ?_
    refine GH.one 11 rfl (by kernel_rfl) (Stp.alloc T.zr32 (by decide)) (fun _ => (ulS (ulS (ulC (ulC ulN))))) (fun bq4 _ => ?_)
    refine GH.done (by kernel_rfl) ?_
    refine GE.thenN ?_
    refine GE.tail rfl (Stp.st0 (cs' := [(.int .i64 ((W : Int))), (.int .i64 ((H : Int))), (.slice (some ⟨bq3, 0, none⟩) 0 (W * H))]) rfl rfl rfl T.sz32 rfl rfl rfl) (fun _ _ => ?_)
    refine GE.thenN ?_
    refine GC.seq ?_
    refine GC.seq ?_
    rw [madeCells_one, ← cur_zero W g (W * H)]
    refine GC.region ?_
    refine GL.val (v := (.pointer (some ⟨bq1, 1, none⟩))) (Ex.cast (Ex.fieldAddr rfl Try.underlying91 rfl T.sz3 (by decide)) rfl) (by decide) ?_
    refine GL.val (Ex.load rfl T.ag3 (i := 3) rfl rfl) (by decide) ?_
    refine GL.val (Ex.move rfl) (by decide) ?_
    refine GL.nil ?_
    refine GE.thenN ?_
    refine GC.block ?_
    refine GC.loop (σ := Nat) (fun y => y ≤ H) (fun y => [(1, (.pointer (some ⟨bq1, 0, none⟩))), (2, (.pointer (some ⟨bq2, 0, none⟩))), (3, (.pointer (some ⟨bq4, 0, none⟩))), (18, (.int .i64 ((H : Int)))), (19, (.int .i64 (((y : Nat) : Int))))]) (fun y => [⟨bq4, [(.int .i64 ((W : Int))), (.int .i64 ((H : Int))), (.slice (some ⟨bq3, 0, none⟩) (W * y) (W * H))], 32, true⟩, ⟨bq3, cur W g (W * H) (W * y), 72, true⟩, ⟨bq2, [(.int .i64 0), (.int .i64 0), (.slice none 0 0)], 32, true⟩, ⟨bq1, [(.int .i64 ((W : Int))), (.int .i64 ((H : Int))), (.func (.func fid) #[] caps)], 91, true⟩]) (fun y => H - y) (0) (Nat.zero_le _) ((sub_cons rfl ((sub_cons rfl ((sub_cons rfl ((sub_cons rfl ((sub_cons rfl ((sub_nil _)))))))))))) (ulC (ulC (ulC (ulC ulN)))) (fun y hp => ?_)
    refine GC.seq ?_
    refine GC.region ?_
    refine GL.val (v := (.bool (decide ((((y : Nat) : Int)) < ((H : Int)))))) (Ex.lss rfl rfl) (by decide) ?_
    refine GL.nil ?_
    refine GE.thenN ?_
    refine GC.seq ?_
    refine GC.cond rfl (fun hq5 => ?_) (fun hq5 => ?_)
    · replace hq5 := of_decide_eq_true hq5
      refine GC.skip ?_
      refine GE.thenN ?_
      refine GC.seq ?_
      refine GC.block ?_
      refine GC.seq ?_
      refine GC.region ?_
      refine GL.val (Ex.move rfl) (by decide) ?_
      refine GL.val (Ex.assign rfl) (by decide) ?_
      refine GL.nil ?_
      refine GE.thenN ?_
      refine GC.seq ?_
      refine GC.region ?_
      refine GL.val (v := (.pointer (some ⟨bq1, 0, none⟩))) (Ex.cast (Ex.fieldAddr rfl Try.underlying91 rfl T.sz3 (by decide)) rfl) (by decide) ?_
      refine GL.val (Ex.load rfl T.ag3 (i := 3) rfl rfl) (by decide) ?_
      refine GL.val (Ex.move rfl) (by decide) ?_
      refine GL.nil ?_
      refine GE.thenN ?_
      refine GC.block ?_
      refine GC.loop (σ := Nat) (fun x => x ≤ W) (fun x => [(1, (.pointer (some ⟨bq1, 0, none⟩))), (2, (.pointer (some ⟨bq2, 0, none⟩))), (3, (.pointer (some ⟨bq4, 0, none⟩))), (18, (.int .i64 ((H : Int)))), (19, (.int .i64 (((y : Nat) : Int)))), (4, (.int .i64 (((y : Nat) : Int)))), (23, (.int .i64 ((W : Int)))), (24, (.int .i64 (((x : Nat) : Int))))]) (fun x => [⟨bq4, [(.int .i64 ((W : Int))), (.int .i64 ((H : Int))), (.slice (some ⟨bq3, 0, none⟩) (W * y + x) (W * H))], 32, true⟩, ⟨bq3, cur W g (W * H) (W * y + x), 72, true⟩, ⟨bq2, [(.int .i64 0), (.int .i64 0), (.slice none 0 0)], 32, true⟩, ⟨bq1, [(.int .i64 ((W : Int))), (.int .i64 ((H : Int))), (.func (.func fid) #[] caps)], 91, true⟩]) (fun x => W - x) (0) (Nat.zero_le _) ((sub_cons rfl ((sub_cons rfl ((sub_cons rfl ((sub_cons rfl ((sub_cons rfl ((sub_cons rfl ((sub_cons rfl ((sub_cons rfl ((sub_nil _)))))))))))))))))) (ulC (ulC (ulC (ulC ulN)))) (fun x hp => ?_)
      refine GC.seq ?_
      refine GC.region ?_
      refine GL.val (v := (.bool (decide ((((x : Nat) : Int)) < ((W : Int)))))) (Ex.lss rfl rfl) (by decide) ?_
      refine GL.nil ?_
      refine GE.thenN ?_
      refine GC.seq ?_
      refine GC.cond rfl (fun hq6 => ?_) (fun hq6 => ?_)
      · replace hq6 := of_decide_eq_true hq6
        have hxy := place_lt (H := H) (by omega : x < W) (by omega : y < H)
        have hp := at_place (W := W) (y := y) (by omega : x < W)
        have hap := cur_app W g (W * H) (W * y + x) (g x y) hxy (by rw [hp.1, hp.2])
        rw [Nat.add_assoc] at hap
        refine GC.skip ?_
        refine GE.thenN ?_
        refine GC.seq ?_
        refine GC.block ?_
        refine GC.seq ?_
        refine GC.region ?_
        refine GL.val (Ex.move rfl) (by decide) ?_
        refine GL.val (Ex.assign rfl) (by decide) ?_
        refine GL.nil ?_
        refine GE.thenN ?_
        refine GC.drawP [⟨bq4, [(.int .i64 ((W : Int))), (.int .i64 ((H : Int))), (.slice (some ⟨bq3, 0, none⟩) (W * y + x) (W * H))], 32, true⟩, ⟨bq2, [(.int .i64 0), (.int .i64 0), (.slice none 0 0)], 32, true⟩, ⟨bq1, [(.int .i64 ((W : Int))), (.int .i64 ((H : Int))), (.func (.func fid) #[] caps)], 91, true⟩] T.mixed (by kernel_rfl) (by kernel_rfl) (fuel := 10) rfl rfl ?_
        refine GH.take 0 (v := (.pointer (some ⟨bq4, 2, none⟩))) rfl (by kernel_rfl) (by kernel_rfl) (by kernel_rfl) (fun _ _ _ h => h) (Ex.cast (Ex.fieldAddr rfl Try.underlying32 rfl T.sz30 (by decide)) rfl) (ulC (ulS (ulC (ulC ulN)))) (by decide) ?_
        refine GH.take 1 (v := (.slice (some ⟨bq3, 0, none⟩) (W * y + x) (W * H))) rfl (by kernel_rfl) (by kernel_rfl) (by kernel_rfl) (fun _ _ _ h => h) (Ex.load rfl T.ag30 (i := 0) rfl rfl) (ulC (ulS (ulC (ulC ulN)))) (by decide) ?_
        refine GH.take 2 (v := (.pointer (some ⟨bq1, 2, none⟩))) rfl (by kernel_rfl) (by kernel_rfl) (by kernel_rfl) (fun _ _ _ h => h) (Ex.cast (Ex.fieldAddr rfl Try.underlying91 rfl T.sz88 (by decide)) rfl) (ulC (ulS (ulC (ulC ulN)))) (by decide) ?_
        refine GH.take 3 (v := (.func (.func fid) #[] caps)) rfl (by kernel_rfl) (by kernel_rfl) (by kernel_rfl) (fun _ _ _ h => h) (Ex.load rfl T.ag88 (i := 2) rfl rfl) (ulC (ulS (ulC (ulC ulN)))) (by decide) ?_
        refine GH.take 4 (v := (.int .i64 (((x : Nat) : Int)))) rfl (by kernel_rfl) (by kernel_rfl) (by kernel_rfl) (fun _ _ _ h => h) (Ex.move rfl) (ulC (ulS (ulC (ulC ulN)))) (by decide) ?_
        refine GH.take 5 (v := (.int .i64 (((y : Nat) : Int)))) rfl (by kernel_rfl) (by kernel_rfl) (by kernel_rfl) (fun _ _ _ h => h) (Ex.move rfl) (ulC (ulS (ulC (ulC ulN)))) (by decide) ?_
        refine GH.one 6 rfl (by kernel_rfl) (Stp.callR (vs := [(.int .i64 (((x : Nat) : Int))), (.int .i64 (((y : Nat) : Int)))]) rfl rfl hf.1 (by decide) (fun wc hw => hf.2 x y (by omega) (by omega) wc hw.1)) (fun _ => (ulC (ulS (ulC (ulC ulN))))) (fun xq7 hq8 => ?_)
        refine GH.one 7 rfl (by kernel_rfl) (Stp.buildSlice (cs := [(.int .u32 ((g x y)))]) (vs := [(0, (.int .u32 ((g x y))))]) Try.underlying30 T.zr72 T.sz72 rfl (by decide) (by decide) (by first | rfl | kernel_rfl) (by decide)) (fun _ => (ulS (ulC (ulS (ulC (ulC ulN)))))) (fun bq9 _ => ?_)
        refine GH.one 8 rfl (by kernel_rfl) (Stp.appendFits (i := 2) (vs := [.int .u32 (g x y)]) (L1 := [⟨bq9, [(.int .u32 ((g x y)))], 72, true⟩, ⟨bq4, [(.int .i64 ((W : Int))), (.int .i64 ((H : Int))), (.slice (some ⟨bq3, 0, none⟩) (W * y + x) (W * H))], 32, true⟩, ⟨bq3, cur W g (W * H) (W * y + (x + 1)), 72, true⟩, ⟨bq2, [(.int .i64 0), (.int .i64 0), (.slice none 0 0)], 32, true⟩, ⟨bq1, [(.int .i64 ((W : Int))), (.int .i64 ((H : Int))), (.func (.func fid) #[] caps)], 91, true⟩]) rfl rfl Try.underlying30 T.sz72 rfl (fun w hw => hw.rdOf (i := 0) rfl 0) rfl rfl (len' := W * y + (x + 1)) rfl (by omega) (by rw [cur_len _ _ _ _ (by omega)]; simp; omega) (by rw [hap]; rfl) (by decide)) (fun _ => (ulS (ulC (ulS (ulC (ulC ulN)))))) (fun _ _ => ?_)
        refine GH.take 9 (v := (.pointer (some ⟨bq4, 2, none⟩))) rfl (by kernel_rfl) (by kernel_rfl) (by kernel_rfl) (fun _ _ _ h => h) (Ex.cast (Ex.fieldAddr rfl Try.underlying32 rfl T.sz30 (by decide)) rfl) (ulS (ulC (ulS (ulC (ulC ulN))))) (by decide) ?_
        refine GH.done (by kernel_rfl) ?_
        refine GE.thenN ?_
        refine GE.tail rfl (Stp.st1 (cs' := [(.int .i64 ((W : Int))), (.int .i64 ((H : Int))), (.slice (some ⟨bq3, 0, none⟩) (W * y + (x + 1)) (W * H))]) rfl rfl rfl T.sz30 rfl rfl rfl) (fun _ _ => ?_)
        refine GE.blockN ?_
        refine GE.thenN ?_
        refine GC.region ?_
        refine GL.val (v := (.int .i64 (((x + 1 : Nat) : Int)))) (Ex.add rfl rfl (Z := ((x + 1 : Nat) : Int)) (w64 (by omega))) (by decide) ?_
        refine GL.val (Ex.move rfl) (by decide) ?_
        refine GL.nil ?_
        refine GE.thenN ?_
        exact Head.mk (x + 1) (by omega) (by omega) ((sub_cons rfl ((sub_cons rfl ((sub_cons rfl ((sub_cons rfl ((sub_cons rfl ((sub_cons rfl ((sub_cons rfl ((sub_cons rfl ((sub_nil _)))))))))))))))))) (ulS (ulC (ulC (ulC (ulC ulN)))))
      · replace hq6 := of_decide_eq_false hq6
        have ex : W = x := by omega
        have e2 : W * y + x = W * (y + 1) := by rw [← ex]; rfl
        rw [e2]
        refine GC.exit ?_
        refine GE.thenE ?_
        refine GE.thenE ?_
        refine GE.blockE ?_
        refine GE.blockN ?_
        refine GE.thenN ?_
        refine GC.region ?_
        refine GL.val (v := (.int .i64 (((y + 1 : Nat) : Int)))) (Ex.add rfl rfl (Z := ((y + 1 : Nat) : Int)) (w64 (by omega))) (by decide) ?_
        refine GL.val (Ex.move rfl) (by decide) ?_
        refine GL.nil ?_
        refine GE.thenN ?_
        exact Head.mk (y + 1) (by omega) (by omega) ((sub_cons rfl ((sub_cons rfl ((sub_cons rfl ((sub_cons rfl ((sub_cons rfl ((sub_nil _)))))))))))) (ulC (ulC (ulC (ulC ulN))))
    · replace hq5 := of_decide_eq_false hq5
      refine GC.exit ?_
      refine GE.thenE ?_
      refine GE.thenE ?_
      refine GE.blockE ?_
      refine GE.thenN ?_
      refine GC.seq ?_
      refine GC.region ?_
      refine GL.val (v := (.agg #[(.int .i64 ((W : Int))), (.int .i64 ((H : Int))), (.slice (some ⟨bq3, 0, none⟩) (W * y) (W * H))])) (Ex.loadA rfl T.ag32 T.sz32 (i := 0) rfl (vs := [(.int .i64 ((W : Int))), (.int .i64 ((H : Int))), (.slice (some ⟨bq3, 0, none⟩) (W * y) (W * H))]) rfl rfl) (by decide) ?_
      refine GL.step (Stp.st2 (cs' := [(.int .i64 ((W : Int))), (.int .i64 ((H : Int))), (.slice (some ⟨bq3, 0, none⟩) (W * y) (W * H))]) rfl rfl rfl T.sz32 rfl rfl rfl) (fun _ _ => ?_)
      refine GL.nil ?_
      refine GE.thenN ?_
      refine GC.ret ?_
      refine GC.ret1 rfl (Rv.cellA rfl T.ag32 T.sz32 (L := _) (i := 2) rfl (vs := [(.int .i64 ((W : Int))), (.int .i64 ((H : Int))), (.slice (some ⟨bq3, 0, none⟩) (W * y) (W * H))]) rfl rfl) (fun wN HN => ?_)
      have ey : H = y := by omega
      have e3 : W * y = W * H := by rw [ey]
      rw [e3, cur_full] at HN
      exact HN.ret bq3 trivial (by rw [e3]) (ulS (ulC (ulS (ulS ulN)))) rfl
  refine GHs.cons rfl (Stp.alloc T.zr32 (by decide)) (fun _ => (ulS (ulC (ulC ulN)))) (fun bq10 _ => ?_) ?_
  · refine GH.one 9 rfl (by kernel_rfl) (Stp.makeSlice (a1 := 0) (c := W * H) rfl rfl Try.underlying30 T.zr72 T.sz72 T.by72 rfl (by omega) (by omega) (by omega) (by decide)) (fun _ => (ulS (ulS (ulC (ulC ulN))))) (fun bq11 _ => ?_)
    refine GH.take 10 (v := (.agg #[(.int .i64 ((W : Int))), (.int .i64 ((H : Int))), (.slice (some ⟨bq11, 0, none⟩) 0 (W * H))])) rfl (by kernel_rfl) (by kernel_rfl) (by kernel_rfl) (fun _ _ _ h => h) (Ex.build (vs := [(0, (.int .i64 ((W : Int)))), (1, (.int .i64 ((H : Int)))), (2, (.slice (some ⟨bq11, 0, none⟩) 0 (W * H)))]) rfl (by first | rfl | kernel_rfl)) (ulS (ulS (ulC (ulC ulN)))) (by decide) ?_
    refine GH.done (by kernel_rfl) ?_
    refine GE.thenN ?_
    refine GE.tail rfl (Stp.st1 (cs' := [(.int .i64 ((W : Int))), (.int .i64 ((H : Int))), (.slice (some ⟨bq11, 0, none⟩) 0 (W * H))]) rfl rfl rfl T.sz32 rfl rfl rfl) (fun _ _ => ?_)
    refine GE.thenN ?_
    refine GC.seq ?_
    refine GC.seq ?_
    rw [madeCells_one, ← cur_zero W g (W * H)]
    refine GC.region ?_
    refine GL.val (v := (.pointer (some ⟨bq1, 1, none⟩))) (Ex.cast (Ex.fieldAddr rfl Try.underlying91 rfl T.sz3 (by decide)) rfl) (by decide) ?_
    refine GL.val (Ex.load rfl T.ag3 (i := 3) rfl rfl) (by decide) ?_
    refine GL.val (Ex.move rfl) (by decide) ?_
    refine GL.nil ?_
    refine GE.thenN ?_
    refine GC.block ?_
    refine GC.loop (σ := Nat) (fun y => y ≤ H) (fun y => [(1, (.pointer (some ⟨bq1, 0, none⟩))), (2, (.pointer (some ⟨bq2, 0, none⟩))), (3, (.pointer (some ⟨bq10, 0, none⟩))), (18, (.int .i64 ((H : Int)))), (19, (.int .i64 (((y : Nat) : Int))))]) (fun y => [⟨bq11, cur W g (W * H) (W * y), 72, true⟩, ⟨bq10, [(.int .i64 ((W : Int))), (.int .i64 ((H : Int))), (.slice (some ⟨bq11, 0, none⟩) (W * y) (W * H))], 32, true⟩, ⟨bq2, [(.int .i64 0), (.int .i64 0), (.slice none 0 0)], 32, true⟩, ⟨bq1, [(.int .i64 ((W : Int))), (.int .i64 ((H : Int))), (.func (.func fid) #[] caps)], 91, true⟩]) (fun y => H - y) (0) (Nat.zero_le _) ((sub_cons rfl ((sub_cons rfl ((sub_cons rfl ((sub_cons rfl ((sub_cons rfl ((sub_nil _)))))))))))) (ulC (ulC (ulC (ulC ulN)))) (fun y hp => ?_)
    refine GC.seq ?_
    refine GC.region ?_
    refine GL.val (v := (.bool (decide ((((y : Nat) : Int)) < ((H : Int)))))) (Ex.lss rfl rfl) (by decide) ?_
    refine GL.nil ?_
    refine GE.thenN ?_
    refine GC.seq ?_
    refine GC.cond rfl (fun hq12 => ?_) (fun hq12 => ?_)
    · replace hq12 := of_decide_eq_true hq12
      refine GC.skip ?_
      refine GE.thenN ?_
      refine GC.seq ?_
      refine GC.block ?_
      refine GC.seq ?_
      refine GC.region ?_
      refine GL.val (Ex.move rfl) (by decide) ?_
      refine GL.val (Ex.assign rfl) (by decide) ?_
      refine GL.nil ?_
      refine GE.thenN ?_
      refine GC.seq ?_
      refine GC.region ?_
      refine GL.val (v := (.pointer (some ⟨bq1, 0, none⟩))) (Ex.cast (Ex.fieldAddr rfl Try.underlying91 rfl T.sz3 (by decide)) rfl) (by decide) ?_
      refine GL.val (Ex.load rfl T.ag3 (i := 3) rfl rfl) (by decide) ?_
      refine GL.val (Ex.move rfl) (by decide) ?_
      refine GL.nil ?_
      refine GE.thenN ?_
      refine GC.block ?_
      refine GC.loop (σ := Nat) (fun x => x ≤ W) (fun x => [(1, (.pointer (some ⟨bq1, 0, none⟩))), (2, (.pointer (some ⟨bq2, 0, none⟩))), (3, (.pointer (some ⟨bq10, 0, none⟩))), (18, (.int .i64 ((H : Int)))), (19, (.int .i64 (((y : Nat) : Int)))), (4, (.int .i64 (((y : Nat) : Int)))), (23, (.int .i64 ((W : Int)))), (24, (.int .i64 (((x : Nat) : Int))))]) (fun x => [⟨bq11, cur W g (W * H) (W * y + x), 72, true⟩, ⟨bq10, [(.int .i64 ((W : Int))), (.int .i64 ((H : Int))), (.slice (some ⟨bq11, 0, none⟩) (W * y + x) (W * H))], 32, true⟩, ⟨bq2, [(.int .i64 0), (.int .i64 0), (.slice none 0 0)], 32, true⟩, ⟨bq1, [(.int .i64 ((W : Int))), (.int .i64 ((H : Int))), (.func (.func fid) #[] caps)], 91, true⟩]) (fun x => W - x) (0) (Nat.zero_le _) ((sub_cons rfl ((sub_cons rfl ((sub_cons rfl ((sub_cons rfl ((sub_cons rfl ((sub_cons rfl ((sub_cons rfl ((sub_cons rfl ((sub_nil _)))))))))))))))))) (ulC (ulC (ulC (ulC ulN)))) (fun x hp => ?_)
      refine GC.seq ?_
      refine GC.region ?_
      refine GL.val (v := (.bool (decide ((((x : Nat) : Int)) < ((W : Int)))))) (Ex.lss rfl rfl) (by decide) ?_
      refine GL.nil ?_
      refine GE.thenN ?_
      refine GC.seq ?_
      refine GC.cond rfl (fun hq13 => ?_) (fun hq13 => ?_)
      · replace hq13 := of_decide_eq_true hq13
        have hxy := place_lt (H := H) (by omega : x < W) (by omega : y < H)
        have hp := at_place (W := W) (y := y) (by omega : x < W)
        have hap := cur_app W g (W * H) (W * y + x) (g x y) hxy (by rw [hp.1, hp.2])
        rw [Nat.add_assoc] at hap
        refine GC.skip ?_
        refine GE.thenN ?_
        refine GC.seq ?_
        refine GC.block ?_
        refine GC.seq ?_
        refine GC.region ?_
        refine GL.val (Ex.move rfl) (by decide) ?_
        refine GL.val (Ex.assign rfl) (by decide) ?_
        refine GL.nil ?_
        refine GE.thenN ?_
        refine GC.drawP [⟨bq10, [(.int .i64 ((W : Int))), (.int .i64 ((H : Int))), (.slice (some ⟨bq11, 0, none⟩) (W * y + x) (W * H))], 32, true⟩, ⟨bq2, [(.int .i64 0), (.int .i64 0), (.slice none 0 0)], 32, true⟩, ⟨bq1, [(.int .i64 ((W : Int))), (.int .i64 ((H : Int))), (.func (.func fid) #[] caps)], 91, true⟩] T.mixed (by kernel_rfl) (by kernel_rfl) (fuel := 10) rfl rfl ?_
        refine GH.take 0 (v := (.pointer (some ⟨bq10, 2, none⟩))) rfl (by kernel_rfl) (by kernel_rfl) (by kernel_rfl) (fun _ _ _ h => h) (Ex.cast (Ex.fieldAddr rfl Try.underlying32 rfl T.sz30 (by decide)) rfl) (ulS (ulC (ulC (ulC ulN)))) (by decide) ?_
        refine GH.take 1 (v := (.slice (some ⟨bq11, 0, none⟩) (W * y + x) (W * H))) rfl (by kernel_rfl) (by kernel_rfl) (by kernel_rfl) (fun _ _ _ h => h) (Ex.load rfl T.ag30 (i := 0) rfl rfl) (ulS (ulC (ulC (ulC ulN)))) (by decide) ?_
        refine GH.take 2 (v := (.pointer (some ⟨bq1, 2, none⟩))) rfl (by kernel_rfl) (by kernel_rfl) (by kernel_rfl) (fun _ _ _ h => h) (Ex.cast (Ex.fieldAddr rfl Try.underlying91 rfl T.sz88 (by decide)) rfl) (ulS (ulC (ulC (ulC ulN)))) (by decide) ?_
        refine GH.take 3 (v := (.func (.func fid) #[] caps)) rfl (by kernel_rfl) (by kernel_rfl) (by kernel_rfl) (fun _ _ _ h => h) (Ex.load rfl T.ag88 (i := 2) rfl rfl) (ulS (ulC (ulC (ulC ulN)))) (by decide) ?_
        refine GH.take 4 (v := (.int .i64 (((x : Nat) : Int)))) rfl (by kernel_rfl) (by kernel_rfl) (by kernel_rfl) (fun _ _ _ h => h) (Ex.move rfl) (ulS (ulC (ulC (ulC ulN)))) (by decide) ?_
        refine GH.take 5 (v := (.int .i64 (((y : Nat) : Int)))) rfl (by kernel_rfl) (by kernel_rfl) (by kernel_rfl) (fun _ _ _ h => h) (Ex.move rfl) (ulS (ulC (ulC (ulC ulN)))) (by decide) ?_
        refine GH.one 6 rfl (by kernel_rfl) (Stp.callR (vs := [(.int .i64 (((x : Nat) : Int))), (.int .i64 (((y : Nat) : Int)))]) rfl rfl hf.1 (by decide) (fun wc hw => hf.2 x y (by omega) (by omega) wc hw.1)) (fun _ => (ulS (ulC (ulC (ulC ulN))))) (fun xq14 hq15 => ?_)
        refine GH.one 7 rfl (by kernel_rfl) (Stp.buildSlice (cs := [(.int .u32 ((g x y)))]) (vs := [(0, (.int .u32 ((g x y))))]) Try.underlying30 T.zr72 T.sz72 rfl (by decide) (by decide) (by first | rfl | kernel_rfl) (by decide)) (fun _ => (ulS (ulS (ulC (ulC (ulC ulN)))))) (fun bq16 _ => ?_)
        refine GH.one 8 rfl (by kernel_rfl) (Stp.appendFits (i := 1) (vs := [.int .u32 (g x y)]) (L1 := [⟨bq16, [(.int .u32 ((g x y)))], 72, true⟩, ⟨bq11, cur W g (W * H) (W * y + (x + 1)), 72, true⟩, ⟨bq10, [(.int .i64 ((W : Int))), (.int .i64 ((H : Int))), (.slice (some ⟨bq11, 0, none⟩) (W * y + x) (W * H))], 32, true⟩, ⟨bq2, [(.int .i64 0), (.int .i64 0), (.slice none 0 0)], 32, true⟩, ⟨bq1, [(.int .i64 ((W : Int))), (.int .i64 ((H : Int))), (.func (.func fid) #[] caps)], 91, true⟩]) rfl rfl Try.underlying30 T.sz72 rfl (fun w hw => hw.rdOf (i := 0) rfl 0) rfl rfl (len' := W * y + (x + 1)) rfl (by omega) (by rw [cur_len _ _ _ _ (by omega)]; simp; omega) (by rw [hap]; rfl) (by decide)) (fun _ => (ulS (ulS (ulC (ulC (ulC ulN)))))) (fun _ _ => ?_)
        refine GH.take 9 (v := (.pointer (some ⟨bq10, 2, none⟩))) rfl (by kernel_rfl) (by kernel_rfl) (by kernel_rfl) (fun _ _ _ h => h) (Ex.cast (Ex.fieldAddr rfl Try.underlying32 rfl T.sz30 (by decide)) rfl) (ulS (ulS (ulC (ulC (ulC ulN))))) (by decide) ?_
        refine GH.done (by kernel_rfl) ?_
        refine GE.thenN ?_
        refine GE.tail rfl (Stp.st2 (cs' := [(.int .i64 ((W : Int))), (.int .i64 ((H : Int))), (.slice (some ⟨bq11, 0, none⟩) (W * y + (x + 1)) (W * H))]) rfl rfl rfl T.sz30 rfl rfl rfl) (fun _ _ => ?_)
        refine GE.blockN ?_
        refine GE.thenN ?_
        refine GC.region ?_
        refine GL.val (v := (.int .i64 (((x + 1 : Nat) : Int)))) (Ex.add rfl rfl (Z := ((x + 1 : Nat) : Int)) (w64 (by omega))) (by decide) ?_
        refine GL.val (Ex.move rfl) (by decide) ?_
        refine GL.nil ?_
        refine GE.thenN ?_
        exact Head.mk (x + 1) (by omega) (by omega) ((sub_cons rfl ((sub_cons rfl ((sub_cons rfl ((sub_cons rfl ((sub_cons rfl ((sub_cons rfl ((sub_cons rfl ((sub_cons rfl ((sub_nil _)))))))))))))))))) (ulS (ulC (ulC (ulC (ulC ulN)))))
      · replace hq13 := of_decide_eq_false hq13
        have ex : W = x := by omega
        have e2 : W * y + x = W * (y + 1) := by rw [← ex]; rfl
        rw [e2]
        refine GC.exit ?_
        refine GE.thenE ?_
        refine GE.thenE ?_
        refine GE.blockE ?_
        refine GE.blockN ?_
        refine GE.thenN ?_
        refine GC.region ?_
        refine GL.val (v := (.int .i64 (((y + 1 : Nat) : Int)))) (Ex.add rfl rfl (Z := ((y + 1 : Nat) : Int)) (w64 (by omega))) (by decide) ?_
        refine GL.val (Ex.move rfl) (by decide) ?_
        refine GL.nil ?_
        refine GE.thenN ?_
        exact Head.mk (y + 1) (by omega) (by omega) ((sub_cons rfl ((sub_cons rfl ((sub_cons rfl ((sub_cons rfl ((sub_cons rfl ((sub_nil _)))))))))))) (ulC (ulC (ulC (ulC ulN))))
    · replace hq12 := of_decide_eq_false hq12
      refine GC.exit ?_
      refine GE.thenE ?_
      refine GE.thenE ?_
      refine GE.blockE ?_
      refine GE.thenN ?_
      refine GC.seq ?_
      refine GC.region ?_
      refine GL.val (v := (.agg #[(.int .i64 ((W : Int))), (.int .i64 ((H : Int))), (.slice (some ⟨bq11, 0, none⟩) (W * y) (W * H))])) (Ex.loadA rfl T.ag32 T.sz32 (i := 1) rfl (vs := [(.int .i64 ((W : Int))), (.int .i64 ((H : Int))), (.slice (some ⟨bq11, 0, none⟩) (W * y) (W * H))]) rfl rfl) (by decide) ?_
      refine GL.step (Stp.st2 (cs' := [(.int .i64 ((W : Int))), (.int .i64 ((H : Int))), (.slice (some ⟨bq11, 0, none⟩) (W * y) (W * H))]) rfl rfl rfl T.sz32 rfl rfl rfl) (fun _ _ => ?_)
      refine GL.nil ?_
      refine GE.thenN ?_
      refine GC.ret ?_
      refine GC.ret1 rfl (Rv.cellA rfl T.ag32 T.sz32 (L := _) (i := 2) rfl (vs := [(.int .i64 ((W : Int))), (.int .i64 ((H : Int))), (.slice (some ⟨bq11, 0, none⟩) (W * y) (W * H))]) rfl rfl) (fun wN HN => ?_)
      have ey : H = y := by omega
      have e3 : W * y = W * H := by rw [ey]
      rw [e3, cur_full] at HN
      exact HN.ret bq11 trivial (by rw [e3]) (ulC (ulS (ulS (ulS ulN)))) rfl
  exact GHs.nil

set_option maxRecDepth 100000 in
set_option maxHeartbeats 1000000 in
theorem size (pw ph : Int) (w : World) :
    Calls Try.prog 52 #[(.int .i64 pw), (.int .i64 ph)] w (Ret w (fun _ : Unit => True) (fun _ => .bool (sizeB pw ph)) (fun _ => [])) := by
  refine enter (M := None) (L := []) (n := 25) (l := [(0, (.int .i64 pw)), (1, (.int .i64 ph))]) Try.func52 rfl rfl (Args.cons rfl (Args.cons rfl (Args.nil _))) (Hp.start _ _) ?_
  refine GC.seq ?_
  refine GC.region ?_
  refine GL.val (Ex.assign rfl) (by decide) ?_
  refine GL.nil ?_
  refine GE.thenN ?_
  refine GC.seq ?_
  refine GC.region ?_
  refine GL.val (Ex.move rfl) (by decide) ?_
  by_cases hq1 : 1 ≤ pw
  · refine GL.val (v := (.bool true)) (Ex.cast (Ex.geq rfl rfl) (congrArg Value.bool (decide_eq_true hq1))) (by decide) ?_
    refine GL.val (Ex.move rfl) (by decide) ?_
    refine GL.stepG (tj := 7) rfl rfl (Ex.wp (v := (.int .i64 ph)) (Ex.move rfl) (by decide)) (fun _ _ => ?_)
    by_cases hq2 : 1 ≤ ph
    · refine GL.stepG (tj := 7) rfl rfl (Ex.wp (v := (.bool true)) (Ex.cast (Ex.geq rfl rfl) (congrArg Value.bool (decide_eq_true hq2))) (by decide)) (fun _ _ => ?_)
      refine GL.val (v := (.bool true)) (Ex.pickT rfl rfl) (by decide) ?_
      refine GL.val (Ex.move rfl) (by decide) ?_
      refine GL.stepG (tj := 11) rfl rfl (Ex.wp (v := (.int .i64 pw)) (Ex.move rfl) (by decide)) (fun _ _ => ?_)
      by_cases hq3 : pw ≤ 1024
      · refine GL.stepG (tj := 11) rfl rfl (Ex.wp (v := (.bool true)) (Ex.cast (Ex.leq rfl rfl) (congrArg Value.bool (decide_eq_true hq3))) (by decide)) (fun _ _ => ?_)
        refine GL.val (v := (.bool true)) (Ex.pickT rfl rfl) (by decide) ?_
        refine GL.val (Ex.move rfl) (by decide) ?_
        refine GL.stepG (tj := 15) rfl rfl (Ex.wp (v := (.int .i64 ph)) (Ex.move rfl) (by decide)) (fun _ _ => ?_)
        by_cases hq4 : ph ≤ 1024
        · have hm := mul_bd (w := pw) (h := ph) (by omega) (by omega) (by omega) (by omega)
          refine GL.stepG (tj := 15) rfl rfl (Ex.wp (v := (.bool true)) (Ex.cast (Ex.leq rfl rfl) (congrArg Value.bool (decide_eq_true hq4))) (by decide)) (fun _ _ => ?_)
          refine GL.val (v := (.bool true)) (Ex.pickT rfl rfl) (by decide) ?_
          refine GL.val (Ex.move rfl) (by decide) ?_
          refine GL.stepG (tj := 19) rfl rfl (Ex.wp (v := (.int .i64 pw)) (Ex.move rfl) (by decide)) (fun _ _ => ?_)
          refine GL.stepG (tj := 19) rfl rfl (Ex.wp (v := (.int .i64 ph)) (Ex.move rfl) (by decide)) (fun _ _ => ?_)
          refine GL.stepG (tj := 19) rfl rfl (Ex.wp (v := (.int .i64 (pw * ph))) (Ex.mul rfl rfl (Z := pw * ph) (w64 (by omega))) (by decide)) (fun _ _ => ?_)
          refine GL.stepG (tj := 19) rfl rfl (Ex.wp (v := (.bool (decide ((pw * ph) ≤ 65536)))) (Ex.leq rfl rfl) (by decide)) (fun _ _ => ?_)
          refine GL.val (v := (.bool (decide ((pw * ph) ≤ 65536)))) (Ex.pickT rfl rfl) (by decide) ?_
          refine GL.val (Ex.assign rfl) (by decide) ?_
          refine GL.nil ?_
          refine GE.thenN ?_
          refine GC.ret ?_
          refine GC.ret1 rfl (Rv.tmp rfl) (fun wN HN => ?_)
          exact HN.ret () trivial (by simp only [sizeB]; congr 1; apply decide_eq_decide.2; omega) (List.nil_sublist _) rfl
        · refine GL.stepG (tj := 15) rfl rfl (Ex.wp (v := (.bool false)) (Ex.cast (Ex.leq rfl rfl) (congrArg Value.bool (decide_eq_false hq4))) (by decide)) (fun _ _ => ?_)
          refine GL.val (v := (.bool false)) (Ex.pickT rfl rfl) (by decide) ?_
          refine GL.val (Ex.move rfl) (by decide) ?_
          refine GL.skipG (tj := 19) rfl rfl rfl (by decide) ?_
          refine GL.skipG (tj := 19) rfl rfl rfl (by decide) ?_
          refine GL.skipG (tj := 19) rfl rfl rfl (by decide) ?_
          refine GL.skipG (tj := 19) rfl rfl rfl (by decide) ?_
          refine GL.val (v := (.bool false)) (Ex.pickF rfl rfl) (by decide) ?_
          refine GL.val (Ex.assign rfl) (by decide) ?_
          refine GL.nil ?_
          refine GE.thenN ?_
          refine GC.ret ?_
          refine GC.ret1 rfl (Rv.tmp rfl) (fun wN HN => ?_)
          exact HN.ret () trivial (by simp only [sizeB]; rw [decide_eq_false (by omega)]) (List.nil_sublist _) rfl
      · refine GL.stepG (tj := 11) rfl rfl (Ex.wp (v := (.bool false)) (Ex.cast (Ex.leq rfl rfl) (congrArg Value.bool (decide_eq_false hq3))) (by decide)) (fun _ _ => ?_)
        refine GL.val (v := (.bool false)) (Ex.pickT rfl rfl) (by decide) ?_
        refine GL.val (Ex.move rfl) (by decide) ?_
        refine GL.skipG (tj := 15) rfl rfl rfl (by decide) ?_
        refine GL.skipG (tj := 15) rfl rfl rfl (by decide) ?_
        refine GL.val (v := (.bool false)) (Ex.pickF rfl rfl) (by decide) ?_
        refine GL.val (Ex.move rfl) (by decide) ?_
        refine GL.skipG (tj := 19) rfl rfl rfl (by decide) ?_
        refine GL.skipG (tj := 19) rfl rfl rfl (by decide) ?_
        refine GL.skipG (tj := 19) rfl rfl rfl (by decide) ?_
        refine GL.skipG (tj := 19) rfl rfl rfl (by decide) ?_
        refine GL.val (v := (.bool false)) (Ex.pickF rfl rfl) (by decide) ?_
        refine GL.val (Ex.assign rfl) (by decide) ?_
        refine GL.nil ?_
        refine GE.thenN ?_
        refine GC.ret ?_
        refine GC.ret1 rfl (Rv.tmp rfl) (fun wN HN => ?_)
        exact HN.ret () trivial (by simp only [sizeB]; rw [decide_eq_false (by omega)]) (List.nil_sublist _) rfl
    · refine GL.stepG (tj := 7) rfl rfl (Ex.wp (v := (.bool false)) (Ex.cast (Ex.geq rfl rfl) (congrArg Value.bool (decide_eq_false hq2))) (by decide)) (fun _ _ => ?_)
      refine GL.val (v := (.bool false)) (Ex.pickT rfl rfl) (by decide) ?_
      refine GL.val (Ex.move rfl) (by decide) ?_
      refine GL.skipG (tj := 11) rfl rfl rfl (by decide) ?_
      refine GL.skipG (tj := 11) rfl rfl rfl (by decide) ?_
      refine GL.val (v := (.bool false)) (Ex.pickF rfl rfl) (by decide) ?_
      refine GL.val (Ex.move rfl) (by decide) ?_
      refine GL.skipG (tj := 15) rfl rfl rfl (by decide) ?_
      refine GL.skipG (tj := 15) rfl rfl rfl (by decide) ?_
      refine GL.val (v := (.bool false)) (Ex.pickF rfl rfl) (by decide) ?_
      refine GL.val (Ex.move rfl) (by decide) ?_
      refine GL.skipG (tj := 19) rfl rfl rfl (by decide) ?_
      refine GL.skipG (tj := 19) rfl rfl rfl (by decide) ?_
      refine GL.skipG (tj := 19) rfl rfl rfl (by decide) ?_
      refine GL.skipG (tj := 19) rfl rfl rfl (by decide) ?_
      refine GL.val (v := (.bool false)) (Ex.pickF rfl rfl) (by decide) ?_
      refine GL.val (Ex.assign rfl) (by decide) ?_
      refine GL.nil ?_
      refine GE.thenN ?_
      refine GC.ret ?_
      refine GC.ret1 rfl (Rv.tmp rfl) (fun wN HN => ?_)
      exact HN.ret () trivial (by simp only [sizeB]; rw [decide_eq_false (by omega)]) (List.nil_sublist _) rfl
  · refine GL.val (v := (.bool false)) (Ex.cast (Ex.geq rfl rfl) (congrArg Value.bool (decide_eq_false hq1))) (by decide) ?_
    refine GL.val (Ex.move rfl) (by decide) ?_
    refine GL.skipG (tj := 7) rfl rfl rfl (by decide) ?_
    refine GL.skipG (tj := 7) rfl rfl rfl (by decide) ?_
    refine GL.val (v := (.bool false)) (Ex.pickF rfl rfl) (by decide) ?_
    refine GL.val (Ex.move rfl) (by decide) ?_
    refine GL.skipG (tj := 11) rfl rfl rfl (by decide) ?_
    refine GL.skipG (tj := 11) rfl rfl rfl (by decide) ?_
    refine GL.val (v := (.bool false)) (Ex.pickF rfl rfl) (by decide) ?_
    refine GL.val (Ex.move rfl) (by decide) ?_
    refine GL.skipG (tj := 15) rfl rfl rfl (by decide) ?_
    refine GL.skipG (tj := 15) rfl rfl rfl (by decide) ?_
    refine GL.val (v := (.bool false)) (Ex.pickF rfl rfl) (by decide) ?_
    refine GL.val (Ex.move rfl) (by decide) ?_
    refine GL.skipG (tj := 19) rfl rfl rfl (by decide) ?_
    refine GL.skipG (tj := 19) rfl rfl rfl (by decide) ?_
    refine GL.skipG (tj := 19) rfl rfl rfl (by decide) ?_
    refine GL.skipG (tj := 19) rfl rfl rfl (by decide) ?_
    refine GL.val (v := (.bool false)) (Ex.pickF rfl rfl) (by decide) ?_
    refine GL.val (Ex.assign rfl) (by decide) ?_
    refine GL.nil ?_
    refine GE.thenN ?_
    refine GC.ret ?_
    refine GC.ret1 rfl (Rv.tmp rfl) (fun wN HN => ?_)
    exact HN.ret () trivial (by simp only [sizeB]; rw [decide_eq_false (by omega)]) (List.nil_sublist _) rfl

set_option maxRecDepth 100000 in
set_option maxHeartbeats 1000000 in
theorem check (W H : Int) (ad : Option Addr) (n cap : Nat) (w : World) :
    Calls Try.prog 36 #[(.agg #[(.int .i64 W), (.int .i64 H), (.slice ad n cap)])] w (Ret w (fun _ : Unit => True) (fun _ => .int .i64 (chk W H n)) (fun _ => [])) := by
  refine enter (M := None) (L := []) (n := 20) (l := [(0, (.agg #[(.int .i64 W), (.int .i64 H), (.slice ad n cap)]))]) Try.func36 rfl rfl (Args.cons rfl (Args.nil _)) (Hp.start _ _) ?_
  refine GC.seq ?_
  refine GC.region ?_
  refine GL.step (Stp.box (cs := [(.int .i64 W), (.int .i64 H), (.slice ad n cap)]) rfl rfl (by decide)) (fun bq1 _ => ?_)
  refine GL.val (Ex.assign rfl) (by decide) ?_
  refine GL.nil ?_
  refine GE.thenN ?_
  refine GC.seq ?_
  refine GC.block ?_
  refine GC.seq ?_
  refine GC.region ?_
  refine GL.val (v := (.pointer (some ⟨bq1, 0, none⟩))) (Ex.cast (Ex.fieldAddr rfl Try.underlying32 rfl T.sz3 (by decide)) rfl) (by decide) ?_
  refine GL.val (Ex.load rfl T.ag3 (i := 0) rfl rfl) (by decide) ?_
  refine GL.val (v := (.pointer (some ⟨bq1, 1, none⟩))) (Ex.cast (Ex.fieldAddr rfl Try.underlying32 rfl T.sz3 (by decide)) rfl) (by decide) ?_
  refine GL.val (Ex.load rfl T.ag3 (i := 0) rfl rfl) (by decide) ?_
  refine GL.step (Stp.callR (vs := [(.int .i64 W), (.int .i64 H)]) rfl rfl T.own52 (by decide) (fun wc hw => size W H wc)) (fun xq2 hq3 => ?_)
  refine GL.val (v := (.bool (!(sizeB W H)))) (Ex.not rfl) (by decide) ?_
  refine GL.val (Ex.assign rfl) (by decide) ?_
  refine GL.nil ?_
  refine GE.thenN ?_
  refine GC.cond rfl (fun hq4 => ?_) (fun hq4 => ?_)
  · have hs : sizeB W H = false := by simpa using hq4
    refine GC.seq ?_
    refine GC.region ?_
    refine GL.val (Ex.assign rfl) (by decide) ?_
    refine GL.nil ?_
    refine GE.thenN ?_
    refine GC.ret ?_
    refine GE.blockR ?_
    refine GE.thenR ?_
    refine GC.ret1 rfl (Rv.tmp rfl) (fun wN HN => ?_)
    exact HN.ret () trivial (by simp [chk, *]) (List.nil_sublist _) rfl
  · have hs : sizeB W H = true := by simpa using hq4
    refine GC.seq ?_
    have hm := sizeB_mul hs
    refine GC.region ?_
    refine GL.val (v := (.pointer (some ⟨bq1, 2, none⟩))) (Ex.cast (Ex.fieldAddr rfl Try.underlying32 rfl T.sz30 (by decide)) rfl) (by decide) ?_
    refine GL.val (Ex.load rfl T.ag30 (i := 0) rfl rfl) (by decide) ?_
    refine GL.val (v := (.int .i64 ((n : Int)))) (Ex.len rfl Try.underlying30) (by decide) ?_
    refine GL.val (v := (.pointer (some ⟨bq1, 0, none⟩))) (Ex.cast (Ex.fieldAddr rfl Try.underlying32 rfl T.sz3 (by decide)) rfl) (by decide) ?_
    refine GL.val (Ex.load rfl T.ag3 (i := 0) rfl rfl) (by decide) ?_
    refine GL.val (v := (.pointer (some ⟨bq1, 1, none⟩))) (Ex.cast (Ex.fieldAddr rfl Try.underlying32 rfl T.sz3 (by decide)) rfl) (by decide) ?_
    refine GL.val (Ex.load rfl T.ag3 (i := 0) rfl rfl) (by decide) ?_
    refine GL.val (v := (.int .i64 (W * H))) (Ex.mul rfl rfl (Z := W * H) (w64 (by omega))) (by decide) ?_
    refine GL.val (v := (.bool (decide (((n : Int)) ≠ (W * H))))) (Ex.neq rfl rfl) (by decide) ?_
    refine GL.val (Ex.assign rfl) (by decide) ?_
    refine GL.nil ?_
    refine GE.thenN ?_
    refine GC.cond rfl (fun hq5 => ?_) (fun hq5 => ?_)
    · replace hq5 := of_decide_eq_true hq5
      refine GC.seq ?_
      refine GC.region ?_
      refine GL.val (Ex.assign rfl) (by decide) ?_
      refine GL.nil ?_
      refine GE.thenN ?_
      refine GC.ret ?_
      refine GE.blockR ?_
      refine GE.thenR ?_
      refine GC.ret1 rfl (Rv.tmp rfl) (fun wN HN => ?_)
      exact HN.ret () trivial (by simp [chk, *]) (List.nil_sublist _) rfl
    · replace hq5 := of_decide_eq_false hq5
      refine GC.skip ?_
      refine GE.blockN ?_
      refine GE.thenN ?_
      refine GC.seq ?_
      refine GC.region ?_
      refine GL.val (Ex.assign rfl) (by decide) ?_
      refine GL.nil ?_
      refine GE.thenN ?_
      refine GC.ret ?_
      refine GC.ret1 rfl (Rv.tmp rfl) (fun wN HN => ?_)
      exact HN.ret () trivial (by simp [chk, *]) (List.nil_sublist _) rfl

theorem check_ok (W H : Nat) (ad : Option Addr) (n cap : Nat) (w : World) (hok : okP W H) (hn : n = W * H) : Calls Try.prog 36 #[.agg #[.int .i64 (W : Int), .int .i64 (H : Int), .slice ad n cap]] w (Ret w (fun _ : Unit => True) (fun _ => .int .i64 0) (fun _ => [])) := by
  have h := check W H ad n cap w
  rw [hn, chk_ok hok] at h
  rw [hn]; exact h

theorem of_fb (W H n cap b o bp : Nat) (ow : Bool) (xs : List Int) (wB : World) (hok : okP W H) (hn : n = W * H) (hx : xs.length = n) (hr : Rd wB b o (xs.map u32)) :
    FnB Try.prog wB [⟨bp, [.int .i64 (W : Int), .int .i64 (H : Int), .slice (some ⟨b, o, none⟩) n cap], 32, ow⟩] 75 #[.pointer (some ⟨bp, 0, none⟩)] W H (smp xs W) := by
  refine ⟨T.own75, fun x y hxW hyH w hk hH => ?_⟩
  have hlt := place_lt hxW hyH
  obtain ⟨h1, h2, h3, h4, h5⟩ := hok
  have e : ((W * y + x : Nat) : Int) = (y : Int) * W + x := by rw [Int.natCast_add, Int.natCast_mul, Int.mul_comm]
  have e2 : ((W * y : Nat) : Int) = (y : Int) * W := by rw [Int.natCast_mul, Int.mul_comm]
  have hv : (xs.map u32)[W * y + x]? = some (u32 (smp xs W x y)) := by
    have hl : W * y + x < xs.length := by omega
    simp [smp, List.getD_eq_getElem?_getD, List.getElem?_eq_getElem hl]
  have hc := (hr.later hk) _ _ hv
  have et : ((y : Int) * W + x).toNat = W * y + x := by omega
  exact of1 x y W H bp b o n cap (smp xs W x y) w (hH _ List.mem_cons_self) (by rw [et]; exact hc) (by omega) (by omega) (by omega)

set_option maxRecDepth 100000 in
set_option maxHeartbeats 1000000 in
theorem of (W H n cap b o : Nat) (w : World) :
    Calls Try.prog 53 #[(.agg #[(.int .i64 ((W : Int))), (.int .i64 ((H : Int))), (.slice (some ⟨b, o, none⟩) n cap)])] w (Ret w (fun _ : Nat => True) (fun r => .func (.func 75) #[] #[.pointer (some ⟨r, 0, none⟩)]) (fun r => [⟨r, [(.int .i64 ((W : Int))), (.int .i64 ((H : Int))), (.slice (some ⟨b, o, none⟩) n cap)], 32, true⟩])) := by
  refine enter (M := None) (L := []) (n := 4) (l := [(0, (.agg #[(.int .i64 ((W : Int))), (.int .i64 ((H : Int))), (.slice (some ⟨b, o, none⟩) n cap)]))]) Try.func53 rfl rfl (Args.cons rfl (Args.nil _)) (Hp.start _ _) ?_
  refine GC.seq ?_
  refine GC.region ?_
  refine GL.step (Stp.box (cs := [(.int .i64 ((W : Int))), (.int .i64 ((H : Int))), (.slice (some ⟨b, o, none⟩) n cap)]) rfl rfl (by decide)) (fun bq1 _ => ?_)
  refine GL.val (Ex.assign rfl) (by decide) ?_
  refine GL.nil ?_
  refine GE.thenN ?_
  refine GC.seq ?_
  refine GC.region ?_
  refine GL.val (v := (.func (.func 75) #[] #[(.pointer (some ⟨bq1, 0, none⟩))])) (Ex.func (cs := [(.pointer (some ⟨bq1, 0, none⟩))]) rfl (fun _ hF => hF.evals _ _ rfl)) (by decide) ?_
  refine GL.val (Ex.assign rfl) (by decide) ?_
  refine GL.nil ?_
  refine GE.thenN ?_
  refine GC.ret ?_
  refine GC.ret1 rfl (Rv.tmp rfl) (fun wN HN => ?_)
  exact HN.ret bq1 trivial rfl (ulC ulN) rfl

set_option maxRecDepth 100000 in
set_option maxHeartbeats 1000000 in
theorem flipA (x y W H n cap b o bf bp : Nat) (fid : FuncId) (caps : Array Value) (g : Nat → Nat → Int) (w : World) (h1 : w.heap[bf]? = some (.cells #[(.func (.func fid) #[] caps)] 88 (0, 0))) (h2 : w.heap[bp]? = some (.cells #[(.int .i64 ((W : Int))), (.int .i64 ((H : Int))), (.slice (some ⟨b, o, none⟩) n cap)] 32 (0, 0)))
    (hf : Fn2 Try.prog w fid caps W H g) (hx : x < W) (hy : y < H) (hW : W ≤ 1024) (hH : H ≤ 1024) :
    Calls Try.prog 65 #[(.int .i64 ((x : Int))), (.int .i64 ((y : Int))), (.pointer (some ⟨bf, 0, none⟩)), (.pointer (some ⟨bp, 0, none⟩))] w (Ret w (fun _ : Unit => True) (fun _ => .int .u32 (g (W - 1 - x) (y))) (fun _ => [])) := by
  refine enter (M := None) (L := [⟨bf, [(.func (.func fid) #[] caps)], 88, false⟩, ⟨bp, [(.int .i64 ((W : Int))), (.int .i64 ((H : Int))), (.slice (some ⟨b, o, none⟩) n cap)], 32, false⟩]) (n := 15) (l := [(0, (.int .i64 ((x : Int)))), (1, (.int .i64 ((y : Int)))), (2, (.pointer (some ⟨bf, 0, none⟩))), (3, (.pointer (some ⟨bp, 0, none⟩)))]) Try.func65 rfl rfl (Args.cons rfl (Args.cons rfl (Args.cons rfl (Args.cons rfl (Args.nil _))))) (Hp.reads (Has.cons h1 (Has.cons h2 (Has.nil _))) rfl) ?_
  refine GC.seq ?_
  refine GC.region ?_
  refine GL.val (Ex.assign rfl) (by decide) ?_
  refine GL.nil ?_
  refine GE.thenN ?_
  refine GC.seq ?_
  refine GC.region ?_
  refine GL.val (Ex.load rfl T.ag88 (i := 0) rfl rfl) (by decide) ?_
  refine GL.val (v := (.pointer (some ⟨bp, 0, none⟩))) (Ex.cast (Ex.fieldAddr rfl Try.underlying32 rfl T.sz3 (by decide)) rfl) (by decide) ?_
  refine GL.val (Ex.load rfl T.ag3 (i := 1) rfl rfl) (by decide) ?_
  refine GL.val (v := (.int .i64 (((W - 1 : Nat) : Int)))) (Ex.sub' rfl rfl (Z := ((W - 1 : Nat) : Int)) (by rw [w64 (by omega)]; omega)) (by decide) ?_
  refine GL.val (Ex.move rfl) (by decide) ?_
  refine GL.val (v := (.int .i64 (((W - 1 - x : Nat) : Int)))) (Ex.sub' rfl rfl (Z := ((W - 1 - x : Nat) : Int)) (by rw [w64 (by omega)]; omega)) (by decide) ?_
  refine GL.val (Ex.move rfl) (by decide) ?_
  refine GL.step (Stp.callR (vs := [(.int .i64 (((W - 1 - x : Nat) : Int))), (.int .i64 ((y : Int)))]) rfl rfl hf.1 (by decide) (fun wc hw => hf.2 (W - 1 - x) (y) (by omega) (by omega) wc hw.1)) (fun xq1 hq2 => ?_)
  refine GL.val (Ex.assign rfl) (by decide) ?_
  refine GL.nil ?_
  refine GE.thenN ?_
  refine GC.ret ?_
  refine GC.ret1 rfl (Rv.tmp rfl) (fun wN HN => ?_)
  exact HN.ret () trivial (by first | rfl | (congr 1; done)) (List.nil_sublist _) rfl

set_option maxRecDepth 100000 in
set_option maxHeartbeats 1000000 in
theorem flipB (x y W H n cap b o bf bp : Nat) (fid : FuncId) (caps : Array Value) (g : Nat → Nat → Int) (w : World) (h1 : w.heap[bf]? = some (.cells #[(.func (.func fid) #[] caps)] 88 (0, 0))) (h2 : w.heap[bp]? = some (.cells #[(.int .i64 ((W : Int))), (.int .i64 ((H : Int))), (.slice (some ⟨b, o, none⟩) n cap)] 32 (0, 0)))
    (hf : Fn2 Try.prog w fid caps W H g) (hx : x < W) (hy : y < H) (hW : W ≤ 1024) (hH : H ≤ 1024) :
    Calls Try.prog 66 #[(.int .i64 ((x : Int))), (.int .i64 ((y : Int))), (.pointer (some ⟨bf, 0, none⟩)), (.pointer (some ⟨bp, 0, none⟩))] w (Ret w (fun _ : Unit => True) (fun _ => .int .u32 (g (x) (H - 1 - y))) (fun _ => [])) := by
  refine enter (M := None) (L := [⟨bf, [(.func (.func fid) #[] caps)], 88, false⟩, ⟨bp, [(.int .i64 ((W : Int))), (.int .i64 ((H : Int))), (.slice (some ⟨b, o, none⟩) n cap)], 32, false⟩]) (n := 15) (l := [(0, (.int .i64 ((x : Int)))), (1, (.int .i64 ((y : Int)))), (2, (.pointer (some ⟨bf, 0, none⟩))), (3, (.pointer (some ⟨bp, 0, none⟩)))]) Try.func66 rfl rfl (Args.cons rfl (Args.cons rfl (Args.cons rfl (Args.cons rfl (Args.nil _))))) (Hp.reads (Has.cons h1 (Has.cons h2 (Has.nil _))) rfl) ?_
  refine GC.seq ?_
  refine GC.region ?_
  refine GL.val (Ex.assign rfl) (by decide) ?_
  refine GL.nil ?_
  refine GE.thenN ?_
  refine GC.seq ?_
  refine GC.region ?_
  refine GL.val (Ex.load rfl T.ag88 (i := 0) rfl rfl) (by decide) ?_
  refine GL.val (Ex.move rfl) (by decide) ?_
  refine GL.val (v := (.pointer (some ⟨bp, 1, none⟩))) (Ex.cast (Ex.fieldAddr rfl Try.underlying32 rfl T.sz3 (by decide)) rfl) (by decide) ?_
  refine GL.val (Ex.load rfl T.ag3 (i := 1) rfl rfl) (by decide) ?_
  refine GL.val (v := (.int .i64 (((H - 1 : Nat) : Int)))) (Ex.sub' rfl rfl (Z := ((H - 1 : Nat) : Int)) (by rw [w64 (by omega)]; omega)) (by decide) ?_
  refine GL.val (Ex.move rfl) (by decide) ?_
  refine GL.val (v := (.int .i64 (((H - 1 - y : Nat) : Int)))) (Ex.sub' rfl rfl (Z := ((H - 1 - y : Nat) : Int)) (by rw [w64 (by omega)]; omega)) (by decide) ?_
  refine GL.step (Stp.callR (vs := [(.int .i64 ((x : Int))), (.int .i64 (((H - 1 - y : Nat) : Int)))]) rfl rfl hf.1 (by decide) (fun wc hw => hf.2 (x) (H - 1 - y) (by omega) (by omega) wc hw.1)) (fun xq1 hq2 => ?_)
  refine GL.val (Ex.assign rfl) (by decide) ?_
  refine GL.nil ?_
  refine GE.thenN ?_
  refine GC.ret ?_
  refine GC.ret1 rfl (Rv.tmp rfl) (fun wN HN => ?_)
  exact HN.ret () trivial (by first | rfl | (congr 1; done)) (List.nil_sublist _) rfl

set_option maxRecDepth 100000 in
set_option maxHeartbeats 1000000 in
theorem tran (x y W H n cap b o bf bp : Nat) (fid : FuncId) (caps : Array Value) (g : Nat → Nat → Int) (w : World) (h1 : w.heap[bf]? = some (.cells #[(.func (.func fid) #[] caps)] 88 (0, 0)))
    (hf : Fn2 Try.prog w fid caps W H g) (hx : x < H) (hy : y < W) (hW : W ≤ 1024) (hH : H ≤ 1024) :
    Calls Try.prog 68 #[(.int .i64 ((x : Int))), (.int .i64 ((y : Int))), (.pointer (some ⟨bf, 0, none⟩))] w (Ret w (fun _ : Unit => True) (fun _ => .int .u32 (g (y) (x))) (fun _ => [])) := by
  refine enter (M := None) (L := [⟨bf, [(.func (.func fid) #[] caps)], 88, false⟩]) (n := 10) (l := [(0, (.int .i64 ((x : Int)))), (1, (.int .i64 ((y : Int)))), (2, (.pointer (some ⟨bf, 0, none⟩)))]) Try.func68 rfl rfl (Args.cons rfl (Args.cons rfl (Args.cons rfl (Args.nil _)))) (Hp.reads (Has.cons h1 (Has.nil _)) rfl) ?_
  refine GC.seq ?_
  refine GC.region ?_
  refine GL.val (Ex.assign rfl) (by decide) ?_
  refine GL.nil ?_
  refine GE.thenN ?_
  refine GC.seq ?_
  refine GC.region ?_
  refine GL.val (Ex.load rfl T.ag88 (i := 0) rfl rfl) (by decide) ?_
  refine GL.val (Ex.move rfl) (by decide) ?_
  refine GL.val (Ex.move rfl) (by decide) ?_
  refine GL.step (Stp.callR (vs := [(.int .i64 ((y : Int))), (.int .i64 ((x : Int)))]) rfl rfl hf.1 (by decide) (fun wc hw => hf.2 (y) (x) (by omega) (by omega) wc hw.1)) (fun xq1 hq2 => ?_)
  refine GL.val (Ex.assign rfl) (by decide) ?_
  refine GL.nil ?_
  refine GE.thenN ?_
  refine GC.ret ?_
  refine GC.ret1 rfl (Rv.tmp rfl) (fun wN HN => ?_)
  exact HN.ret () trivial (by first | rfl | (congr 1; done)) (List.nil_sublist _) rfl

set_option maxRecDepth 100000 in
set_option maxHeartbeats 1000000 in
theorem turn1 (x y W H n cap b o bf bp : Nat) (fid : FuncId) (caps : Array Value) (g : Nat → Nat → Int) (w : World) (h1 : w.heap[bf]? = some (.cells #[(.func (.func fid) #[] caps)] 88 (0, 0))) (h2 : w.heap[bp]? = some (.cells #[(.int .i64 ((W : Int))), (.int .i64 ((H : Int))), (.slice (some ⟨b, o, none⟩) n cap)] 32 (0, 0)))
    (hf : Fn2 Try.prog w fid caps W H g) (hx : x < H) (hy : y < W) (hW : W ≤ 1024) (hH : H ≤ 1024) :
    Calls Try.prog 70 #[(.int .i64 ((x : Int))), (.int .i64 ((y : Int))), (.pointer (some ⟨bf, 0, none⟩)), (.pointer (some ⟨bp, 0, none⟩))] w (Ret w (fun _ : Unit => True) (fun _ => .int .u32 (g (y) (H - 1 - x))) (fun _ => [])) := by
  refine enter (M := None) (L := [⟨bf, [(.func (.func fid) #[] caps)], 88, false⟩, ⟨bp, [(.int .i64 ((W : Int))), (.int .i64 ((H : Int))), (.slice (some ⟨b, o, none⟩) n cap)], 32, false⟩]) (n := 15) (l := [(0, (.int .i64 ((x : Int)))), (1, (.int .i64 ((y : Int)))), (2, (.pointer (some ⟨bf, 0, none⟩))), (3, (.pointer (some ⟨bp, 0, none⟩)))]) Try.func70 rfl rfl (Args.cons rfl (Args.cons rfl (Args.cons rfl (Args.cons rfl (Args.nil _))))) (Hp.reads (Has.cons h1 (Has.cons h2 (Has.nil _))) rfl) ?_
  refine GC.seq ?_
  refine GC.region ?_
  refine GL.val (Ex.assign rfl) (by decide) ?_
  refine GL.nil ?_
  refine GE.thenN ?_
  refine GC.seq ?_
  refine GC.region ?_
  refine GL.val (Ex.load rfl T.ag88 (i := 0) rfl rfl) (by decide) ?_
  refine GL.val (Ex.move rfl) (by decide) ?_
  refine GL.val (v := (.pointer (some ⟨bp, 1, none⟩))) (Ex.cast (Ex.fieldAddr rfl Try.underlying32 rfl T.sz3 (by decide)) rfl) (by decide) ?_
  refine GL.val (Ex.load rfl T.ag3 (i := 1) rfl rfl) (by decide) ?_
  refine GL.val (v := (.int .i64 (((H - 1 : Nat) : Int)))) (Ex.sub' rfl rfl (Z := ((H - 1 : Nat) : Int)) (by rw [w64 (by omega)]; omega)) (by decide) ?_
  refine GL.val (Ex.move rfl) (by decide) ?_
  refine GL.val (v := (.int .i64 (((H - 1 - x : Nat) : Int)))) (Ex.sub' rfl rfl (Z := ((H - 1 - x : Nat) : Int)) (by rw [w64 (by omega)]; omega)) (by decide) ?_
  refine GL.step (Stp.callR (vs := [(.int .i64 ((y : Int))), (.int .i64 (((H - 1 - x : Nat) : Int)))]) rfl rfl hf.1 (by decide) (fun wc hw => hf.2 (y) (H - 1 - x) (by omega) (by omega) wc hw.1)) (fun xq1 hq2 => ?_)
  refine GL.val (Ex.assign rfl) (by decide) ?_
  refine GL.nil ?_
  refine GE.thenN ?_
  refine GC.ret ?_
  refine GC.ret1 rfl (Rv.tmp rfl) (fun wN HN => ?_)
  exact HN.ret () trivial (by first | rfl | (congr 1; done)) (List.nil_sublist _) rfl

set_option maxRecDepth 100000 in
set_option maxHeartbeats 1000000 in
theorem turn2 (x y W H n cap b o bf bp : Nat) (fid : FuncId) (caps : Array Value) (g : Nat → Nat → Int) (w : World) (h1 : w.heap[bf]? = some (.cells #[(.func (.func fid) #[] caps)] 88 (0, 0))) (h2 : w.heap[bp]? = some (.cells #[(.int .i64 ((W : Int))), (.int .i64 ((H : Int))), (.slice (some ⟨b, o, none⟩) n cap)] 32 (0, 0)))
    (hf : Fn2 Try.prog w fid caps W H g) (hx : x < W) (hy : y < H) (hW : W ≤ 1024) (hH : H ≤ 1024) :
    Calls Try.prog 71 #[(.int .i64 ((x : Int))), (.int .i64 ((y : Int))), (.pointer (some ⟨bf, 0, none⟩)), (.pointer (some ⟨bp, 0, none⟩))] w (Ret w (fun _ : Unit => True) (fun _ => .int .u32 (g (W - 1 - x) (H - 1 - y))) (fun _ => [])) := by
  refine enter (M := None) (L := [⟨bf, [(.func (.func fid) #[] caps)], 88, false⟩, ⟨bp, [(.int .i64 ((W : Int))), (.int .i64 ((H : Int))), (.slice (some ⟨b, o, none⟩) n cap)], 32, false⟩]) (n := 19) (l := [(0, (.int .i64 ((x : Int)))), (1, (.int .i64 ((y : Int)))), (2, (.pointer (some ⟨bf, 0, none⟩))), (3, (.pointer (some ⟨bp, 0, none⟩)))]) Try.func71 rfl rfl (Args.cons rfl (Args.cons rfl (Args.cons rfl (Args.cons rfl (Args.nil _))))) (Hp.reads (Has.cons h1 (Has.cons h2 (Has.nil _))) rfl) ?_
  refine GC.seq ?_
  refine GC.region ?_
  refine GL.val (Ex.assign rfl) (by decide) ?_
  refine GL.nil ?_
  refine GE.thenN ?_
  refine GC.seq ?_
  refine GC.region ?_
  refine GL.val (Ex.load rfl T.ag88 (i := 0) rfl rfl) (by decide) ?_
  refine GL.val (v := (.pointer (some ⟨bp, 0, none⟩))) (Ex.cast (Ex.fieldAddr rfl Try.underlying32 rfl T.sz3 (by decide)) rfl) (by decide) ?_
  refine GL.val (Ex.load rfl T.ag3 (i := 1) rfl rfl) (by decide) ?_
  refine GL.val (v := (.int .i64 (((W - 1 : Nat) : Int)))) (Ex.sub' rfl rfl (Z := ((W - 1 : Nat) : Int)) (by rw [w64 (by omega)]; omega)) (by decide) ?_
  refine GL.val (Ex.move rfl) (by decide) ?_
  refine GL.val (v := (.int .i64 (((W - 1 - x : Nat) : Int)))) (Ex.sub' rfl rfl (Z := ((W - 1 - x : Nat) : Int)) (by rw [w64 (by omega)]; omega)) (by decide) ?_
  refine GL.val (v := (.pointer (some ⟨bp, 1, none⟩))) (Ex.cast (Ex.fieldAddr rfl Try.underlying32 rfl T.sz3 (by decide)) rfl) (by decide) ?_
  refine GL.val (Ex.load rfl T.ag3 (i := 1) rfl rfl) (by decide) ?_
  refine GL.val (v := (.int .i64 (((H - 1 : Nat) : Int)))) (Ex.sub' rfl rfl (Z := ((H - 1 : Nat) : Int)) (by rw [w64 (by omega)]; omega)) (by decide) ?_
  refine GL.val (Ex.move rfl) (by decide) ?_
  refine GL.val (v := (.int .i64 (((H - 1 - y : Nat) : Int)))) (Ex.sub' rfl rfl (Z := ((H - 1 - y : Nat) : Int)) (by rw [w64 (by omega)]; omega)) (by decide) ?_
  refine GL.step (Stp.callR (vs := [(.int .i64 (((W - 1 - x : Nat) : Int))), (.int .i64 (((H - 1 - y : Nat) : Int)))]) rfl rfl hf.1 (by decide) (fun wc hw => hf.2 (W - 1 - x) (H - 1 - y) (by omega) (by omega) wc hw.1)) (fun xq1 hq2 => ?_)
  refine GL.val (Ex.assign rfl) (by decide) ?_
  refine GL.nil ?_
  refine GE.thenN ?_
  refine GC.ret ?_
  refine GC.ret1 rfl (Rv.tmp rfl) (fun wN HN => ?_)
  exact HN.ret () trivial (by first | rfl | (congr 1; done)) (List.nil_sublist _) rfl

set_option maxRecDepth 100000 in
set_option maxHeartbeats 1000000 in
theorem turn3 (x y W H n cap b o bf bp : Nat) (fid : FuncId) (caps : Array Value) (g : Nat → Nat → Int) (w : World) (h1 : w.heap[bf]? = some (.cells #[(.func (.func fid) #[] caps)] 88 (0, 0))) (h2 : w.heap[bp]? = some (.cells #[(.int .i64 ((W : Int))), (.int .i64 ((H : Int))), (.slice (some ⟨b, o, none⟩) n cap)] 32 (0, 0)))
    (hf : Fn2 Try.prog w fid caps W H g) (hx : x < H) (hy : y < W) (hW : W ≤ 1024) (hH : H ≤ 1024) :
    Calls Try.prog 72 #[(.int .i64 ((x : Int))), (.int .i64 ((y : Int))), (.pointer (some ⟨bf, 0, none⟩)), (.pointer (some ⟨bp, 0, none⟩))] w (Ret w (fun _ : Unit => True) (fun _ => .int .u32 (g (W - 1 - y) (x))) (fun _ => [])) := by
  refine enter (M := None) (L := [⟨bf, [(.func (.func fid) #[] caps)], 88, false⟩, ⟨bp, [(.int .i64 ((W : Int))), (.int .i64 ((H : Int))), (.slice (some ⟨b, o, none⟩) n cap)], 32, false⟩]) (n := 15) (l := [(0, (.int .i64 ((x : Int)))), (1, (.int .i64 ((y : Int)))), (2, (.pointer (some ⟨bf, 0, none⟩))), (3, (.pointer (some ⟨bp, 0, none⟩)))]) Try.func72 rfl rfl (Args.cons rfl (Args.cons rfl (Args.cons rfl (Args.cons rfl (Args.nil _))))) (Hp.reads (Has.cons h1 (Has.cons h2 (Has.nil _))) rfl) ?_
  refine GC.seq ?_
  refine GC.region ?_
  refine GL.val (Ex.assign rfl) (by decide) ?_
  refine GL.nil ?_
  refine GE.thenN ?_
  refine GC.seq ?_
  refine GC.region ?_
  refine GL.val (Ex.load rfl T.ag88 (i := 0) rfl rfl) (by decide) ?_
  refine GL.val (v := (.pointer (some ⟨bp, 0, none⟩))) (Ex.cast (Ex.fieldAddr rfl Try.underlying32 rfl T.sz3 (by decide)) rfl) (by decide) ?_
  refine GL.val (Ex.load rfl T.ag3 (i := 1) rfl rfl) (by decide) ?_
  refine GL.val (v := (.int .i64 (((W - 1 : Nat) : Int)))) (Ex.sub' rfl rfl (Z := ((W - 1 : Nat) : Int)) (by rw [w64 (by omega)]; omega)) (by decide) ?_
  refine GL.val (Ex.move rfl) (by decide) ?_
  refine GL.val (v := (.int .i64 (((W - 1 - y : Nat) : Int)))) (Ex.sub' rfl rfl (Z := ((W - 1 - y : Nat) : Int)) (by rw [w64 (by omega)]; omega)) (by decide) ?_
  refine GL.val (Ex.move rfl) (by decide) ?_
  refine GL.step (Stp.callR (vs := [(.int .i64 (((W - 1 - y : Nat) : Int))), (.int .i64 ((x : Int)))]) rfl rfl hf.1 (by decide) (fun wc hw => hf.2 (W - 1 - y) (x) (by omega) (by omega) wc hw.1)) (fun xq1 hq2 => ?_)
  refine GL.val (Ex.assign rfl) (by decide) ?_
  refine GL.nil ?_
  refine GE.thenN ?_
  refine GC.ret ?_
  refine GC.ret1 rfl (Rv.tmp rfl) (fun wN HN => ?_)
  exact HN.ret () trivial (by first | rfl | (congr 1; done)) (List.nil_sublist _) rfl

set_option maxRecDepth 100000 in
set_option maxHeartbeats 1000000 in
theorem flip1T (W H n cap b o bp : Nat) (fid : FuncId) (caps : Array Value) (ba : Nat) (w : World) (h1 : w.heap[ba]? = some (.cells #[(.bool true)] 4 (0, 0))) (h2 : w.heap[bp]? = some (.cells #[(.int .i64 ((W : Int))), (.int .i64 ((H : Int))), (.slice (some ⟨b, o, none⟩) n cap)] 32 (0, 0))) :
    Calls Try.prog 64 #[(.func (.func fid) #[] caps), (.pointer (some ⟨ba, 0, none⟩)), (.pointer (some ⟨bp, 0, none⟩))] w (Ret w (fun _ : Nat => True) (fun r => (.agg #[.int .i64 (W : Int), .int .i64 (H : Int), .func (.func 65) #[] #[.pointer (some ⟨r, 0, none⟩), (.pointer (some ⟨bp, 0, none⟩))]])) (fun r => [⟨r, [.func (.func fid) #[] caps], 88, true⟩])) := by
  refine enter (M := None) (L := [⟨ba, [(.bool true)], 4, false⟩, ⟨bp, [(.int .i64 ((W : Int))), (.int .i64 ((H : Int))), (.slice (some ⟨b, o, none⟩) n cap)], 32, false⟩]) (n := 18) (l := [(0, (.func (.func fid) #[] caps)), (1, (.pointer (some ⟨ba, 0, none⟩))), (2, (.pointer (some ⟨bp, 0, none⟩)))]) Try.func64 rfl rfl (Args.cons rfl (Args.cons rfl (Args.cons rfl (Args.nil _)))) (Hp.reads (Has.cons h1 (Has.cons h2 (Has.nil _))) rfl) ?_
  refine GC.seq ?_
  refine GC.region ?_
  refine GL.step (Stp.box (cs := [(.func (.func fid) #[] caps)]) rfl rfl (by decide)) (fun bq1 _ => ?_)
  refine GL.step (Stp.alloc T.zr91 (by decide)) (fun bq2 _ => ?_)
  refine GL.nil ?_
  refine GE.thenN ?_
  refine GC.seq ?_
  refine GC.seq ?_
  refine GC.region ?_
  refine GL.val (Ex.load rfl T.ag4 (i := 2) rfl rfl) (by decide) ?_
  refine GL.nil ?_
  refine GE.thenN ?_
  refine GC.cond rfl (fun _ => ?_) (fun hq3 => by cases hq3)
  refine GC.seq ?_
  refine GC.region ?_
  refine GL.val (v := (.pointer (some ⟨bp, 0, none⟩))) (Ex.cast (Ex.fieldAddr rfl Try.underlying32 rfl T.sz3 (by decide)) rfl) (by decide) ?_
  refine GL.val (Ex.load rfl T.ag3 (i := 3) rfl rfl) (by decide) ?_
  refine GL.val (v := (.pointer (some ⟨bp, 1, none⟩))) (Ex.cast (Ex.fieldAddr rfl Try.underlying32 rfl T.sz3 (by decide)) rfl) (by decide) ?_
  refine GL.val (Ex.load rfl T.ag3 (i := 3) rfl rfl) (by decide) ?_
  refine GL.val (v := (.func (.func 65) #[] #[(.pointer (some ⟨bq1, 0, none⟩)), (.pointer (some ⟨bp, 0, none⟩))])) (Ex.func (cs := [(.pointer (some ⟨bq1, 0, none⟩)), (.pointer (some ⟨bp, 0, none⟩))]) rfl (fun _ hF => hF.evals _ _ rfl)) (by decide) ?_
  refine GL.val (v := (.agg #[(.int .i64 ((W : Int))), (.int .i64 ((H : Int))), (.func (.func 65) #[] #[(.pointer (some ⟨bq1, 0, none⟩)), (.pointer (some ⟨bp, 0, none⟩))])])) (Ex.build (vs := [(0, (.int .i64 ((W : Int)))), (1, (.int .i64 ((H : Int)))), (2, (.func (.func 65) #[] #[(.pointer (some ⟨bq1, 0, none⟩)), (.pointer (some ⟨bp, 0, none⟩))]))]) rfl (by first | rfl | kernel_rfl)) (by decide) ?_
  refine GL.step (Stp.st0 (cs' := [(.int .i64 ((W : Int))), (.int .i64 ((H : Int))), (.func (.func 65) #[] #[(.pointer (some ⟨bq1, 0, none⟩)), (.pointer (some ⟨bp, 0, none⟩))])]) rfl rfl rfl T.sz91 rfl rfl rfl) (fun _ _ => ?_)
  refine GL.nil ?_
  refine GE.thenN ?_
  refine GC.ret ?_
  refine GE.thenR ?_
  refine GC.ret1 rfl (Rv.cellA rfl T.ag91 T.sz91 (L := _) (i := 0) rfl (vs := [(.int .i64 ((W : Int))), (.int .i64 ((H : Int))), (.func (.func 65) #[] #[(.pointer (some ⟨bq1, 0, none⟩)), (.pointer (some ⟨bp, 0, none⟩))])]) rfl rfl) (fun wN HN => ?_)
  exact HN.ret bq1 trivial rfl (ulS (ulC (ulS (ulS ulN)))) rfl

set_option maxRecDepth 100000 in
set_option maxHeartbeats 1000000 in
theorem flip1F (W H n cap b o bp : Nat) (fid : FuncId) (caps : Array Value) (ba : Nat) (w : World) (h1 : w.heap[ba]? = some (.cells #[(.bool false)] 4 (0, 0))) (h2 : w.heap[bp]? = some (.cells #[(.int .i64 ((W : Int))), (.int .i64 ((H : Int))), (.slice (some ⟨b, o, none⟩) n cap)] 32 (0, 0))) :
    Calls Try.prog 64 #[(.func (.func fid) #[] caps), (.pointer (some ⟨ba, 0, none⟩)), (.pointer (some ⟨bp, 0, none⟩))] w (Ret w (fun _ : Nat => True) (fun r => (.agg #[.int .i64 (W : Int), .int .i64 (H : Int), .func (.func 66) #[] #[.pointer (some ⟨r, 0, none⟩), (.pointer (some ⟨bp, 0, none⟩))]])) (fun r => [⟨r, [.func (.func fid) #[] caps], 88, true⟩])) := by
  refine enter (M := None) (L := [⟨ba, [(.bool false)], 4, false⟩, ⟨bp, [(.int .i64 ((W : Int))), (.int .i64 ((H : Int))), (.slice (some ⟨b, o, none⟩) n cap)], 32, false⟩]) (n := 18) (l := [(0, (.func (.func fid) #[] caps)), (1, (.pointer (some ⟨ba, 0, none⟩))), (2, (.pointer (some ⟨bp, 0, none⟩)))]) Try.func64 rfl rfl (Args.cons rfl (Args.cons rfl (Args.cons rfl (Args.nil _)))) (Hp.reads (Has.cons h1 (Has.cons h2 (Has.nil _))) rfl) ?_
  refine GC.seq ?_
  refine GC.region ?_
  refine GL.step (Stp.box (cs := [(.func (.func fid) #[] caps)]) rfl rfl (by decide)) (fun bq1 _ => ?_)
  refine GL.step (Stp.alloc T.zr91 (by decide)) (fun bq2 _ => ?_)
  refine GL.nil ?_
  refine GE.thenN ?_
  refine GC.seq ?_
  refine GC.seq ?_
  refine GC.region ?_
  refine GL.val (Ex.load rfl T.ag4 (i := 2) rfl rfl) (by decide) ?_
  refine GL.nil ?_
  refine GE.thenN ?_
  refine GC.cond rfl (fun hq3 => by cases hq3) (fun _ => ?_)
  refine GC.skip ?_
  refine GE.thenN ?_
  refine GC.seq ?_
  refine GC.region ?_
  refine GL.val (v := (.pointer (some ⟨bp, 0, none⟩))) (Ex.cast (Ex.fieldAddr rfl Try.underlying32 rfl T.sz3 (by decide)) rfl) (by decide) ?_
  refine GL.val (Ex.load rfl T.ag3 (i := 3) rfl rfl) (by decide) ?_
  refine GL.val (v := (.pointer (some ⟨bp, 1, none⟩))) (Ex.cast (Ex.fieldAddr rfl Try.underlying32 rfl T.sz3 (by decide)) rfl) (by decide) ?_
  refine GL.val (Ex.load rfl T.ag3 (i := 3) rfl rfl) (by decide) ?_
  refine GL.val (v := (.func (.func 66) #[] #[(.pointer (some ⟨bq1, 0, none⟩)), (.pointer (some ⟨bp, 0, none⟩))])) (Ex.func (cs := [(.pointer (some ⟨bq1, 0, none⟩)), (.pointer (some ⟨bp, 0, none⟩))]) rfl (fun _ hF => hF.evals _ _ rfl)) (by decide) ?_
  refine GL.val (v := (.agg #[(.int .i64 ((W : Int))), (.int .i64 ((H : Int))), (.func (.func 66) #[] #[(.pointer (some ⟨bq1, 0, none⟩)), (.pointer (some ⟨bp, 0, none⟩))])])) (Ex.build (vs := [(0, (.int .i64 ((W : Int)))), (1, (.int .i64 ((H : Int)))), (2, (.func (.func 66) #[] #[(.pointer (some ⟨bq1, 0, none⟩)), (.pointer (some ⟨bp, 0, none⟩))]))]) rfl (by first | rfl | kernel_rfl)) (by decide) ?_
  refine GL.step (Stp.st0 (cs' := [(.int .i64 ((W : Int))), (.int .i64 ((H : Int))), (.func (.func 66) #[] #[(.pointer (some ⟨bq1, 0, none⟩)), (.pointer (some ⟨bp, 0, none⟩))])]) rfl rfl rfl T.sz91 rfl rfl rfl) (fun _ _ => ?_)
  refine GL.nil ?_
  refine GE.thenN ?_
  refine GC.ret ?_
  refine GC.ret1 rfl (Rv.cellA rfl T.ag91 T.sz91 (L := _) (i := 0) rfl (vs := [(.int .i64 ((W : Int))), (.int .i64 ((H : Int))), (.func (.func 66) #[] #[(.pointer (some ⟨bq1, 0, none⟩)), (.pointer (some ⟨bp, 0, none⟩))])]) rfl rfl) (fun wN HN => ?_)
  exact HN.ret bq1 trivial rfl (ulS (ulC (ulS (ulS ulN)))) rfl

set_option maxRecDepth 100000 in
set_option maxHeartbeats 1000000 in
theorem tran1 (W H n cap b o bp : Nat) (fid : FuncId) (caps : Array Value) (w : World) (h1 : w.heap[bp]? = some (.cells #[(.int .i64 ((W : Int))), (.int .i64 ((H : Int))), (.slice (some ⟨b, o, none⟩) n cap)] 32 (0, 0))) :
    Calls Try.prog 67 #[(.func (.func fid) #[] caps), (.pointer (some ⟨bp, 0, none⟩))] w (Ret w (fun _ : Nat => True) (fun r => (.agg #[.int .i64 (H : Int), .int .i64 (W : Int), .func (.func 68) #[] #[.pointer (some ⟨r, 0, none⟩)]])) (fun r => [⟨r, [.func (.func fid) #[] caps], 88, true⟩])) := by
  refine enter (M := None) (L := [⟨bp, [(.int .i64 ((W : Int))), (.int .i64 ((H : Int))), (.slice (some ⟨b, o, none⟩) n cap)], 32, false⟩]) (n := 10) (l := [(0, (.func (.func fid) #[] caps)), (1, (.pointer (some ⟨bp, 0, none⟩)))]) Try.func67 rfl rfl (Args.cons rfl (Args.cons rfl (Args.nil _))) (Hp.reads (Has.cons h1 (Has.nil _)) rfl) ?_
  refine GC.seq ?_
  refine GC.region ?_
  refine GL.step (Stp.box (cs := [(.func (.func fid) #[] caps)]) rfl rfl (by decide)) (fun bq1 _ => ?_)
  refine GL.step (Stp.alloc T.zr91 (by decide)) (fun bq2 _ => ?_)
  refine GL.nil ?_
  refine GE.thenN ?_
  refine GC.seq ?_
  refine GC.region ?_
  refine GL.val (v := (.pointer (some ⟨bp, 1, none⟩))) (Ex.cast (Ex.fieldAddr rfl Try.underlying32 rfl T.sz3 (by decide)) rfl) (by decide) ?_
  refine GL.val (Ex.load rfl T.ag3 (i := 2) rfl rfl) (by decide) ?_
  refine GL.val (v := (.pointer (some ⟨bp, 0, none⟩))) (Ex.cast (Ex.fieldAddr rfl Try.underlying32 rfl T.sz3 (by decide)) rfl) (by decide) ?_
  refine GL.val (Ex.load rfl T.ag3 (i := 2) rfl rfl) (by decide) ?_
  refine GL.val (v := (.func (.func 68) #[] #[(.pointer (some ⟨bq1, 0, none⟩))])) (Ex.func (cs := [(.pointer (some ⟨bq1, 0, none⟩))]) rfl (fun _ hF => hF.evals _ _ rfl)) (by decide) ?_
  refine GL.val (v := (.agg #[(.int .i64 ((H : Int))), (.int .i64 ((W : Int))), (.func (.func 68) #[] #[(.pointer (some ⟨bq1, 0, none⟩))])])) (Ex.build (vs := [(0, (.int .i64 ((H : Int)))), (1, (.int .i64 ((W : Int)))), (2, (.func (.func 68) #[] #[(.pointer (some ⟨bq1, 0, none⟩))]))]) rfl (by first | rfl | kernel_rfl)) (by decide) ?_
  refine GL.step (Stp.st0 (cs' := [(.int .i64 ((H : Int))), (.int .i64 ((W : Int))), (.func (.func 68) #[] #[(.pointer (some ⟨bq1, 0, none⟩))])]) rfl rfl rfl T.sz91 rfl rfl rfl) (fun _ _ => ?_)
  refine GL.nil ?_
  refine GE.thenN ?_
  refine GC.ret ?_
  refine GC.ret1 rfl (Rv.cellA rfl T.ag91 T.sz91 (L := _) (i := 0) rfl (vs := [(.int .i64 ((H : Int))), (.int .i64 ((W : Int))), (.func (.func 68) #[] #[(.pointer (some ⟨bq1, 0, none⟩))])]) rfl rfl) (fun wN HN => ?_)
  exact HN.ret bq1 trivial rfl (ulS (ulC (ulS ulN))) rfl

set_option maxRecDepth 100000 in
set_option maxHeartbeats 1000000 in
theorem turn1_1 (W H n cap b o bp : Nat) (fid : FuncId) (caps : Array Value) (ba : Nat) (q : Int) (w : World) (h1 : w.heap[ba]? = some (.cells #[(.int .i64 q)] 3 (0, 0))) (h2 : w.heap[bp]? = some (.cells #[(.int .i64 ((W : Int))), (.int .i64 ((H : Int))), (.slice (some ⟨b, o, none⟩) n cap)] 32 (0, 0))) (hq : (q.tmod 4 + 4).tmod 4 = 1) (hq0 : -4 < q.tmod 4 ∧ q.tmod 4 < 4) :
    Calls Try.prog 69 #[(.func (.func fid) #[] caps), (.pointer (some ⟨ba, 0, none⟩)), (.pointer (some ⟨bp, 0, none⟩))] w (Ret w (fun _ : Nat => True) (fun r => (.agg #[.int .i64 (H : Int), .int .i64 (W : Int), .func (.func 70) #[] #[.pointer (some ⟨r, 0, none⟩), (.pointer (some ⟨bp, 0, none⟩))]])) (fun r => [⟨r, [.func (.func fid) #[] caps], 88, true⟩])) := by
  refine enter (M := None) (L := [⟨ba, [(.int .i64 q)], 3, false⟩, ⟨bp, [(.int .i64 ((W : Int))), (.int .i64 ((H : Int))), (.slice (some ⟨b, o, none⟩) n cap)], 32, false⟩]) (n := 39) (l := [(0, (.func (.func fid) #[] caps)), (1, (.pointer (some ⟨ba, 0, none⟩))), (2, (.pointer (some ⟨bp, 0, none⟩)))]) Try.func69 rfl rfl (Args.cons rfl (Args.cons rfl (Args.cons rfl (Args.nil _)))) (Hp.reads (Has.cons h1 (Has.cons h2 (Has.nil _))) rfl) ?_
  refine GC.seq ?_
  refine GC.region ?_
  refine GL.step (Stp.box (cs := [(.func (.func fid) #[] caps)]) rfl rfl (by decide)) (fun bq1 _ => ?_)
  refine GL.step (Stp.alloc T.zr91 (by decide)) (fun bq2 _ => ?_)
  refine GL.nil ?_
  refine GE.thenN ?_
  refine GC.seq ?_
  refine GC.seq ?_
  refine GC.region ?_
  refine GL.val (Ex.load rfl T.ag3 (i := 2) rfl rfl) (by decide) ?_
  refine GL.val (v := (.int .i64 (q.tmod 4))) (Ex.rem rfl rfl (Z := q.tmod 4) ((by omega)) rfl) (by decide) ?_
  refine GL.val (v := (.int .i64 (q.tmod 4 + 4))) (Ex.add rfl rfl (Z := q.tmod 4 + 4) (w64 (by omega))) (by decide) ?_
  refine GL.val (v := (.int .i64 1)) (Ex.rem rfl rfl (Z := 1) ((by omega)) (by omega)) (by decide) ?_
  refine GL.nil ?_
  refine GE.thenN ?_
  refine GC.block ?_
  refine GC.seq ?_
  refine GC.region ?_
  refine GL.val (v := (.bool true)) (Ex.cast (Ex.eql rfl rfl) rfl) (by decide) ?_
  refine GL.val (Ex.assign rfl) (by decide) ?_
  refine GL.nil ?_
  refine GE.thenN ?_
  refine GC.cond rfl (fun _ => ?_) (fun hq3 => by cases hq3)
  refine GC.seq ?_
  refine GC.region ?_
  refine GL.val (v := (.pointer (some ⟨bp, 1, none⟩))) (Ex.cast (Ex.fieldAddr rfl Try.underlying32 rfl T.sz3 (by decide)) rfl) (by decide) ?_
  refine GL.val (Ex.load rfl T.ag3 (i := 3) rfl rfl) (by decide) ?_
  refine GL.val (v := (.pointer (some ⟨bp, 0, none⟩))) (Ex.cast (Ex.fieldAddr rfl Try.underlying32 rfl T.sz3 (by decide)) rfl) (by decide) ?_
  refine GL.val (Ex.load rfl T.ag3 (i := 3) rfl rfl) (by decide) ?_
  refine GL.val (v := (.func (.func 70) #[] #[(.pointer (some ⟨bq1, 0, none⟩)), (.pointer (some ⟨bp, 0, none⟩))])) (Ex.func (cs := [(.pointer (some ⟨bq1, 0, none⟩)), (.pointer (some ⟨bp, 0, none⟩))]) rfl (fun _ hF => hF.evals _ _ rfl)) (by decide) ?_
  refine GL.val (v := (.agg #[(.int .i64 ((H : Int))), (.int .i64 ((W : Int))), (.func (.func 70) #[] #[(.pointer (some ⟨bq1, 0, none⟩)), (.pointer (some ⟨bp, 0, none⟩))])])) (Ex.build (vs := [(0, (.int .i64 ((H : Int)))), (1, (.int .i64 ((W : Int)))), (2, (.func (.func 70) #[] #[(.pointer (some ⟨bq1, 0, none⟩)), (.pointer (some ⟨bp, 0, none⟩))]))]) rfl (by first | rfl | kernel_rfl)) (by decide) ?_
  refine GL.step (Stp.st0 (cs' := [(.int .i64 ((H : Int))), (.int .i64 ((W : Int))), (.func (.func 70) #[] #[(.pointer (some ⟨bq1, 0, none⟩)), (.pointer (some ⟨bp, 0, none⟩))])]) rfl rfl rfl T.sz91 rfl rfl rfl) (fun _ _ => ?_)
  refine GL.nil ?_
  refine GE.thenN ?_
  refine GC.ret ?_
  refine GE.blockR ?_
  refine GE.thenR ?_
  refine GC.ret1 rfl (Rv.cellA rfl T.ag91 T.sz91 (L := _) (i := 0) rfl (vs := [(.int .i64 ((H : Int))), (.int .i64 ((W : Int))), (.func (.func 70) #[] #[(.pointer (some ⟨bq1, 0, none⟩)), (.pointer (some ⟨bp, 0, none⟩))])]) rfl rfl) (fun wN HN => ?_)
  exact HN.ret bq1 trivial rfl (ulS (ulC (ulS (ulS ulN)))) rfl

set_option maxRecDepth 100000 in
set_option maxHeartbeats 1000000 in
theorem turn1_2 (W H n cap b o bp : Nat) (fid : FuncId) (caps : Array Value) (ba : Nat) (q : Int) (w : World) (h1 : w.heap[ba]? = some (.cells #[(.int .i64 q)] 3 (0, 0))) (h2 : w.heap[bp]? = some (.cells #[(.int .i64 ((W : Int))), (.int .i64 ((H : Int))), (.slice (some ⟨b, o, none⟩) n cap)] 32 (0, 0))) (hq : (q.tmod 4 + 4).tmod 4 = 2) (hq0 : -4 < q.tmod 4 ∧ q.tmod 4 < 4) :
    Calls Try.prog 69 #[(.func (.func fid) #[] caps), (.pointer (some ⟨ba, 0, none⟩)), (.pointer (some ⟨bp, 0, none⟩))] w (Ret w (fun _ : Nat => True) (fun r => (.agg #[.int .i64 (W : Int), .int .i64 (H : Int), .func (.func 71) #[] #[.pointer (some ⟨r, 0, none⟩), (.pointer (some ⟨bp, 0, none⟩))]])) (fun r => [⟨r, [.func (.func fid) #[] caps], 88, true⟩])) := by
  refine enter (M := None) (L := [⟨ba, [(.int .i64 q)], 3, false⟩, ⟨bp, [(.int .i64 ((W : Int))), (.int .i64 ((H : Int))), (.slice (some ⟨b, o, none⟩) n cap)], 32, false⟩]) (n := 39) (l := [(0, (.func (.func fid) #[] caps)), (1, (.pointer (some ⟨ba, 0, none⟩))), (2, (.pointer (some ⟨bp, 0, none⟩)))]) Try.func69 rfl rfl (Args.cons rfl (Args.cons rfl (Args.cons rfl (Args.nil _)))) (Hp.reads (Has.cons h1 (Has.cons h2 (Has.nil _))) rfl) ?_
  refine GC.seq ?_
  refine GC.region ?_
  refine GL.step (Stp.box (cs := [(.func (.func fid) #[] caps)]) rfl rfl (by decide)) (fun bq1 _ => ?_)
  refine GL.step (Stp.alloc T.zr91 (by decide)) (fun bq2 _ => ?_)
  refine GL.nil ?_
  refine GE.thenN ?_
  refine GC.seq ?_
  refine GC.seq ?_
  refine GC.region ?_
  refine GL.val (Ex.load rfl T.ag3 (i := 2) rfl rfl) (by decide) ?_
  refine GL.val (v := (.int .i64 (q.tmod 4))) (Ex.rem rfl rfl (Z := q.tmod 4) ((by omega)) rfl) (by decide) ?_
  refine GL.val (v := (.int .i64 (q.tmod 4 + 4))) (Ex.add rfl rfl (Z := q.tmod 4 + 4) (w64 (by omega))) (by decide) ?_
  refine GL.val (v := (.int .i64 2)) (Ex.rem rfl rfl (Z := 2) ((by omega)) (by omega)) (by decide) ?_
  refine GL.nil ?_
  refine GE.thenN ?_
  refine GC.block ?_
  refine GC.seq ?_
  refine GC.region ?_
  refine GL.val (v := (.bool false)) (Ex.cast (Ex.eql rfl rfl) rfl) (by decide) ?_
  refine GL.val (Ex.assign rfl) (by decide) ?_
  refine GL.nil ?_
  refine GE.thenN ?_
  refine GC.cond rfl (fun hq3 => by cases hq3) (fun _ => ?_)
  refine GC.seq ?_
  refine GC.region ?_
  refine GL.val (v := (.bool true)) (Ex.cast (Ex.eql rfl rfl) rfl) (by decide) ?_
  refine GL.val (Ex.assign rfl) (by decide) ?_
  refine GL.nil ?_
  refine GE.thenN ?_
  refine GC.cond rfl (fun _ => ?_) (fun hq4 => by cases hq4)
  refine GC.seq ?_
  refine GC.region ?_
  refine GL.val (v := (.pointer (some ⟨bp, 0, none⟩))) (Ex.cast (Ex.fieldAddr rfl Try.underlying32 rfl T.sz3 (by decide)) rfl) (by decide) ?_
  refine GL.val (Ex.load rfl T.ag3 (i := 3) rfl rfl) (by decide) ?_
  refine GL.val (v := (.pointer (some ⟨bp, 1, none⟩))) (Ex.cast (Ex.fieldAddr rfl Try.underlying32 rfl T.sz3 (by decide)) rfl) (by decide) ?_
  refine GL.val (Ex.load rfl T.ag3 (i := 3) rfl rfl) (by decide) ?_
  refine GL.val (v := (.func (.func 71) #[] #[(.pointer (some ⟨bq1, 0, none⟩)), (.pointer (some ⟨bp, 0, none⟩))])) (Ex.func (cs := [(.pointer (some ⟨bq1, 0, none⟩)), (.pointer (some ⟨bp, 0, none⟩))]) rfl (fun _ hF => hF.evals _ _ rfl)) (by decide) ?_
  refine GL.val (v := (.agg #[(.int .i64 ((W : Int))), (.int .i64 ((H : Int))), (.func (.func 71) #[] #[(.pointer (some ⟨bq1, 0, none⟩)), (.pointer (some ⟨bp, 0, none⟩))])])) (Ex.build (vs := [(0, (.int .i64 ((W : Int)))), (1, (.int .i64 ((H : Int)))), (2, (.func (.func 71) #[] #[(.pointer (some ⟨bq1, 0, none⟩)), (.pointer (some ⟨bp, 0, none⟩))]))]) rfl (by first | rfl | kernel_rfl)) (by decide) ?_
  refine GL.step (Stp.st0 (cs' := [(.int .i64 ((W : Int))), (.int .i64 ((H : Int))), (.func (.func 71) #[] #[(.pointer (some ⟨bq1, 0, none⟩)), (.pointer (some ⟨bp, 0, none⟩))])]) rfl rfl rfl T.sz91 rfl rfl rfl) (fun _ _ => ?_)
  refine GL.nil ?_
  refine GE.thenN ?_
  refine GC.ret ?_
  refine GE.blockR ?_
  refine GE.thenR ?_
  refine GC.ret1 rfl (Rv.cellA rfl T.ag91 T.sz91 (L := _) (i := 0) rfl (vs := [(.int .i64 ((W : Int))), (.int .i64 ((H : Int))), (.func (.func 71) #[] #[(.pointer (some ⟨bq1, 0, none⟩)), (.pointer (some ⟨bp, 0, none⟩))])]) rfl rfl) (fun wN HN => ?_)
  exact HN.ret bq1 trivial rfl (ulS (ulC (ulS (ulS ulN)))) rfl

set_option maxRecDepth 100000 in
set_option maxHeartbeats 1000000 in
theorem turn1_3 (W H n cap b o bp : Nat) (fid : FuncId) (caps : Array Value) (ba : Nat) (q : Int) (w : World) (h1 : w.heap[ba]? = some (.cells #[(.int .i64 q)] 3 (0, 0))) (h2 : w.heap[bp]? = some (.cells #[(.int .i64 ((W : Int))), (.int .i64 ((H : Int))), (.slice (some ⟨b, o, none⟩) n cap)] 32 (0, 0))) (hq : (q.tmod 4 + 4).tmod 4 = 3) (hq0 : -4 < q.tmod 4 ∧ q.tmod 4 < 4) :
    Calls Try.prog 69 #[(.func (.func fid) #[] caps), (.pointer (some ⟨ba, 0, none⟩)), (.pointer (some ⟨bp, 0, none⟩))] w (Ret w (fun _ : Nat => True) (fun r => (.agg #[.int .i64 (H : Int), .int .i64 (W : Int), .func (.func 72) #[] #[.pointer (some ⟨r, 0, none⟩), (.pointer (some ⟨bp, 0, none⟩))]])) (fun r => [⟨r, [.func (.func fid) #[] caps], 88, true⟩])) := by
  refine enter (M := None) (L := [⟨ba, [(.int .i64 q)], 3, false⟩, ⟨bp, [(.int .i64 ((W : Int))), (.int .i64 ((H : Int))), (.slice (some ⟨b, o, none⟩) n cap)], 32, false⟩]) (n := 39) (l := [(0, (.func (.func fid) #[] caps)), (1, (.pointer (some ⟨ba, 0, none⟩))), (2, (.pointer (some ⟨bp, 0, none⟩)))]) Try.func69 rfl rfl (Args.cons rfl (Args.cons rfl (Args.cons rfl (Args.nil _)))) (Hp.reads (Has.cons h1 (Has.cons h2 (Has.nil _))) rfl) ?_
  refine GC.seq ?_
  refine GC.region ?_
  refine GL.step (Stp.box (cs := [(.func (.func fid) #[] caps)]) rfl rfl (by decide)) (fun bq1 _ => ?_)
  refine GL.step (Stp.alloc T.zr91 (by decide)) (fun bq2 _ => ?_)
  refine GL.nil ?_
  refine GE.thenN ?_
  refine GC.seq ?_
  refine GC.seq ?_
  refine GC.region ?_
  refine GL.val (Ex.load rfl T.ag3 (i := 2) rfl rfl) (by decide) ?_
  refine GL.val (v := (.int .i64 (q.tmod 4))) (Ex.rem rfl rfl (Z := q.tmod 4) ((by omega)) rfl) (by decide) ?_
  refine GL.val (v := (.int .i64 (q.tmod 4 + 4))) (Ex.add rfl rfl (Z := q.tmod 4 + 4) (w64 (by omega))) (by decide) ?_
  refine GL.val (v := (.int .i64 3)) (Ex.rem rfl rfl (Z := 3) ((by omega)) (by omega)) (by decide) ?_
  refine GL.nil ?_
  refine GE.thenN ?_
  refine GC.block ?_
  refine GC.seq ?_
  refine GC.region ?_
  refine GL.val (v := (.bool false)) (Ex.cast (Ex.eql rfl rfl) rfl) (by decide) ?_
  refine GL.val (Ex.assign rfl) (by decide) ?_
  refine GL.nil ?_
  refine GE.thenN ?_
  refine GC.cond rfl (fun hq3 => by cases hq3) (fun _ => ?_)
  refine GC.seq ?_
  refine GC.region ?_
  refine GL.val (v := (.bool false)) (Ex.cast (Ex.eql rfl rfl) rfl) (by decide) ?_
  refine GL.val (Ex.assign rfl) (by decide) ?_
  refine GL.nil ?_
  refine GE.thenN ?_
  refine GC.cond rfl (fun hq4 => by cases hq4) (fun _ => ?_)
  refine GC.seq ?_
  refine GC.region ?_
  refine GL.val (v := (.bool true)) (Ex.cast (Ex.eql rfl rfl) rfl) (by decide) ?_
  refine GL.val (Ex.assign rfl) (by decide) ?_
  refine GL.nil ?_
  refine GE.thenN ?_
  refine GC.cond rfl (fun _ => ?_) (fun hq5 => by cases hq5)
  refine GC.seq ?_
  refine GC.region ?_
  refine GL.val (v := (.pointer (some ⟨bp, 1, none⟩))) (Ex.cast (Ex.fieldAddr rfl Try.underlying32 rfl T.sz3 (by decide)) rfl) (by decide) ?_
  refine GL.val (Ex.load rfl T.ag3 (i := 3) rfl rfl) (by decide) ?_
  refine GL.val (v := (.pointer (some ⟨bp, 0, none⟩))) (Ex.cast (Ex.fieldAddr rfl Try.underlying32 rfl T.sz3 (by decide)) rfl) (by decide) ?_
  refine GL.val (Ex.load rfl T.ag3 (i := 3) rfl rfl) (by decide) ?_
  refine GL.val (v := (.func (.func 72) #[] #[(.pointer (some ⟨bq1, 0, none⟩)), (.pointer (some ⟨bp, 0, none⟩))])) (Ex.func (cs := [(.pointer (some ⟨bq1, 0, none⟩)), (.pointer (some ⟨bp, 0, none⟩))]) rfl (fun _ hF => hF.evals _ _ rfl)) (by decide) ?_
  refine GL.val (v := (.agg #[(.int .i64 ((H : Int))), (.int .i64 ((W : Int))), (.func (.func 72) #[] #[(.pointer (some ⟨bq1, 0, none⟩)), (.pointer (some ⟨bp, 0, none⟩))])])) (Ex.build (vs := [(0, (.int .i64 ((H : Int)))), (1, (.int .i64 ((W : Int)))), (2, (.func (.func 72) #[] #[(.pointer (some ⟨bq1, 0, none⟩)), (.pointer (some ⟨bp, 0, none⟩))]))]) rfl (by first | rfl | kernel_rfl)) (by decide) ?_
  refine GL.step (Stp.st0 (cs' := [(.int .i64 ((H : Int))), (.int .i64 ((W : Int))), (.func (.func 72) #[] #[(.pointer (some ⟨bq1, 0, none⟩)), (.pointer (some ⟨bp, 0, none⟩))])]) rfl rfl rfl T.sz91 rfl rfl rfl) (fun _ _ => ?_)
  refine GL.nil ?_
  refine GE.thenN ?_
  refine GC.ret ?_
  refine GE.blockR ?_
  refine GE.thenR ?_
  refine GC.ret1 rfl (Rv.cellA rfl T.ag91 T.sz91 (L := _) (i := 0) rfl (vs := [(.int .i64 ((H : Int))), (.int .i64 ((W : Int))), (.func (.func 72) #[] #[(.pointer (some ⟨bq1, 0, none⟩)), (.pointer (some ⟨bp, 0, none⟩))])]) rfl rfl) (fun wN HN => ?_)
  exact HN.ret bq1 trivial rfl (ulS (ulC (ulS (ulS ulN)))) rfl

theorem flipT_mk (W H n cap b o bp : Nat) (ba : Nat) (wB : World) (hok : okP W H) :
    Mk Try.prog wB [⟨ba, [(.bool true)], 4, true⟩, ⟨bp, [(.int .i64 ((W : Int))), (.int .i64 ((H : Int))), (.slice (some ⟨b, o, none⟩) n cap)], 32, true⟩] 88 64 #[(.pointer (some ⟨ba, 0, none⟩)), (.pointer (some ⟨bp, 0, none⟩))] W H W H (fun g x y => g (W - 1 - x) y) := by
  refine ⟨T.own64, fun w' hk hR fid caps R g hg => (flip1T W H n cap b o bp fid caps ba w' (hR ⟨ba, [(.bool true)], 4, true⟩ (by simp)) (hR ⟨bp, [(.int .i64 ((W : Int))), (.int .i64 ((H : Int))), (.slice (some ⟨b, o, none⟩) n cap)], 32, true⟩ (by simp))).mono fun e w'' h => ?_⟩
  obtain ⟨r, he, _, hn⟩ := h
  refine ⟨(r, 65, #[.pointer (some ⟨r, 0, none⟩), (.pointer (some ⟨bp, 0, none⟩))]), he, ⟨T.own65, fun x y hx hy w3 hk3 hH => ?_⟩, hn⟩
  exact flipA x y W H n cap b o r bp fid caps g w3 (hH ⟨r, [.func (.func fid) #[] caps], 88, true⟩ (by simp)) (hH ⟨bp, [(.int .i64 ((W : Int))), (.int .i64 ((H : Int))), (.slice (some ⟨b, o, none⟩) n cap)], 32, true⟩ (by simp)) (hg.fn2 hk3 (fun k hk => hH k (by simp [hk]))) hx hy hok.2.2.1 hok.2.2.2.1

theorem flipF_mk (W H n cap b o bp : Nat) (ba : Nat) (wB : World) (hok : okP W H) :
    Mk Try.prog wB [⟨ba, [(.bool false)], 4, true⟩, ⟨bp, [(.int .i64 ((W : Int))), (.int .i64 ((H : Int))), (.slice (some ⟨b, o, none⟩) n cap)], 32, true⟩] 88 64 #[(.pointer (some ⟨ba, 0, none⟩)), (.pointer (some ⟨bp, 0, none⟩))] W H W H (fun g x y => g x (H - 1 - y)) := by
  refine ⟨T.own64, fun w' hk hR fid caps R g hg => (flip1F W H n cap b o bp fid caps ba w' (hR ⟨ba, [(.bool false)], 4, true⟩ (by simp)) (hR ⟨bp, [(.int .i64 ((W : Int))), (.int .i64 ((H : Int))), (.slice (some ⟨b, o, none⟩) n cap)], 32, true⟩ (by simp))).mono fun e w'' h => ?_⟩
  obtain ⟨r, he, _, hn⟩ := h
  refine ⟨(r, 66, #[.pointer (some ⟨r, 0, none⟩), (.pointer (some ⟨bp, 0, none⟩))]), he, ⟨T.own66, fun x y hx hy w3 hk3 hH => ?_⟩, hn⟩
  exact flipB x y W H n cap b o r bp fid caps g w3 (hH ⟨r, [.func (.func fid) #[] caps], 88, true⟩ (by simp)) (hH ⟨bp, [(.int .i64 ((W : Int))), (.int .i64 ((H : Int))), (.slice (some ⟨b, o, none⟩) n cap)], 32, true⟩ (by simp)) (hg.fn2 hk3 (fun k hk => hH k (by simp [hk]))) hx hy hok.2.2.1 hok.2.2.2.1

theorem tran_mk (W H n cap b o bp : Nat) (wB : World) (hok : okP W H) :
    Mk Try.prog wB [⟨bp, [(.int .i64 ((W : Int))), (.int .i64 ((H : Int))), (.slice (some ⟨b, o, none⟩) n cap)], 32, true⟩] 88 67 #[(.pointer (some ⟨bp, 0, none⟩))] W H H W (fun g x y => g y x) := by
  refine ⟨T.own67, fun w' hk hR fid caps R g hg => (tran1 W H n cap b o bp fid caps w' (hR ⟨bp, [(.int .i64 ((W : Int))), (.int .i64 ((H : Int))), (.slice (some ⟨b, o, none⟩) n cap)], 32, true⟩ (by simp))).mono fun e w'' h => ?_⟩
  obtain ⟨r, he, _, hn⟩ := h
  refine ⟨(r, 68, #[.pointer (some ⟨r, 0, none⟩)]), he, ⟨T.own68, fun x y hx hy w3 hk3 hH => ?_⟩, hn⟩
  exact tran x y W H n cap b o r bp fid caps g w3 (hH ⟨r, [.func (.func fid) #[] caps], 88, true⟩ (by simp)) (hg.fn2 hk3 (fun k hk => hH k (by simp [hk]))) hx hy hok.2.2.1 hok.2.2.2.1

theorem turn1_mk (W H n cap b o bp : Nat) (ba : Nat) (q : Int) (wB : World) (hok : okP W H) (hq : (q.tmod 4 + 4).tmod 4 = 1) (hq0 : -4 < q.tmod 4 ∧ q.tmod 4 < 4) :
    Mk Try.prog wB [⟨ba, [(.int .i64 q)], 3, true⟩, ⟨bp, [(.int .i64 ((W : Int))), (.int .i64 ((H : Int))), (.slice (some ⟨b, o, none⟩) n cap)], 32, true⟩] 88 69 #[(.pointer (some ⟨ba, 0, none⟩)), (.pointer (some ⟨bp, 0, none⟩))] W H H W (fun g x y => g y (H - 1 - x)) := by
  refine ⟨T.own69, fun w' hk hR fid caps R g hg => (turn1_1 W H n cap b o bp fid caps ba q w' (hR ⟨ba, [(.int .i64 q)], 3, true⟩ (by simp)) (hR ⟨bp, [(.int .i64 ((W : Int))), (.int .i64 ((H : Int))), (.slice (some ⟨b, o, none⟩) n cap)], 32, true⟩ (by simp)) hq hq0).mono fun e w'' h => ?_⟩
  obtain ⟨r, he, _, hn⟩ := h
  refine ⟨(r, 70, #[.pointer (some ⟨r, 0, none⟩), (.pointer (some ⟨bp, 0, none⟩))]), he, ⟨T.own70, fun x y hx hy w3 hk3 hH => ?_⟩, hn⟩
  exact turn1 x y W H n cap b o r bp fid caps g w3 (hH ⟨r, [.func (.func fid) #[] caps], 88, true⟩ (by simp)) (hH ⟨bp, [(.int .i64 ((W : Int))), (.int .i64 ((H : Int))), (.slice (some ⟨b, o, none⟩) n cap)], 32, true⟩ (by simp)) (hg.fn2 hk3 (fun k hk => hH k (by simp [hk]))) hx hy hok.2.2.1 hok.2.2.2.1

theorem turn2_mk (W H n cap b o bp : Nat) (ba : Nat) (q : Int) (wB : World) (hok : okP W H) (hq : (q.tmod 4 + 4).tmod 4 = 2) (hq0 : -4 < q.tmod 4 ∧ q.tmod 4 < 4) :
    Mk Try.prog wB [⟨ba, [(.int .i64 q)], 3, true⟩, ⟨bp, [(.int .i64 ((W : Int))), (.int .i64 ((H : Int))), (.slice (some ⟨b, o, none⟩) n cap)], 32, true⟩] 88 69 #[(.pointer (some ⟨ba, 0, none⟩)), (.pointer (some ⟨bp, 0, none⟩))] W H W H (fun g x y => g (W - 1 - x) (H - 1 - y)) := by
  refine ⟨T.own69, fun w' hk hR fid caps R g hg => (turn1_2 W H n cap b o bp fid caps ba q w' (hR ⟨ba, [(.int .i64 q)], 3, true⟩ (by simp)) (hR ⟨bp, [(.int .i64 ((W : Int))), (.int .i64 ((H : Int))), (.slice (some ⟨b, o, none⟩) n cap)], 32, true⟩ (by simp)) hq hq0).mono fun e w'' h => ?_⟩
  obtain ⟨r, he, _, hn⟩ := h
  refine ⟨(r, 71, #[.pointer (some ⟨r, 0, none⟩), (.pointer (some ⟨bp, 0, none⟩))]), he, ⟨T.own71, fun x y hx hy w3 hk3 hH => ?_⟩, hn⟩
  exact turn2 x y W H n cap b o r bp fid caps g w3 (hH ⟨r, [.func (.func fid) #[] caps], 88, true⟩ (by simp)) (hH ⟨bp, [(.int .i64 ((W : Int))), (.int .i64 ((H : Int))), (.slice (some ⟨b, o, none⟩) n cap)], 32, true⟩ (by simp)) (hg.fn2 hk3 (fun k hk => hH k (by simp [hk]))) hx hy hok.2.2.1 hok.2.2.2.1

theorem turn3_mk (W H n cap b o bp : Nat) (ba : Nat) (q : Int) (wB : World) (hok : okP W H) (hq : (q.tmod 4 + 4).tmod 4 = 3) (hq0 : -4 < q.tmod 4 ∧ q.tmod 4 < 4) :
    Mk Try.prog wB [⟨ba, [(.int .i64 q)], 3, true⟩, ⟨bp, [(.int .i64 ((W : Int))), (.int .i64 ((H : Int))), (.slice (some ⟨b, o, none⟩) n cap)], 32, true⟩] 88 69 #[(.pointer (some ⟨ba, 0, none⟩)), (.pointer (some ⟨bp, 0, none⟩))] W H H W (fun g x y => g (W - 1 - y) x) := by
  refine ⟨T.own69, fun w' hk hR fid caps R g hg => (turn1_3 W H n cap b o bp fid caps ba q w' (hR ⟨ba, [(.int .i64 q)], 3, true⟩ (by simp)) (hR ⟨bp, [(.int .i64 ((W : Int))), (.int .i64 ((H : Int))), (.slice (some ⟨b, o, none⟩) n cap)], 32, true⟩ (by simp)) hq hq0).mono fun e w'' h => ?_⟩
  obtain ⟨r, he, _, hn⟩ := h
  refine ⟨(r, 72, #[.pointer (some ⟨r, 0, none⟩), (.pointer (some ⟨bp, 0, none⟩))]), he, ⟨T.own72, fun x y hx hy w3 hk3 hH => ?_⟩, hn⟩
  exact turn3 x y W H n cap b o r bp fid caps g w3 (hH ⟨r, [.func (.func fid) #[] caps], 88, true⟩ (by simp)) (hH ⟨bp, [(.int .i64 ((W : Int))), (.int .i64 ((H : Int))), (.slice (some ⟨b, o, none⟩) n cap)], 32, true⟩ (by simp)) (hg.fn2 hk3 (fun k hk => hH k (by simp [hk]))) hx hy hok.2.2.1 hok.2.2.2.1

set_option maxRecDepth 100000 in
set_option maxHeartbeats 1000000 in
theorem moved (W H n cap b o W' H' : Nat) (xs : List Int) (mf : FuncId) (mcaps : Array Value) (Rm : List Blk) (G : (Nat → Nat → Int) → Nat → Nat → Int) (wB : World) (w : World) (hok : okP W H) (hn : n = W * H) (hx : xs.length = n) (hr : Rd wB b o (xs.map u32)) (hk : Keep None wB w) (hRm : Has w Rm)
    (hM : Mk Try.prog wB Rm 88 mf mcaps W H W' H' G) (hok' : okP W' H') :
    Calls Try.prog 63 #[(.agg #[(.int .i64 ((W : Int))), (.int .i64 ((H : Int))), (.slice (some ⟨b, o, none⟩) n cap)]), (.func (.func mf) #[] mcaps)] w (Ret w (fun _ : Nat => True) (fun r => .tuple #[.agg #[.int .i64 ((W' : Nat) : Int), .int .i64 ((H' : Nat) : Int), .slice (some ⟨r, 0, none⟩) (W' * H') (W' * H')], .int .i64 0]) (fun r => [⟨r, (tab W' (G (smp xs W)) (W' * H')).map u32, 72, true⟩])) := by
  refine enter (M := None) (L := []) (n := 18) (l := [(0, (.agg #[(.int .i64 ((W : Int))), (.int .i64 ((H : Int))), (.slice (some ⟨b, o, none⟩) n cap)])), (1, (.func (.func mf) #[] mcaps))]) Try.func63 rfl rfl (Args.cons rfl (Args.cons rfl (Args.nil _))) (Hp.start _ _) ?_
  refine GC.seq ?_
  refine GC.region ?_
  refine GL.step (Stp.box (cs := [(.int .i64 ((W : Int))), (.int .i64 ((H : Int))), (.slice (some ⟨b, o, none⟩) n cap)]) rfl rfl (by decide)) (fun bq1 _ => ?_)
  refine GL.step (Stp.alloc T.zr32 (by decide)) (fun bq2 _ => ?_)
  refine GL.val (Ex.assign rfl) (by decide) ?_
  refine GL.nil ?_
  refine GE.thenN ?_
  refine GC.seq ?_
  refine GC.seq ?_
  refine GC.region ?_
  refine GL.val (v := (.agg #[(.int .i64 ((W : Int))), (.int .i64 ((H : Int))), (.slice (some ⟨b, o, none⟩) n cap)])) (Ex.loadA rfl T.ag32 T.sz32 (i := 1) rfl (vs := [(.int .i64 ((W : Int))), (.int .i64 ((H : Int))), (.slice (some ⟨b, o, none⟩) n cap)]) rfl rfl) (by decide) ?_
  refine GL.step (Stp.callR (vs := [(.agg #[(.int .i64 ((W : Int))), (.int .i64 ((H : Int))), (.slice (some ⟨b, o, none⟩) n cap)])]) rfl rfl T.own36 (by decide) (fun wc hw => (check_ok W H (some ⟨b, o, none⟩) n cap wc hok hn))) (fun xq3 hq4 => ?_)
  refine GL.val (Ex.assign rfl) (by decide) ?_
  refine GL.nil ?_
  refine GE.thenN ?_
  refine GC.seq ?_
  refine GC.region ?_
  refine GL.val (Ex.move rfl) (by decide) ?_
  refine GL.val (v := (.bool false)) (Ex.cast (Ex.neq rfl rfl) rfl) (by decide) ?_
  refine GL.nil ?_
  refine GE.thenN ?_
  refine GC.cond rfl (fun hq5 => by cases hq5) (fun _ => ?_)
  refine GC.skip ?_
  refine GE.thenN ?_
  refine GC.seq ?_
  refine GC.region ?_
  refine GL.val (Ex.move rfl) (by decide) ?_
  refine GL.val (v := (.agg #[(.int .i64 ((W : Int))), (.int .i64 ((H : Int))), (.slice (some ⟨b, o, none⟩) n cap)])) (Ex.loadA rfl T.ag32 T.sz32 (i := 1) rfl (vs := [(.int .i64 ((W : Int))), (.int .i64 ((H : Int))), (.slice (some ⟨b, o, none⟩) n cap)]) rfl rfl) (by decide) ?_
  refine GL.step (Stp.callR (vs := [(.agg #[(.int .i64 ((W : Int))), (.int .i64 ((H : Int))), (.slice (some ⟨b, o, none⟩) n cap)])]) rfl rfl T.own53 (by decide) (fun wc hw => of W H n cap b o wc)) (fun xq6 hq7 => ?_)
  refine GL.step (Stp.callR (vs := [(.func (.func 75) #[] #[(.pointer (some ⟨xq6, 0, none⟩))])]) rfl rfl hM.1 (by decide) (fun wc hw => hM.2 wc (hk.two hw.1) (hRm.later hw.1) _ _ _ _ (of_fb W H n cap b o xq6 true xs wB hok hn hx hr))) (fun xq8 hq9 => ?_)
  refine GL.step (Stp.callR (vs := [(.agg #[(.int .i64 ((W' : Int))), (.int .i64 ((H' : Int))), (.func (.func xq8.2.1) #[] xq8.2.2)])]) rfl rfl T.own55 (by decide) (fun wc hw => made (W') (H') (xq8.2.1) (xq8.2.2) (G (smp xs W)) wc (hq9.fn2 (hk.two hw.1) (((Has.cons (hw.get (i := 0) rfl) (Has.nil _)).append (hRm.later hw.1)).append (Has.cons (hw.get (i := 1) rfl) (Has.nil _)))) (by obtain ⟨_, _, h, _⟩ := hok'; exact h) (by obtain ⟨_, _, _, h, _⟩ := hok'; exact h) (by obtain ⟨_, _, _, _, h⟩ := hok'; exact h))) (fun xq10 hq11 => ?_)
  refine GL.step (Stp.st3 (cs' := [(.int .i64 (((W' : Nat) : Int))), (.int .i64 (((H' : Nat) : Int))), (.slice (some ⟨xq10, 0, none⟩) ((W') * (H')) ((W') * (H')))]) rfl rfl rfl T.sz32 rfl rfl rfl) (fun _ _ => ?_)
  refine GL.val (Ex.assign rfl) (by decide) ?_
  refine GL.nil ?_
  refine GE.thenN ?_
  refine GC.ret ?_
  refine GC.ret2 rfl (Rv.cellA rfl T.ag32 T.sz32 (L := _) (i := 3) rfl (vs := [(.int .i64 (((W' : Nat) : Int))), (.int .i64 (((H' : Nat) : Int))), (.slice (some ⟨xq10, 0, none⟩) ((W') * (H')) ((W') * (H')))]) rfl rfl) (Rv.tmp rfl) (fun wN HN => ?_)
  exact HN.ret (xq10) trivial rfl (ulC (ulS (ulS (ulS (ulS ulN))))) rfl

set_option maxRecDepth 100000 in
set_option maxHeartbeats 1000000 in
theorem turn1_0 (W H n cap b o bp : Nat) (fid : FuncId) (caps : Array Value) (ba : Nat) (q : Int) (w : World) (h1 : w.heap[ba]? = some (.cells #[(.int .i64 q)] 3 (0, 0))) (h2 : w.heap[bp]? = some (.cells #[(.int .i64 ((W : Int))), (.int .i64 ((H : Int))), (.slice (some ⟨b, o, none⟩) n cap)] 32 (0, 0))) (hq : (q.tmod 4 + 4).tmod 4 = 0) (hq0 : -4 < q.tmod 4 ∧ q.tmod 4 < 4) :
    Calls Try.prog 69 #[(.func (.func fid) #[] caps), (.pointer (some ⟨ba, 0, none⟩)), (.pointer (some ⟨bp, 0, none⟩))] w (Ret w (fun _ : Nat => True) (fun r => .agg #[.int .i64 (W : Int), .int .i64 (H : Int), .func (.func fid) #[] caps]) (fun r => [⟨r, [.func (.func fid) #[] caps], 88, true⟩])) := by
  refine enter (M := None) (L := [⟨ba, [(.int .i64 q)], 3, false⟩, ⟨bp, [(.int .i64 ((W : Int))), (.int .i64 ((H : Int))), (.slice (some ⟨b, o, none⟩) n cap)], 32, false⟩]) (n := 39) (l := [(0, (.func (.func fid) #[] caps)), (1, (.pointer (some ⟨ba, 0, none⟩))), (2, (.pointer (some ⟨bp, 0, none⟩)))]) Try.func69 rfl rfl (Args.cons rfl (Args.cons rfl (Args.cons rfl (Args.nil _)))) (Hp.reads (Has.cons h1 (Has.cons h2 (Has.nil _))) rfl) ?_
  refine GC.seq ?_
  refine GC.region ?_
  refine GL.step (Stp.box (cs := [(.func (.func fid) #[] caps)]) rfl rfl (by decide)) (fun bq1 _ => ?_)
  refine GL.step (Stp.alloc T.zr91 (by decide)) (fun bq2 _ => ?_)
  refine GL.nil ?_
  refine GE.thenN ?_
  refine GC.seq ?_
  refine GC.seq ?_
  refine GC.region ?_
  refine GL.val (Ex.load rfl T.ag3 (i := 2) rfl rfl) (by decide) ?_
  refine GL.val (v := (.int .i64 (q.tmod 4))) (Ex.rem rfl rfl (Z := q.tmod 4) ((by omega)) rfl) (by decide) ?_
  refine GL.val (v := (.int .i64 (q.tmod 4 + 4))) (Ex.add rfl rfl (Z := q.tmod 4 + 4) (w64 (by omega))) (by decide) ?_
  refine GL.val (v := (.int .i64 0)) (Ex.rem rfl rfl (Z := 0) ((by omega)) (by omega)) (by decide) ?_
  refine GL.nil ?_
  refine GE.thenN ?_
  refine GC.block ?_
  refine GC.seq ?_
  refine GC.region ?_
  refine GL.val (v := (.bool false)) (Ex.cast (Ex.eql rfl rfl) rfl) (by decide) ?_
  refine GL.val (Ex.assign rfl) (by decide) ?_
  refine GL.nil ?_
  refine GE.thenN ?_
  refine GC.cond rfl (fun hq3 => by cases hq3) (fun _ => ?_)
  refine GC.seq ?_
  refine GC.region ?_
  refine GL.val (v := (.bool false)) (Ex.cast (Ex.eql rfl rfl) rfl) (by decide) ?_
  refine GL.val (Ex.assign rfl) (by decide) ?_
  refine GL.nil ?_
  refine GE.thenN ?_
  refine GC.cond rfl (fun hq4 => by cases hq4) (fun _ => ?_)
  refine GC.seq ?_
  refine GC.region ?_
  refine GL.val (v := (.bool false)) (Ex.cast (Ex.eql rfl rfl) rfl) (by decide) ?_
  refine GL.val (Ex.assign rfl) (by decide) ?_
  refine GL.nil ?_
  refine GE.thenN ?_
  refine GC.cond rfl (fun hq5 => by cases hq5) (fun _ => ?_)
  refine GC.skip ?_
  refine GE.blockN ?_
  refine GE.thenN ?_
  refine GC.seq ?_
  refine GC.region ?_
  refine GL.val (v := (.pointer (some ⟨bp, 0, none⟩))) (Ex.cast (Ex.fieldAddr rfl Try.underlying32 rfl T.sz3 (by decide)) rfl) (by decide) ?_
  refine GL.val (Ex.load rfl T.ag3 (i := 3) rfl rfl) (by decide) ?_
  refine GL.val (v := (.pointer (some ⟨bp, 1, none⟩))) (Ex.cast (Ex.fieldAddr rfl Try.underlying32 rfl T.sz3 (by decide)) rfl) (by decide) ?_
  refine GL.val (Ex.load rfl T.ag3 (i := 3) rfl rfl) (by decide) ?_
  refine GL.val (Ex.load rfl T.ag88 (i := 1) rfl rfl) (by decide) ?_
  refine GL.val (v := (.agg #[(.int .i64 ((W : Int))), (.int .i64 ((H : Int))), (.func (.func fid) #[] caps)])) (Ex.build (vs := [(0, (.int .i64 ((W : Int)))), (1, (.int .i64 ((H : Int)))), (2, (.func (.func fid) #[] caps))]) rfl (by first | rfl | kernel_rfl)) (by decide) ?_
  refine GL.step (Stp.st0 (cs' := [(.int .i64 ((W : Int))), (.int .i64 ((H : Int))), (.func (.func fid) #[] caps)]) rfl rfl rfl T.sz91 rfl rfl rfl) (fun _ _ => ?_)
  refine GL.nil ?_
  refine GE.thenN ?_
  refine GC.ret ?_
  refine GC.ret1 rfl (Rv.cellA rfl T.ag91 T.sz91 (L := _) (i := 0) rfl (vs := [(.int .i64 ((W : Int))), (.int .i64 ((H : Int))), (.func (.func fid) #[] caps)]) rfl rfl) (fun wN HN => ?_)
  exact HN.ret bq1 trivial rfl (ulS (ulC (ulS (ulS ulN)))) rfl

theorem turn0_mk (W H n cap b o bp : Nat) (ba : Nat) (q : Int) (wB : World) (hok : okP W H) (hq : (q.tmod 4 + 4).tmod 4 = 0) (hq0 : -4 < q.tmod 4 ∧ q.tmod 4 < 4) :
    Mk Try.prog wB [⟨ba, [(.int .i64 q)], 3, true⟩, ⟨bp, [(.int .i64 ((W : Int))), (.int .i64 ((H : Int))), (.slice (some ⟨b, o, none⟩) n cap)], 32, true⟩] 88 69 #[.pointer (some ⟨ba, 0, none⟩), .pointer (some ⟨bp, 0, none⟩)] W H W H (fun g x y => g x y) := by
  refine ⟨T.own69, fun w' hk hR fid caps R g hg => (turn1_0 W H n cap b o bp fid caps ba q w' (hR ⟨ba, [(.int .i64 q)], 3, true⟩ (by simp)) (hR ⟨bp, [(.int .i64 ((W : Int))), (.int .i64 ((H : Int))), (.slice (some ⟨b, o, none⟩) n cap)], 32, true⟩ (by simp)) hq hq0).mono fun e w'' h => ?_⟩
  obtain ⟨r, he, _, hn⟩ := h
  exact ⟨(r, fid, caps), he, ⟨hg.1, fun x y hx hy w3 hk3 hH => hg.2 x y hx hy w3 hk3 (fun k hk => hH k (by simp [hk]))⟩, hn⟩

set_option maxRecDepth 100000 in
set_option maxHeartbeats 1000000 in
theorem flipT (W H n cap b o : Nat) (xs : List Int) (w : World) (hok : okP W H) (hn : n = W * H) (hx : xs.length = n) (hr : Rd w b o (xs.map u32)) :
    Calls Try.prog 29 #[(.agg #[(.int .i64 ((W : Int))), (.int .i64 ((H : Int))), (.slice (some ⟨b, o, none⟩) n cap)]), (.bool true)] w (Ret w (fun _ : Nat => True) (fun r => .tuple #[.agg #[.int .i64 ((W : Nat) : Int), .int .i64 ((H : Nat) : Int), .slice (some ⟨r, 0, none⟩) (W * H) (W * H)], .int .i64 0]) (fun r => [⟨r, (tab W (fun x y => (smp xs W) (W - 1 - x) y) (W * H)).map u32, 72, true⟩])) := by
  refine enter (M := None) (L := []) (n := 11) (l := [(0, (.agg #[(.int .i64 ((W : Int))), (.int .i64 ((H : Int))), (.slice (some ⟨b, o, none⟩) n cap)])), (1, (.bool true))]) Try.func29 rfl rfl (Args.cons rfl (Args.cons rfl (Args.nil _))) (Hp.start _ _) ?_
  refine GC.seq ?_
  refine GC.region ?_
  refine GL.step (Stp.box (cs := [(.int .i64 ((W : Int))), (.int .i64 ((H : Int))), (.slice (some ⟨b, o, none⟩) n cap)]) rfl rfl (by decide)) (fun bq1 _ => ?_)
  refine GL.step (Stp.box (cs := [(.bool true)]) rfl rfl (by decide)) (fun bq2 _ => ?_)
  refine GL.step (Stp.alloc T.zr32 (by decide)) (fun bq3 _ => ?_)
  refine GL.val (Ex.assign rfl) (by decide) ?_
  refine GL.nil ?_
  refine GE.thenN ?_
  refine GC.seq ?_
  refine GC.region ?_
  refine GL.val (v := (.agg #[(.int .i64 ((W : Int))), (.int .i64 ((H : Int))), (.slice (some ⟨b, o, none⟩) n cap)])) (Ex.loadA rfl T.ag32 T.sz32 (i := 2) rfl (vs := [(.int .i64 ((W : Int))), (.int .i64 ((H : Int))), (.slice (some ⟨b, o, none⟩) n cap)]) rfl rfl) (by decide) ?_
  refine GL.val (v := (.func (.func 64) #[] #[(.pointer (some ⟨bq2, 0, none⟩)), (.pointer (some ⟨bq1, 0, none⟩))])) (Ex.func (cs := [(.pointer (some ⟨bq2, 0, none⟩)), (.pointer (some ⟨bq1, 0, none⟩))]) rfl (fun _ hF => hF.evals _ _ rfl)) (by decide) ?_
  refine GL.step (Stp.callR (vs := [(.agg #[(.int .i64 ((W : Int))), (.int .i64 ((H : Int))), (.slice (some ⟨b, o, none⟩) n cap)]), (.func (.func 64) #[] #[(.pointer (some ⟨bq2, 0, none⟩)), (.pointer (some ⟨bq1, 0, none⟩))])]) rfl rfl T.own63 (by decide) (fun wc hw => moved W H n cap b o W H xs 64 #[(.pointer (some ⟨bq2, 0, none⟩)), (.pointer (some ⟨bq1, 0, none⟩))] [⟨bq2, [(.bool true)], 4, true⟩, ⟨bq1, [(.int .i64 ((W : Int))), (.int .i64 ((H : Int))), (.slice (some ⟨b, o, none⟩) n cap)], 32, true⟩] (fun g x y => g (W - 1 - x) y) w wc hok hn hx hr hw.1 (Has.cons (hw.get (i := 1) rfl) (Has.cons (hw.get (i := 2) rfl) (Has.nil _))) (flipT_mk W H n cap b o bq1 bq2 w hok) hok)) (fun xq4 hq5 => ?_)
  refine GL.val (Ex.extract rfl rfl) (by decide) ?_
  refine GL.val (Ex.extract rfl rfl) (by decide) ?_
  refine GL.step (Stp.st1 (cs' := [(.int .i64 (((W : Nat) : Int))), (.int .i64 (((H : Nat) : Int))), (.slice (some ⟨xq4, 0, none⟩) (W * H) (W * H))]) rfl rfl rfl T.sz32 rfl rfl rfl) (fun _ _ => ?_)
  refine GL.val (Ex.assign rfl) (by decide) ?_
  refine GL.nil ?_
  refine GE.thenN ?_
  refine GC.ret ?_
  refine GC.ret2 rfl (Rv.cellA rfl T.ag32 T.sz32 (L := _) (i := 1) rfl (vs := [(.int .i64 (((W : Nat) : Int))), (.int .i64 (((H : Nat) : Int))), (.slice (some ⟨xq4, 0, none⟩) (W * H) (W * H))]) rfl rfl) (Rv.tmp rfl) (fun wN HN => ?_)
  exact HN.ret (xq4) trivial rfl (ulC (ulS (ulS (ulS ulN)))) rfl

set_option maxRecDepth 100000 in
set_option maxHeartbeats 1000000 in
theorem flipF (W H n cap b o : Nat) (xs : List Int) (w : World) (hok : okP W H) (hn : n = W * H) (hx : xs.length = n) (hr : Rd w b o (xs.map u32)) :
    Calls Try.prog 29 #[(.agg #[(.int .i64 ((W : Int))), (.int .i64 ((H : Int))), (.slice (some ⟨b, o, none⟩) n cap)]), (.bool false)] w (Ret w (fun _ : Nat => True) (fun r => .tuple #[.agg #[.int .i64 ((W : Nat) : Int), .int .i64 ((H : Nat) : Int), .slice (some ⟨r, 0, none⟩) (W * H) (W * H)], .int .i64 0]) (fun r => [⟨r, (tab W (fun x y => (smp xs W) x (H - 1 - y)) (W * H)).map u32, 72, true⟩])) := by
  refine enter (M := None) (L := []) (n := 11) (l := [(0, (.agg #[(.int .i64 ((W : Int))), (.int .i64 ((H : Int))), (.slice (some ⟨b, o, none⟩) n cap)])), (1, (.bool false))]) Try.func29 rfl rfl (Args.cons rfl (Args.cons rfl (Args.nil _))) (Hp.start _ _) ?_
  refine GC.seq ?_
  refine GC.region ?_
  refine GL.step (Stp.box (cs := [(.int .i64 ((W : Int))), (.int .i64 ((H : Int))), (.slice (some ⟨b, o, none⟩) n cap)]) rfl rfl (by decide)) (fun bq1 _ => ?_)
  refine GL.step (Stp.box (cs := [(.bool false)]) rfl rfl (by decide)) (fun bq2 _ => ?_)
  refine GL.step (Stp.alloc T.zr32 (by decide)) (fun bq3 _ => ?_)
  refine GL.val (Ex.assign rfl) (by decide) ?_
  refine GL.nil ?_
  refine GE.thenN ?_
  refine GC.seq ?_
  refine GC.region ?_
  refine GL.val (v := (.agg #[(.int .i64 ((W : Int))), (.int .i64 ((H : Int))), (.slice (some ⟨b, o, none⟩) n cap)])) (Ex.loadA rfl T.ag32 T.sz32 (i := 2) rfl (vs := [(.int .i64 ((W : Int))), (.int .i64 ((H : Int))), (.slice (some ⟨b, o, none⟩) n cap)]) rfl rfl) (by decide) ?_
  refine GL.val (v := (.func (.func 64) #[] #[(.pointer (some ⟨bq2, 0, none⟩)), (.pointer (some ⟨bq1, 0, none⟩))])) (Ex.func (cs := [(.pointer (some ⟨bq2, 0, none⟩)), (.pointer (some ⟨bq1, 0, none⟩))]) rfl (fun _ hF => hF.evals _ _ rfl)) (by decide) ?_
  refine GL.step (Stp.callR (vs := [(.agg #[(.int .i64 ((W : Int))), (.int .i64 ((H : Int))), (.slice (some ⟨b, o, none⟩) n cap)]), (.func (.func 64) #[] #[(.pointer (some ⟨bq2, 0, none⟩)), (.pointer (some ⟨bq1, 0, none⟩))])]) rfl rfl T.own63 (by decide) (fun wc hw => moved W H n cap b o W H xs 64 #[(.pointer (some ⟨bq2, 0, none⟩)), (.pointer (some ⟨bq1, 0, none⟩))] [⟨bq2, [(.bool false)], 4, true⟩, ⟨bq1, [(.int .i64 ((W : Int))), (.int .i64 ((H : Int))), (.slice (some ⟨b, o, none⟩) n cap)], 32, true⟩] (fun g x y => g x (H - 1 - y)) w wc hok hn hx hr hw.1 (Has.cons (hw.get (i := 1) rfl) (Has.cons (hw.get (i := 2) rfl) (Has.nil _))) (flipF_mk W H n cap b o bq1 bq2 w hok) hok)) (fun xq4 hq5 => ?_)
  refine GL.val (Ex.extract rfl rfl) (by decide) ?_
  refine GL.val (Ex.extract rfl rfl) (by decide) ?_
  refine GL.step (Stp.st1 (cs' := [(.int .i64 (((W : Nat) : Int))), (.int .i64 (((H : Nat) : Int))), (.slice (some ⟨xq4, 0, none⟩) (W * H) (W * H))]) rfl rfl rfl T.sz32 rfl rfl rfl) (fun _ _ => ?_)
  refine GL.val (Ex.assign rfl) (by decide) ?_
  refine GL.nil ?_
  refine GE.thenN ?_
  refine GC.ret ?_
  refine GC.ret2 rfl (Rv.cellA rfl T.ag32 T.sz32 (L := _) (i := 1) rfl (vs := [(.int .i64 (((W : Nat) : Int))), (.int .i64 (((H : Nat) : Int))), (.slice (some ⟨xq4, 0, none⟩) (W * H) (W * H))]) rfl rfl) (Rv.tmp rfl) (fun wN HN => ?_)
  exact HN.ret (xq4) trivial rfl (ulC (ulS (ulS (ulS ulN)))) rfl

set_option maxRecDepth 100000 in
set_option maxHeartbeats 1000000 in
theorem transp (W H n cap b o : Nat) (xs : List Int) (w : World) (hok : okP W H) (hn : n = W * H) (hx : xs.length = n) (hr : Rd w b o (xs.map u32)) :
    Calls Try.prog 31 #[(.agg #[(.int .i64 ((W : Int))), (.int .i64 ((H : Int))), (.slice (some ⟨b, o, none⟩) n cap)])] w (Ret w (fun _ : Nat => True) (fun r => .tuple #[.agg #[.int .i64 ((H : Nat) : Int), .int .i64 ((W : Nat) : Int), .slice (some ⟨r, 0, none⟩) (H * W) (H * W)], .int .i64 0]) (fun r => [⟨r, (tab H (fun x y => (smp xs W) y x) (H * W)).map u32, 72, true⟩])) := by
  refine enter (M := None) (L := []) (n := 9) (l := [(0, (.agg #[(.int .i64 ((W : Int))), (.int .i64 ((H : Int))), (.slice (some ⟨b, o, none⟩) n cap)]))]) Try.func31 rfl rfl (Args.cons rfl (Args.nil _)) (Hp.start _ _) ?_
  refine GC.seq ?_
  refine GC.region ?_
  refine GL.step (Stp.box (cs := [(.int .i64 ((W : Int))), (.int .i64 ((H : Int))), (.slice (some ⟨b, o, none⟩) n cap)]) rfl rfl (by decide)) (fun bq1 _ => ?_)
  refine GL.step (Stp.alloc T.zr32 (by decide)) (fun bq2 _ => ?_)
  refine GL.val (Ex.assign rfl) (by decide) ?_
  refine GL.nil ?_
  refine GE.thenN ?_
  refine GC.seq ?_
  refine GC.region ?_
  refine GL.val (v := (.agg #[(.int .i64 ((W : Int))), (.int .i64 ((H : Int))), (.slice (some ⟨b, o, none⟩) n cap)])) (Ex.loadA rfl T.ag32 T.sz32 (i := 1) rfl (vs := [(.int .i64 ((W : Int))), (.int .i64 ((H : Int))), (.slice (some ⟨b, o, none⟩) n cap)]) rfl rfl) (by decide) ?_
  refine GL.val (v := (.func (.func 67) #[] #[(.pointer (some ⟨bq1, 0, none⟩))])) (Ex.func (cs := [(.pointer (some ⟨bq1, 0, none⟩))]) rfl (fun _ hF => hF.evals _ _ rfl)) (by decide) ?_
  refine GL.step (Stp.callR (vs := [(.agg #[(.int .i64 ((W : Int))), (.int .i64 ((H : Int))), (.slice (some ⟨b, o, none⟩) n cap)]), (.func (.func 67) #[] #[(.pointer (some ⟨bq1, 0, none⟩))])]) rfl rfl T.own63 (by decide) (fun wc hw => moved W H n cap b o H W xs 67 #[(.pointer (some ⟨bq1, 0, none⟩))] [⟨bq1, [(.int .i64 ((W : Int))), (.int .i64 ((H : Int))), (.slice (some ⟨b, o, none⟩) n cap)], 32, true⟩] (fun g x y => g y x) w wc hok hn hx hr hw.1 (Has.cons (hw.get (i := 1) rfl) (Has.nil _)) (tran_mk W H n cap b o bq1 w hok) hok.swap)) (fun xq3 hq4 => ?_)
  refine GL.val (Ex.extract rfl rfl) (by decide) ?_
  refine GL.val (Ex.extract rfl rfl) (by decide) ?_
  refine GL.step (Stp.st1 (cs' := [(.int .i64 (((H : Nat) : Int))), (.int .i64 (((W : Nat) : Int))), (.slice (some ⟨xq3, 0, none⟩) (H * W) (H * W))]) rfl rfl rfl T.sz32 rfl rfl rfl) (fun _ _ => ?_)
  refine GL.val (Ex.assign rfl) (by decide) ?_
  refine GL.nil ?_
  refine GE.thenN ?_
  refine GC.ret ?_
  refine GC.ret2 rfl (Rv.cellA rfl T.ag32 T.sz32 (L := _) (i := 1) rfl (vs := [(.int .i64 (((H : Nat) : Int))), (.int .i64 (((W : Nat) : Int))), (.slice (some ⟨xq3, 0, none⟩) (H * W) (H * W))]) rfl rfl) (Rv.tmp rfl) (fun wN HN => ?_)
  exact HN.ret (xq3) trivial rfl (ulC (ulS (ulS ulN))) rfl

set_option maxRecDepth 100000 in
set_option maxHeartbeats 1000000 in
theorem turn_0 (W H n cap b o : Nat) (xs : List Int) (q : Int) (w : World) (hok : okP W H) (hn : n = W * H) (hx : xs.length = n) (hr : Rd w b o (xs.map u32)) (hq : (q.tmod 4 + 4).tmod 4 = 0) (hq0 : -4 < q.tmod 4 ∧ q.tmod 4 < 4) :
    Calls Try.prog 33 #[(.agg #[(.int .i64 ((W : Int))), (.int .i64 ((H : Int))), (.slice (some ⟨b, o, none⟩) n cap)]), (.int .i64 q)] w (Ret w (fun _ : Nat => True) (fun r => .tuple #[.agg #[.int .i64 ((W : Nat) : Int), .int .i64 ((H : Nat) : Int), .slice (some ⟨r, 0, none⟩) (W * H) (W * H)], .int .i64 0]) (fun r => [⟨r, (tab W (fun x y => (smp xs W) x y) (W * H)).map u32, 72, true⟩])) := by
  refine enter (M := None) (L := []) (n := 11) (l := [(0, (.agg #[(.int .i64 ((W : Int))), (.int .i64 ((H : Int))), (.slice (some ⟨b, o, none⟩) n cap)])), (1, (.int .i64 q))]) Try.func33 rfl rfl (Args.cons rfl (Args.cons rfl (Args.nil _))) (Hp.start _ _) ?_
  refine GC.seq ?_
  refine GC.region ?_
  refine GL.step (Stp.box (cs := [(.int .i64 ((W : Int))), (.int .i64 ((H : Int))), (.slice (some ⟨b, o, none⟩) n cap)]) rfl rfl (by decide)) (fun bq1 _ => ?_)
  refine GL.step (Stp.box (cs := [(.int .i64 q)]) rfl rfl (by decide)) (fun bq2 _ => ?_)
  refine GL.step (Stp.alloc T.zr32 (by decide)) (fun bq3 _ => ?_)
  refine GL.val (Ex.assign rfl) (by decide) ?_
  refine GL.nil ?_
  refine GE.thenN ?_
  refine GC.seq ?_
  refine GC.region ?_
  refine GL.val (v := (.agg #[(.int .i64 ((W : Int))), (.int .i64 ((H : Int))), (.slice (some ⟨b, o, none⟩) n cap)])) (Ex.loadA rfl T.ag32 T.sz32 (i := 2) rfl (vs := [(.int .i64 ((W : Int))), (.int .i64 ((H : Int))), (.slice (some ⟨b, o, none⟩) n cap)]) rfl rfl) (by decide) ?_
  refine GL.val (v := (.func (.func 69) #[] #[(.pointer (some ⟨bq2, 0, none⟩)), (.pointer (some ⟨bq1, 0, none⟩))])) (Ex.func (cs := [(.pointer (some ⟨bq2, 0, none⟩)), (.pointer (some ⟨bq1, 0, none⟩))]) rfl (fun _ hF => hF.evals _ _ rfl)) (by decide) ?_
  refine GL.step (Stp.callR (vs := [(.agg #[(.int .i64 ((W : Int))), (.int .i64 ((H : Int))), (.slice (some ⟨b, o, none⟩) n cap)]), (.func (.func 69) #[] #[(.pointer (some ⟨bq2, 0, none⟩)), (.pointer (some ⟨bq1, 0, none⟩))])]) rfl rfl T.own63 (by decide) (fun wc hw => moved W H n cap b o W H xs 69 #[(.pointer (some ⟨bq2, 0, none⟩)), (.pointer (some ⟨bq1, 0, none⟩))] [⟨bq2, [(.int .i64 q)], 3, true⟩, ⟨bq1, [(.int .i64 ((W : Int))), (.int .i64 ((H : Int))), (.slice (some ⟨b, o, none⟩) n cap)], 32, true⟩] (fun g x y => g x y) w wc hok hn hx hr hw.1 (Has.cons (hw.get (i := 1) rfl) (Has.cons (hw.get (i := 2) rfl) (Has.nil _))) (turn0_mk W H n cap b o bq1 bq2 q w hok hq hq0) hok)) (fun xq4 hq5 => ?_)
  refine GL.val (Ex.extract rfl rfl) (by decide) ?_
  refine GL.val (Ex.extract rfl rfl) (by decide) ?_
  refine GL.step (Stp.st1 (cs' := [(.int .i64 (((W : Nat) : Int))), (.int .i64 (((H : Nat) : Int))), (.slice (some ⟨xq4, 0, none⟩) (W * H) (W * H))]) rfl rfl rfl T.sz32 rfl rfl rfl) (fun _ _ => ?_)
  refine GL.val (Ex.assign rfl) (by decide) ?_
  refine GL.nil ?_
  refine GE.thenN ?_
  refine GC.ret ?_
  refine GC.ret2 rfl (Rv.cellA rfl T.ag32 T.sz32 (L := _) (i := 1) rfl (vs := [(.int .i64 (((W : Nat) : Int))), (.int .i64 (((H : Nat) : Int))), (.slice (some ⟨xq4, 0, none⟩) (W * H) (W * H))]) rfl rfl) (Rv.tmp rfl) (fun wN HN => ?_)
  exact HN.ret (xq4) trivial rfl (ulC (ulS (ulS (ulS ulN)))) rfl

set_option maxRecDepth 100000 in
set_option maxHeartbeats 1000000 in
theorem turn_1 (W H n cap b o : Nat) (xs : List Int) (q : Int) (w : World) (hok : okP W H) (hn : n = W * H) (hx : xs.length = n) (hr : Rd w b o (xs.map u32)) (hq : (q.tmod 4 + 4).tmod 4 = 1) (hq0 : -4 < q.tmod 4 ∧ q.tmod 4 < 4) :
    Calls Try.prog 33 #[(.agg #[(.int .i64 ((W : Int))), (.int .i64 ((H : Int))), (.slice (some ⟨b, o, none⟩) n cap)]), (.int .i64 q)] w (Ret w (fun _ : Nat => True) (fun r => .tuple #[.agg #[.int .i64 ((H : Nat) : Int), .int .i64 ((W : Nat) : Int), .slice (some ⟨r, 0, none⟩) (H * W) (H * W)], .int .i64 0]) (fun r => [⟨r, (tab H (fun x y => (smp xs W) y (H - 1 - x)) (H * W)).map u32, 72, true⟩])) := by
  refine enter (M := None) (L := []) (n := 11) (l := [(0, (.agg #[(.int .i64 ((W : Int))), (.int .i64 ((H : Int))), (.slice (some ⟨b, o, none⟩) n cap)])), (1, (.int .i64 q))]) Try.func33 rfl rfl (Args.cons rfl (Args.cons rfl (Args.nil _))) (Hp.start _ _) ?_
  refine GC.seq ?_
  refine GC.region ?_
  refine GL.step (Stp.box (cs := [(.int .i64 ((W : Int))), (.int .i64 ((H : Int))), (.slice (some ⟨b, o, none⟩) n cap)]) rfl rfl (by decide)) (fun bq1 _ => ?_)
  refine GL.step (Stp.box (cs := [(.int .i64 q)]) rfl rfl (by decide)) (fun bq2 _ => ?_)
  refine GL.step (Stp.alloc T.zr32 (by decide)) (fun bq3 _ => ?_)
  refine GL.val (Ex.assign rfl) (by decide) ?_
  refine GL.nil ?_
  refine GE.thenN ?_
  refine GC.seq ?_
  refine GC.region ?_
  refine GL.val (v := (.agg #[(.int .i64 ((W : Int))), (.int .i64 ((H : Int))), (.slice (some ⟨b, o, none⟩) n cap)])) (Ex.loadA rfl T.ag32 T.sz32 (i := 2) rfl (vs := [(.int .i64 ((W : Int))), (.int .i64 ((H : Int))), (.slice (some ⟨b, o, none⟩) n cap)]) rfl rfl) (by decide) ?_
  refine GL.val (v := (.func (.func 69) #[] #[(.pointer (some ⟨bq2, 0, none⟩)), (.pointer (some ⟨bq1, 0, none⟩))])) (Ex.func (cs := [(.pointer (some ⟨bq2, 0, none⟩)), (.pointer (some ⟨bq1, 0, none⟩))]) rfl (fun _ hF => hF.evals _ _ rfl)) (by decide) ?_
  refine GL.step (Stp.callR (vs := [(.agg #[(.int .i64 ((W : Int))), (.int .i64 ((H : Int))), (.slice (some ⟨b, o, none⟩) n cap)]), (.func (.func 69) #[] #[(.pointer (some ⟨bq2, 0, none⟩)), (.pointer (some ⟨bq1, 0, none⟩))])]) rfl rfl T.own63 (by decide) (fun wc hw => moved W H n cap b o H W xs 69 #[(.pointer (some ⟨bq2, 0, none⟩)), (.pointer (some ⟨bq1, 0, none⟩))] [⟨bq2, [(.int .i64 q)], 3, true⟩, ⟨bq1, [(.int .i64 ((W : Int))), (.int .i64 ((H : Int))), (.slice (some ⟨b, o, none⟩) n cap)], 32, true⟩] (fun g x y => g y (H - 1 - x)) w wc hok hn hx hr hw.1 (Has.cons (hw.get (i := 1) rfl) (Has.cons (hw.get (i := 2) rfl) (Has.nil _))) (turn1_mk W H n cap b o bq1 bq2 q w hok hq hq0) hok.swap)) (fun xq4 hq5 => ?_)
  refine GL.val (Ex.extract rfl rfl) (by decide) ?_
  refine GL.val (Ex.extract rfl rfl) (by decide) ?_
  refine GL.step (Stp.st1 (cs' := [(.int .i64 (((H : Nat) : Int))), (.int .i64 (((W : Nat) : Int))), (.slice (some ⟨xq4, 0, none⟩) (H * W) (H * W))]) rfl rfl rfl T.sz32 rfl rfl rfl) (fun _ _ => ?_)
  refine GL.val (Ex.assign rfl) (by decide) ?_
  refine GL.nil ?_
  refine GE.thenN ?_
  refine GC.ret ?_
  refine GC.ret2 rfl (Rv.cellA rfl T.ag32 T.sz32 (L := _) (i := 1) rfl (vs := [(.int .i64 (((H : Nat) : Int))), (.int .i64 (((W : Nat) : Int))), (.slice (some ⟨xq4, 0, none⟩) (H * W) (H * W))]) rfl rfl) (Rv.tmp rfl) (fun wN HN => ?_)
  exact HN.ret (xq4) trivial rfl (ulC (ulS (ulS (ulS ulN)))) rfl

set_option maxRecDepth 100000 in
set_option maxHeartbeats 1000000 in
theorem turn_2 (W H n cap b o : Nat) (xs : List Int) (q : Int) (w : World) (hok : okP W H) (hn : n = W * H) (hx : xs.length = n) (hr : Rd w b o (xs.map u32)) (hq : (q.tmod 4 + 4).tmod 4 = 2) (hq0 : -4 < q.tmod 4 ∧ q.tmod 4 < 4) :
    Calls Try.prog 33 #[(.agg #[(.int .i64 ((W : Int))), (.int .i64 ((H : Int))), (.slice (some ⟨b, o, none⟩) n cap)]), (.int .i64 q)] w (Ret w (fun _ : Nat => True) (fun r => .tuple #[.agg #[.int .i64 ((W : Nat) : Int), .int .i64 ((H : Nat) : Int), .slice (some ⟨r, 0, none⟩) (W * H) (W * H)], .int .i64 0]) (fun r => [⟨r, (tab W (fun x y => (smp xs W) (W - 1 - x) (H - 1 - y)) (W * H)).map u32, 72, true⟩])) := by
  refine enter (M := None) (L := []) (n := 11) (l := [(0, (.agg #[(.int .i64 ((W : Int))), (.int .i64 ((H : Int))), (.slice (some ⟨b, o, none⟩) n cap)])), (1, (.int .i64 q))]) Try.func33 rfl rfl (Args.cons rfl (Args.cons rfl (Args.nil _))) (Hp.start _ _) ?_
  refine GC.seq ?_
  refine GC.region ?_
  refine GL.step (Stp.box (cs := [(.int .i64 ((W : Int))), (.int .i64 ((H : Int))), (.slice (some ⟨b, o, none⟩) n cap)]) rfl rfl (by decide)) (fun bq1 _ => ?_)
  refine GL.step (Stp.box (cs := [(.int .i64 q)]) rfl rfl (by decide)) (fun bq2 _ => ?_)
  refine GL.step (Stp.alloc T.zr32 (by decide)) (fun bq3 _ => ?_)
  refine GL.val (Ex.assign rfl) (by decide) ?_
  refine GL.nil ?_
  refine GE.thenN ?_
  refine GC.seq ?_
  refine GC.region ?_
  refine GL.val (v := (.agg #[(.int .i64 ((W : Int))), (.int .i64 ((H : Int))), (.slice (some ⟨b, o, none⟩) n cap)])) (Ex.loadA rfl T.ag32 T.sz32 (i := 2) rfl (vs := [(.int .i64 ((W : Int))), (.int .i64 ((H : Int))), (.slice (some ⟨b, o, none⟩) n cap)]) rfl rfl) (by decide) ?_
  refine GL.val (v := (.func (.func 69) #[] #[(.pointer (some ⟨bq2, 0, none⟩)), (.pointer (some ⟨bq1, 0, none⟩))])) (Ex.func (cs := [(.pointer (some ⟨bq2, 0, none⟩)), (.pointer (some ⟨bq1, 0, none⟩))]) rfl (fun _ hF => hF.evals _ _ rfl)) (by decide) ?_
  refine GL.step (Stp.callR (vs := [(.agg #[(.int .i64 ((W : Int))), (.int .i64 ((H : Int))), (.slice (some ⟨b, o, none⟩) n cap)]), (.func (.func 69) #[] #[(.pointer (some ⟨bq2, 0, none⟩)), (.pointer (some ⟨bq1, 0, none⟩))])]) rfl rfl T.own63 (by decide) (fun wc hw => moved W H n cap b o W H xs 69 #[(.pointer (some ⟨bq2, 0, none⟩)), (.pointer (some ⟨bq1, 0, none⟩))] [⟨bq2, [(.int .i64 q)], 3, true⟩, ⟨bq1, [(.int .i64 ((W : Int))), (.int .i64 ((H : Int))), (.slice (some ⟨b, o, none⟩) n cap)], 32, true⟩] (fun g x y => g (W - 1 - x) (H - 1 - y)) w wc hok hn hx hr hw.1 (Has.cons (hw.get (i := 1) rfl) (Has.cons (hw.get (i := 2) rfl) (Has.nil _))) (turn2_mk W H n cap b o bq1 bq2 q w hok hq hq0) hok)) (fun xq4 hq5 => ?_)
  refine GL.val (Ex.extract rfl rfl) (by decide) ?_
  refine GL.val (Ex.extract rfl rfl) (by decide) ?_
  refine GL.step (Stp.st1 (cs' := [(.int .i64 (((W : Nat) : Int))), (.int .i64 (((H : Nat) : Int))), (.slice (some ⟨xq4, 0, none⟩) (W * H) (W * H))]) rfl rfl rfl T.sz32 rfl rfl rfl) (fun _ _ => ?_)
  refine GL.val (Ex.assign rfl) (by decide) ?_
  refine GL.nil ?_
  refine GE.thenN ?_
  refine GC.ret ?_
  refine GC.ret2 rfl (Rv.cellA rfl T.ag32 T.sz32 (L := _) (i := 1) rfl (vs := [(.int .i64 (((W : Nat) : Int))), (.int .i64 (((H : Nat) : Int))), (.slice (some ⟨xq4, 0, none⟩) (W * H) (W * H))]) rfl rfl) (Rv.tmp rfl) (fun wN HN => ?_)
  exact HN.ret (xq4) trivial rfl (ulC (ulS (ulS (ulS ulN)))) rfl

set_option maxRecDepth 100000 in
set_option maxHeartbeats 1000000 in
theorem turn_3 (W H n cap b o : Nat) (xs : List Int) (q : Int) (w : World) (hok : okP W H) (hn : n = W * H) (hx : xs.length = n) (hr : Rd w b o (xs.map u32)) (hq : (q.tmod 4 + 4).tmod 4 = 3) (hq0 : -4 < q.tmod 4 ∧ q.tmod 4 < 4) :
    Calls Try.prog 33 #[(.agg #[(.int .i64 ((W : Int))), (.int .i64 ((H : Int))), (.slice (some ⟨b, o, none⟩) n cap)]), (.int .i64 q)] w (Ret w (fun _ : Nat => True) (fun r => .tuple #[.agg #[.int .i64 ((H : Nat) : Int), .int .i64 ((W : Nat) : Int), .slice (some ⟨r, 0, none⟩) (H * W) (H * W)], .int .i64 0]) (fun r => [⟨r, (tab H (fun x y => (smp xs W) (W - 1 - y) x) (H * W)).map u32, 72, true⟩])) := by
  refine enter (M := None) (L := []) (n := 11) (l := [(0, (.agg #[(.int .i64 ((W : Int))), (.int .i64 ((H : Int))), (.slice (some ⟨b, o, none⟩) n cap)])), (1, (.int .i64 q))]) Try.func33 rfl rfl (Args.cons rfl (Args.cons rfl (Args.nil _))) (Hp.start _ _) ?_
  refine GC.seq ?_
  refine GC.region ?_
  refine GL.step (Stp.box (cs := [(.int .i64 ((W : Int))), (.int .i64 ((H : Int))), (.slice (some ⟨b, o, none⟩) n cap)]) rfl rfl (by decide)) (fun bq1 _ => ?_)
  refine GL.step (Stp.box (cs := [(.int .i64 q)]) rfl rfl (by decide)) (fun bq2 _ => ?_)
  refine GL.step (Stp.alloc T.zr32 (by decide)) (fun bq3 _ => ?_)
  refine GL.val (Ex.assign rfl) (by decide) ?_
  refine GL.nil ?_
  refine GE.thenN ?_
  refine GC.seq ?_
  refine GC.region ?_
  refine GL.val (v := (.agg #[(.int .i64 ((W : Int))), (.int .i64 ((H : Int))), (.slice (some ⟨b, o, none⟩) n cap)])) (Ex.loadA rfl T.ag32 T.sz32 (i := 2) rfl (vs := [(.int .i64 ((W : Int))), (.int .i64 ((H : Int))), (.slice (some ⟨b, o, none⟩) n cap)]) rfl rfl) (by decide) ?_
  refine GL.val (v := (.func (.func 69) #[] #[(.pointer (some ⟨bq2, 0, none⟩)), (.pointer (some ⟨bq1, 0, none⟩))])) (Ex.func (cs := [(.pointer (some ⟨bq2, 0, none⟩)), (.pointer (some ⟨bq1, 0, none⟩))]) rfl (fun _ hF => hF.evals _ _ rfl)) (by decide) ?_
  refine GL.step (Stp.callR (vs := [(.agg #[(.int .i64 ((W : Int))), (.int .i64 ((H : Int))), (.slice (some ⟨b, o, none⟩) n cap)]), (.func (.func 69) #[] #[(.pointer (some ⟨bq2, 0, none⟩)), (.pointer (some ⟨bq1, 0, none⟩))])]) rfl rfl T.own63 (by decide) (fun wc hw => moved W H n cap b o H W xs 69 #[(.pointer (some ⟨bq2, 0, none⟩)), (.pointer (some ⟨bq1, 0, none⟩))] [⟨bq2, [(.int .i64 q)], 3, true⟩, ⟨bq1, [(.int .i64 ((W : Int))), (.int .i64 ((H : Int))), (.slice (some ⟨b, o, none⟩) n cap)], 32, true⟩] (fun g x y => g (W - 1 - y) x) w wc hok hn hx hr hw.1 (Has.cons (hw.get (i := 1) rfl) (Has.cons (hw.get (i := 2) rfl) (Has.nil _))) (turn3_mk W H n cap b o bq1 bq2 q w hok hq hq0) hok.swap)) (fun xq4 hq5 => ?_)
  refine GL.val (Ex.extract rfl rfl) (by decide) ?_
  refine GL.val (Ex.extract rfl rfl) (by decide) ?_
  refine GL.step (Stp.st1 (cs' := [(.int .i64 (((H : Nat) : Int))), (.int .i64 (((W : Nat) : Int))), (.slice (some ⟨xq4, 0, none⟩) (H * W) (H * W))]) rfl rfl rfl T.sz32 rfl rfl rfl) (fun _ _ => ?_)
  refine GL.val (Ex.assign rfl) (by decide) ?_
  refine GL.nil ?_
  refine GE.thenN ?_
  refine GC.ret ?_
  refine GC.ret2 rfl (Rv.cellA rfl T.ag32 T.sz32 (L := _) (i := 1) rfl (vs := [(.int .i64 (((H : Nat) : Int))), (.int .i64 (((W : Nat) : Int))), (.slice (some ⟨xq4, 0, none⟩) (H * W) (H * W))]) rfl rfl) (Rv.tmp rfl) (fun wN HN => ?_)
  exact HN.ret (xq4) trivial rfl (ulC (ulS (ulS (ulS ulN)))) rfl

set_option maxRecDepth 100000 in
set_option maxHeartbeats 1000000 in
theorem moved_inv (W H : Int) (ad : Option Addr) (n cap : Nat) (mf : FuncId) (mcaps : Array Value) (w : World) (hc : chk W H n ≠ 0) :
    Calls Try.prog 63 #[(.agg #[(.int .i64 W), (.int .i64 H), (.slice ad n cap)]), (.func (.func mf) #[] mcaps)] w (Ret w (fun _ : Unit => True) (fun _ => .tuple #[(.agg #[.int .i64 0, .int .i64 0, .slice none 0 0]), .int .i64 (chk W H n)]) (fun _ => [])) := by
  refine enter (M := None) (L := []) (n := 18) (l := [(0, (.agg #[(.int .i64 W), (.int .i64 H), (.slice ad n cap)])), (1, (.func (.func mf) #[] mcaps))]) Try.func63 rfl rfl (Args.cons rfl (Args.cons rfl (Args.nil _))) (Hp.start _ _) ?_
  refine GC.seq ?_
  refine GC.region ?_
  refine GL.step (Stp.box (cs := [(.int .i64 W), (.int .i64 H), (.slice ad n cap)]) rfl rfl (by decide)) (fun bq1 _ => ?_)
  refine GL.step (Stp.alloc T.zr32 (by decide)) (fun bq2 _ => ?_)
  refine GL.val (Ex.assign rfl) (by decide) ?_
  refine GL.nil ?_
  refine GE.thenN ?_
  refine GC.seq ?_
  refine GC.seq ?_
  refine GC.region ?_
  refine GL.val (v := (.agg #[(.int .i64 W), (.int .i64 H), (.slice ad n cap)])) (Ex.loadA rfl T.ag32 T.sz32 (i := 1) rfl (vs := [(.int .i64 W), (.int .i64 H), (.slice ad n cap)]) rfl rfl) (by decide) ?_
  refine GL.step (Stp.callR (vs := [(.agg #[(.int .i64 W), (.int .i64 H), (.slice ad n cap)])]) rfl rfl T.own36 (by decide) (fun wc hw => check W H ad n cap wc)) (fun xq3 hq4 => ?_)
  refine GL.val (Ex.assign rfl) (by decide) ?_
  refine GL.nil ?_
  refine GE.thenN ?_
  refine GC.seq ?_
  refine GC.region ?_
  refine GL.val (Ex.move rfl) (by decide) ?_
  refine GL.val (v := (.bool (decide ((chk W H n) ≠ 0)))) (Ex.neq rfl rfl) (by decide) ?_
  refine GL.nil ?_
  refine GE.thenN ?_
  refine GC.cond rfl (fun _ => ?_) (fun hq5 => by exfalso; have hq5 := of_decide_eq_false hq5; omega)
  refine GC.seq ?_
  refine GC.region ?_
  refine GL.val (v := (.agg #[(.int .i64 0), (.int .i64 0), (.slice none 0 0)])) (Ex.build (vs := []) rfl (by first | rfl | kernel_rfl)) (by decide) ?_
  refine GL.val (Ex.move rfl) (by decide) ?_
  refine GL.step (Stp.st0 (cs' := [(.int .i64 0), (.int .i64 0), (.slice none 0 0)]) rfl rfl rfl T.sz32 rfl rfl rfl) (fun _ _ => ?_)
  refine GL.val (Ex.assign rfl) (by decide) ?_
  refine GL.nil ?_
  refine GE.thenN ?_
  refine GC.ret ?_
  refine GE.thenR ?_
  refine GC.ret2 rfl (Rv.cellA rfl T.ag32 T.sz32 (L := _) (i := 0) rfl (vs := [(.int .i64 0), (.int .i64 0), (.slice none 0 0)]) rfl rfl) (Rv.tmp rfl) (fun wN HN => ?_)
  exact HN.ret () trivial rfl (List.nil_sublist _) rfl

set_option maxRecDepth 100000 in
set_option maxHeartbeats 1000000 in
theorem flip_inv (W H : Int) (ad : Option Addr) (n cap : Nat) (ac : Bool) (w : World) (hc : chk W H n ≠ 0) :
    Calls Try.prog 29 #[(.agg #[(.int .i64 W), (.int .i64 H), (.slice ad n cap)]), (.bool ac)] w (Ret w (fun _ : Unit => True) (fun _ => .tuple #[(.agg #[.int .i64 0, .int .i64 0, .slice none 0 0]), .int .i64 (chk W H n)]) (fun _ => [])) := by
  refine enter (M := None) (L := []) (n := 11) (l := [(0, (.agg #[(.int .i64 W), (.int .i64 H), (.slice ad n cap)])), (1, (.bool ac))]) Try.func29 rfl rfl (Args.cons rfl (Args.cons rfl (Args.nil _))) (Hp.start _ _) ?_
  refine GC.seq ?_
  refine GC.region ?_
  refine GL.step (Stp.box (cs := [(.int .i64 W), (.int .i64 H), (.slice ad n cap)]) rfl rfl (by decide)) (fun bq1 _ => ?_)
  refine GL.step (Stp.box (cs := [(.bool ac)]) rfl rfl (by decide)) (fun bq2 _ => ?_)
  refine GL.step (Stp.alloc T.zr32 (by decide)) (fun bq3 _ => ?_)
  refine GL.val (Ex.assign rfl) (by decide) ?_
  refine GL.nil ?_
  refine GE.thenN ?_
  refine GC.seq ?_
  refine GC.region ?_
  refine GL.val (v := (.agg #[(.int .i64 W), (.int .i64 H), (.slice ad n cap)])) (Ex.loadA rfl T.ag32 T.sz32 (i := 2) rfl (vs := [(.int .i64 W), (.int .i64 H), (.slice ad n cap)]) rfl rfl) (by decide) ?_
  refine GL.val (v := (.func (.func 64) #[] #[(.pointer (some ⟨bq2, 0, none⟩)), (.pointer (some ⟨bq1, 0, none⟩))])) (Ex.func (cs := [(.pointer (some ⟨bq2, 0, none⟩)), (.pointer (some ⟨bq1, 0, none⟩))]) rfl (fun _ hF => hF.evals _ _ rfl)) (by decide) ?_
  refine GL.step (Stp.callR (vs := [(.agg #[(.int .i64 W), (.int .i64 H), (.slice ad n cap)]), (.func (.func 64) #[] #[(.pointer (some ⟨bq2, 0, none⟩)), (.pointer (some ⟨bq1, 0, none⟩))])]) rfl rfl T.own63 (by decide) (fun wc hw => moved_inv W H ad n cap 64 #[(.pointer (some ⟨bq2, 0, none⟩)), (.pointer (some ⟨bq1, 0, none⟩))] wc hc)) (fun xq4 hq5 => ?_)
  refine GL.val (Ex.extract rfl rfl) (by decide) ?_
  refine GL.val (Ex.extract rfl rfl) (by decide) ?_
  refine GL.step (Stp.st0 (cs' := [(.int .i64 0), (.int .i64 0), (.slice none 0 0)]) rfl rfl rfl T.sz32 rfl rfl rfl) (fun _ _ => ?_)
  refine GL.val (Ex.assign rfl) (by decide) ?_
  refine GL.nil ?_
  refine GE.thenN ?_
  refine GC.ret ?_
  refine GC.ret2 rfl (Rv.cellA rfl T.ag32 T.sz32 (L := _) (i := 0) rfl (vs := [(.int .i64 0), (.int .i64 0), (.slice none 0 0)]) rfl rfl) (Rv.tmp rfl) (fun wN HN => ?_)
  exact HN.ret () trivial rfl (List.nil_sublist _) rfl

set_option maxRecDepth 100000 in
set_option maxHeartbeats 1000000 in
theorem transp_inv (W H : Int) (ad : Option Addr) (n cap : Nat) (w : World) (hc : chk W H n ≠ 0) :
    Calls Try.prog 31 #[(.agg #[(.int .i64 W), (.int .i64 H), (.slice ad n cap)])] w (Ret w (fun _ : Unit => True) (fun _ => .tuple #[(.agg #[.int .i64 0, .int .i64 0, .slice none 0 0]), .int .i64 (chk W H n)]) (fun _ => [])) := by
  refine enter (M := None) (L := []) (n := 9) (l := [(0, (.agg #[(.int .i64 W), (.int .i64 H), (.slice ad n cap)]))]) Try.func31 rfl rfl (Args.cons rfl (Args.nil _)) (Hp.start _ _) ?_
  refine GC.seq ?_
  refine GC.region ?_
  refine GL.step (Stp.box (cs := [(.int .i64 W), (.int .i64 H), (.slice ad n cap)]) rfl rfl (by decide)) (fun bq1 _ => ?_)
  refine GL.step (Stp.alloc T.zr32 (by decide)) (fun bq2 _ => ?_)
  refine GL.val (Ex.assign rfl) (by decide) ?_
  refine GL.nil ?_
  refine GE.thenN ?_
  refine GC.seq ?_
  refine GC.region ?_
  refine GL.val (v := (.agg #[(.int .i64 W), (.int .i64 H), (.slice ad n cap)])) (Ex.loadA rfl T.ag32 T.sz32 (i := 1) rfl (vs := [(.int .i64 W), (.int .i64 H), (.slice ad n cap)]) rfl rfl) (by decide) ?_
  refine GL.val (v := (.func (.func 67) #[] #[(.pointer (some ⟨bq1, 0, none⟩))])) (Ex.func (cs := [(.pointer (some ⟨bq1, 0, none⟩))]) rfl (fun _ hF => hF.evals _ _ rfl)) (by decide) ?_
  refine GL.step (Stp.callR (vs := [(.agg #[(.int .i64 W), (.int .i64 H), (.slice ad n cap)]), (.func (.func 67) #[] #[(.pointer (some ⟨bq1, 0, none⟩))])]) rfl rfl T.own63 (by decide) (fun wc hw => moved_inv W H ad n cap 67 #[(.pointer (some ⟨bq1, 0, none⟩))] wc hc)) (fun xq3 hq4 => ?_)
  refine GL.val (Ex.extract rfl rfl) (by decide) ?_
  refine GL.val (Ex.extract rfl rfl) (by decide) ?_
  refine GL.step (Stp.st0 (cs' := [(.int .i64 0), (.int .i64 0), (.slice none 0 0)]) rfl rfl rfl T.sz32 rfl rfl rfl) (fun _ _ => ?_)
  refine GL.val (Ex.assign rfl) (by decide) ?_
  refine GL.nil ?_
  refine GE.thenN ?_
  refine GC.ret ?_
  refine GC.ret2 rfl (Rv.cellA rfl T.ag32 T.sz32 (L := _) (i := 0) rfl (vs := [(.int .i64 0), (.int .i64 0), (.slice none 0 0)]) rfl rfl) (Rv.tmp rfl) (fun wN HN => ?_)
  exact HN.ret () trivial rfl (List.nil_sublist _) rfl

set_option maxRecDepth 100000 in
set_option maxHeartbeats 1000000 in
theorem turn_inv (W H : Int) (ad : Option Addr) (n cap : Nat) (q : Int) (w : World) (hc : chk W H n ≠ 0) :
    Calls Try.prog 33 #[(.agg #[(.int .i64 W), (.int .i64 H), (.slice ad n cap)]), (.int .i64 q)] w (Ret w (fun _ : Unit => True) (fun _ => .tuple #[(.agg #[.int .i64 0, .int .i64 0, .slice none 0 0]), .int .i64 (chk W H n)]) (fun _ => [])) := by
  refine enter (M := None) (L := []) (n := 11) (l := [(0, (.agg #[(.int .i64 W), (.int .i64 H), (.slice ad n cap)])), (1, (.int .i64 q))]) Try.func33 rfl rfl (Args.cons rfl (Args.cons rfl (Args.nil _))) (Hp.start _ _) ?_
  refine GC.seq ?_
  refine GC.region ?_
  refine GL.step (Stp.box (cs := [(.int .i64 W), (.int .i64 H), (.slice ad n cap)]) rfl rfl (by decide)) (fun bq1 _ => ?_)
  refine GL.step (Stp.box (cs := [(.int .i64 q)]) rfl rfl (by decide)) (fun bq2 _ => ?_)
  refine GL.step (Stp.alloc T.zr32 (by decide)) (fun bq3 _ => ?_)
  refine GL.val (Ex.assign rfl) (by decide) ?_
  refine GL.nil ?_
  refine GE.thenN ?_
  refine GC.seq ?_
  refine GC.region ?_
  refine GL.val (v := (.agg #[(.int .i64 W), (.int .i64 H), (.slice ad n cap)])) (Ex.loadA rfl T.ag32 T.sz32 (i := 2) rfl (vs := [(.int .i64 W), (.int .i64 H), (.slice ad n cap)]) rfl rfl) (by decide) ?_
  refine GL.val (v := (.func (.func 69) #[] #[(.pointer (some ⟨bq2, 0, none⟩)), (.pointer (some ⟨bq1, 0, none⟩))])) (Ex.func (cs := [(.pointer (some ⟨bq2, 0, none⟩)), (.pointer (some ⟨bq1, 0, none⟩))]) rfl (fun _ hF => hF.evals _ _ rfl)) (by decide) ?_
  refine GL.step (Stp.callR (vs := [(.agg #[(.int .i64 W), (.int .i64 H), (.slice ad n cap)]), (.func (.func 69) #[] #[(.pointer (some ⟨bq2, 0, none⟩)), (.pointer (some ⟨bq1, 0, none⟩))])]) rfl rfl T.own63 (by decide) (fun wc hw => moved_inv W H ad n cap 69 #[(.pointer (some ⟨bq2, 0, none⟩)), (.pointer (some ⟨bq1, 0, none⟩))] wc hc)) (fun xq4 hq5 => ?_)
  refine GL.val (Ex.extract rfl rfl) (by decide) ?_
  refine GL.val (Ex.extract rfl rfl) (by decide) ?_
  refine GL.step (Stp.st0 (cs' := [(.int .i64 0), (.int .i64 0), (.slice none 0 0)]) rfl rfl rfl T.sz32 rfl rfl rfl) (fun _ _ => ?_)
  refine GL.val (Ex.assign rfl) (by decide) ?_
  refine GL.nil ?_
  refine GE.thenN ?_
  refine GC.ret ?_
  refine GC.ret2 rfl (Rv.cellA rfl T.ag32 T.sz32 (L := _) (i := 0) rfl (vs := [(.int .i64 0), (.int .i64 0), (.slice none 0 0)]) rfl rfl) (Rv.tmp rfl) (fun wN HN => ?_)
  exact HN.ret () trivial rfl (List.nil_sublist _) rfl

set_option maxRecDepth 100000 in
set_option maxHeartbeats 1000000 in
theorem crop_inv (W H : Int) (ad : Option Addr) (n cap : Nat) (X0 Y0 X1 Y1 : Int) (w : World) (hc : chk W H n ≠ 0) :
    Calls Try.prog 24 #[(.agg #[(.int .i64 W), (.int .i64 H), (.slice ad n cap)]), (.agg #[(.int .i64 X0), (.int .i64 Y0), (.int .i64 X1), (.int .i64 Y1)])] w (Ret w (fun _ : Unit => True) (fun _ => .tuple #[(.agg #[.int .i64 0, .int .i64 0, .slice none 0 0]), .int .i64 (chk W H n)]) (fun _ => [])) := by
  refine enter (M := None) (L := []) (n := 66) (l := [(0, (.agg #[(.int .i64 W), (.int .i64 H), (.slice ad n cap)])), (1, (.agg #[(.int .i64 X0), (.int .i64 Y0), (.int .i64 X1), (.int .i64 Y1)]))]) Try.func24 rfl rfl (Args.cons rfl (Args.cons rfl (Args.nil _))) (Hp.start _ _) ?_
  refine GC.seq ?_
  refine GC.region ?_
  refine GL.step (Stp.box (cs := [(.int .i64 W), (.int .i64 H), (.slice ad n cap)]) rfl rfl (by decide)) (fun bq1 _ => ?_)
  refine GL.step (Stp.box (cs := [(.int .i64 X0), (.int .i64 Y0), (.int .i64 X1), (.int .i64 Y1)]) rfl rfl (by decide)) (fun bq2 _ => ?_)
  refine GL.step (Stp.alloc T.zr32 (by decide)) (fun bq3 _ => ?_)
  refine GL.val (Ex.assign rfl) (by decide) ?_
  refine GL.nil ?_
  refine GE.thenN ?_
  refine GC.seq ?_
  refine GC.seq ?_
  refine GC.region ?_
  refine GL.val (v := (.agg #[(.int .i64 W), (.int .i64 H), (.slice ad n cap)])) (Ex.loadA rfl T.ag32 T.sz32 (i := 2) rfl (vs := [(.int .i64 W), (.int .i64 H), (.slice ad n cap)]) rfl rfl) (by decide) ?_
  refine GL.step (Stp.callR (vs := [(.agg #[(.int .i64 W), (.int .i64 H), (.slice ad n cap)])]) rfl rfl T.own36 (by decide) (fun wc hw => check W H ad n cap wc)) (fun xq4 hq5 => ?_)
  refine GL.val (Ex.assign rfl) (by decide) ?_
  refine GL.nil ?_
  refine GE.thenN ?_
  refine GC.seq ?_
  refine GC.region ?_
  refine GL.val (Ex.move rfl) (by decide) ?_
  refine GL.val (v := (.bool (decide ((chk W H n) ≠ 0)))) (Ex.neq rfl rfl) (by decide) ?_
  refine GL.nil ?_
  refine GE.thenN ?_
  refine GC.cond rfl (fun _ => ?_) (fun hq6 => by exfalso; have hq6 := of_decide_eq_false hq6; omega)
  refine GC.seq ?_
  refine GC.region ?_
  refine GL.val (v := (.agg #[(.int .i64 0), (.int .i64 0), (.slice none 0 0)])) (Ex.build (vs := []) rfl (by first | rfl | kernel_rfl)) (by decide) ?_
  refine GL.val (Ex.move rfl) (by decide) ?_
  refine GL.step (Stp.st0 (cs' := [(.int .i64 0), (.int .i64 0), (.slice none 0 0)]) rfl rfl rfl T.sz32 rfl rfl rfl) (fun _ _ => ?_)
  refine GL.val (Ex.assign rfl) (by decide) ?_
  refine GL.nil ?_
  refine GE.thenN ?_
  refine GC.ret ?_
  refine GE.thenR ?_
  refine GC.ret2 rfl (Rv.cellA rfl T.ag32 T.sz32 (L := _) (i := 0) rfl (vs := [(.int .i64 0), (.int .i64 0), (.slice none 0 0)]) rfl rfl) (Rv.tmp rfl) (fun wN HN => ?_)
  exact HN.ret () trivial rfl (List.nil_sublist _) rfl

set_option maxRecDepth 100000 in
set_option maxHeartbeats 1000000 in
theorem crop_out (W H n cap : Nat) (ad : Option Addr) (X0 Y0 X1 Y1 : Int) (w : World) (hok : okP W H) (hn : n = W * H) (hR : ¬ (0 ≤ X0 ∧ X0 < X1 ∧ X1 ≤ W ∧ 0 ≤ Y0 ∧ Y0 < Y1 ∧ Y1 ≤ H)) :
    Calls Try.prog 24 #[(.agg #[(.int .i64 ((W : Int))), (.int .i64 ((H : Int))), (.slice ad n cap)]), (.agg #[(.int .i64 X0), (.int .i64 Y0), (.int .i64 X1), (.int .i64 Y1)])] w (Ret w (fun _ : Unit => True) (fun _ => .tuple #[(.agg #[.int .i64 0, .int .i64 0, .slice none 0 0]), .int .i64 (52)]) (fun _ => [])) := by
  refine enter (M := None) (L := []) (n := 66) (l := [(0, (.agg #[(.int .i64 ((W : Int))), (.int .i64 ((H : Int))), (.slice ad n cap)])), (1, (.agg #[(.int .i64 X0), (.int .i64 Y0), (.int .i64 X1), (.int .i64 Y1)]))]) Try.func24 rfl rfl (Args.cons rfl (Args.cons rfl (Args.nil _))) (Hp.start _ _) ?_
  refine GC.seq ?_
  refine GC.region ?_
  refine GL.step (Stp.box (cs := [(.int .i64 ((W : Int))), (.int .i64 ((H : Int))), (.slice ad n cap)]) rfl rfl (by decide)) (fun bq1 _ => ?_)
  refine GL.step (Stp.box (cs := [(.int .i64 X0), (.int .i64 Y0), (.int .i64 X1), (.int .i64 Y1)]) rfl rfl (by decide)) (fun bq2 _ => ?_)
  refine GL.step (Stp.alloc T.zr32 (by decide)) (fun bq3 _ => ?_)
  refine GL.val (Ex.assign rfl) (by decide) ?_
  refine GL.nil ?_
  refine GE.thenN ?_
  refine GC.seq ?_
  refine GC.seq ?_
  refine GC.region ?_
  refine GL.val (v := (.agg #[(.int .i64 ((W : Int))), (.int .i64 ((H : Int))), (.slice ad n cap)])) (Ex.loadA rfl T.ag32 T.sz32 (i := 2) rfl (vs := [(.int .i64 ((W : Int))), (.int .i64 ((H : Int))), (.slice ad n cap)]) rfl rfl) (by decide) ?_
  refine GL.step (Stp.callR (vs := [(.agg #[(.int .i64 ((W : Int))), (.int .i64 ((H : Int))), (.slice ad n cap)])]) rfl rfl T.own36 (by decide) (fun wc hw => (check_ok W H ad n cap wc hok hn))) (fun xq4 hq5 => ?_)
  refine GL.val (Ex.assign rfl) (by decide) ?_
  refine GL.nil ?_
  refine GE.thenN ?_
  refine GC.seq ?_
  refine GC.region ?_
  refine GL.val (Ex.move rfl) (by decide) ?_
  refine GL.val (v := (.bool false)) (Ex.cast (Ex.neq rfl rfl) rfl) (by decide) ?_
  refine GL.nil ?_
  refine GE.thenN ?_
  refine GC.cond rfl (fun hq6 => by cases hq6) (fun _ => ?_)
  refine GC.skip ?_
  refine GE.thenN ?_
  refine GC.seq ?_
  refine GC.seq ?_
  refine GC.region ?_
  refine GL.val (v := (.pointer (some ⟨bq2, 0, none⟩))) (Ex.cast (Ex.fieldAddr rfl Try.underlying54 rfl T.sz3 (by decide)) rfl) (by decide) ?_
  refine GL.val (Ex.load rfl T.ag3 (i := 1) rfl rfl) (by decide) ?_
  by_cases hq7 : X0 < 0
  · refine GL.val (v := (.bool true)) (Ex.cast (Ex.lss rfl rfl) (congrArg Value.bool (decide_eq_true hq7))) (by decide) ?_
    refine GL.val (Ex.move rfl) (by decide) ?_
    refine GL.skipG (tj := 17) rfl rfl rfl (by decide) ?_
    refine GL.skipG (tj := 17) rfl rfl rfl (by decide) ?_
    refine GL.skipG (tj := 17) rfl rfl rfl (by decide) ?_
    refine GL.val (v := (.bool true)) (Ex.pickT rfl rfl) (by decide) ?_
    refine GL.val (Ex.move rfl) (by decide) ?_
    refine GL.skipG (tj := 22) rfl rfl rfl (by decide) ?_
    refine GL.skipG (tj := 22) rfl rfl rfl (by decide) ?_
    refine GL.skipG (tj := 22) rfl rfl rfl (by decide) ?_
    refine GL.skipG (tj := 22) rfl rfl rfl (by decide) ?_
    refine GL.skipG (tj := 22) rfl rfl rfl (by decide) ?_
    refine GL.val (v := (.bool true)) (Ex.pickT rfl rfl) (by decide) ?_
    refine GL.val (Ex.move rfl) (by decide) ?_
    refine GL.skipG (tj := 29) rfl rfl rfl (by decide) ?_
    refine GL.skipG (tj := 29) rfl rfl rfl (by decide) ?_
    refine GL.skipG (tj := 29) rfl rfl rfl (by decide) ?_
    refine GL.skipG (tj := 29) rfl rfl rfl (by decide) ?_
    refine GL.skipG (tj := 29) rfl rfl rfl (by decide) ?_
    refine GL.val (v := (.bool true)) (Ex.pickT rfl rfl) (by decide) ?_
    refine GL.val (Ex.move rfl) (by decide) ?_
    refine GL.skipG (tj := 36) rfl rfl rfl (by decide) ?_
    refine GL.skipG (tj := 36) rfl rfl rfl (by decide) ?_
    refine GL.skipG (tj := 36) rfl rfl rfl (by decide) ?_
    refine GL.skipG (tj := 36) rfl rfl rfl (by decide) ?_
    refine GL.skipG (tj := 36) rfl rfl rfl (by decide) ?_
    refine GL.val (v := (.bool true)) (Ex.pickT rfl rfl) (by decide) ?_
    refine GL.val (Ex.move rfl) (by decide) ?_
    refine GL.skipG (tj := 43) rfl rfl rfl (by decide) ?_
    refine GL.skipG (tj := 43) rfl rfl rfl (by decide) ?_
    refine GL.skipG (tj := 43) rfl rfl rfl (by decide) ?_
    refine GL.skipG (tj := 43) rfl rfl rfl (by decide) ?_
    refine GL.skipG (tj := 43) rfl rfl rfl (by decide) ?_
    refine GL.val (v := (.bool true)) (Ex.pickT rfl rfl) (by decide) ?_
    refine GL.nil ?_
    refine GE.thenN ?_
    refine GC.cond rfl (fun _ => ?_) (fun hq8 => by cases hq8)
    refine GC.seq ?_
    refine GC.region ?_
    refine GL.val (v := (.agg #[(.int .i64 0), (.int .i64 0), (.slice none 0 0)])) (Ex.build (vs := []) rfl (by first | rfl | kernel_rfl)) (by decide) ?_
    refine GL.step (Stp.st0 (cs' := [(.int .i64 0), (.int .i64 0), (.slice none 0 0)]) rfl rfl rfl T.sz32 rfl rfl rfl) (fun _ _ => ?_)
    refine GL.val (Ex.assign rfl) (by decide) ?_
    refine GL.nil ?_
    refine GE.thenN ?_
    refine GC.ret ?_
    refine GE.thenR ?_
    refine GC.ret2 rfl (Rv.cellA rfl T.ag32 T.sz32 (L := _) (i := 0) rfl (vs := [(.int .i64 0), (.int .i64 0), (.slice none 0 0)]) rfl rfl) (Rv.tmp rfl) (fun wN HN => ?_)
    exact HN.ret () trivial rfl (List.nil_sublist _) rfl
  · refine GL.val (v := (.bool false)) (Ex.cast (Ex.lss rfl rfl) (congrArg Value.bool (decide_eq_false hq7))) (by decide) ?_
    refine GL.val (Ex.move rfl) (by decide) ?_
    refine GL.stepG (tj := 17) rfl rfl (Ex.wp (v := (.pointer (some ⟨bq2, 1, none⟩))) (Ex.cast (Ex.fieldAddr rfl Try.underlying54 rfl T.sz3 (by decide)) rfl) (by decide)) (fun _ _ => ?_)
    refine GL.stepG (tj := 17) rfl rfl (Ex.wp (v := (.int .i64 Y0)) (Ex.load rfl T.ag3 (i := 1) rfl rfl) (by decide)) (fun _ _ => ?_)
    by_cases hq9 : Y0 < 0
    · refine GL.stepG (tj := 17) rfl rfl (Ex.wp (v := (.bool true)) (Ex.cast (Ex.lss rfl rfl) (congrArg Value.bool (decide_eq_true hq9))) (by decide)) (fun _ _ => ?_)
      refine GL.val (v := (.bool true)) (Ex.pickF rfl rfl) (by decide) ?_
      refine GL.val (Ex.move rfl) (by decide) ?_
      refine GL.skipG (tj := 22) rfl rfl rfl (by decide) ?_
      refine GL.skipG (tj := 22) rfl rfl rfl (by decide) ?_
      refine GL.skipG (tj := 22) rfl rfl rfl (by decide) ?_
      refine GL.skipG (tj := 22) rfl rfl rfl (by decide) ?_
      refine GL.skipG (tj := 22) rfl rfl rfl (by decide) ?_
      refine GL.val (v := (.bool true)) (Ex.pickT rfl rfl) (by decide) ?_
      refine GL.val (Ex.move rfl) (by decide) ?_
      refine GL.skipG (tj := 29) rfl rfl rfl (by decide) ?_
      refine GL.skipG (tj := 29) rfl rfl rfl (by decide) ?_
      refine GL.skipG (tj := 29) rfl rfl rfl (by decide) ?_
      refine GL.skipG (tj := 29) rfl rfl rfl (by decide) ?_
      refine GL.skipG (tj := 29) rfl rfl rfl (by decide) ?_
      refine GL.val (v := (.bool true)) (Ex.pickT rfl rfl) (by decide) ?_
      refine GL.val (Ex.move rfl) (by decide) ?_
      refine GL.skipG (tj := 36) rfl rfl rfl (by decide) ?_
      refine GL.skipG (tj := 36) rfl rfl rfl (by decide) ?_
      refine GL.skipG (tj := 36) rfl rfl rfl (by decide) ?_
      refine GL.skipG (tj := 36) rfl rfl rfl (by decide) ?_
      refine GL.skipG (tj := 36) rfl rfl rfl (by decide) ?_
      refine GL.val (v := (.bool true)) (Ex.pickT rfl rfl) (by decide) ?_
      refine GL.val (Ex.move rfl) (by decide) ?_
      refine GL.skipG (tj := 43) rfl rfl rfl (by decide) ?_
      refine GL.skipG (tj := 43) rfl rfl rfl (by decide) ?_
      refine GL.skipG (tj := 43) rfl rfl rfl (by decide) ?_
      refine GL.skipG (tj := 43) rfl rfl rfl (by decide) ?_
      refine GL.skipG (tj := 43) rfl rfl rfl (by decide) ?_
      refine GL.val (v := (.bool true)) (Ex.pickT rfl rfl) (by decide) ?_
      refine GL.nil ?_
      refine GE.thenN ?_
      refine GC.cond rfl (fun _ => ?_) (fun hq10 => by cases hq10)
      refine GC.seq ?_
      refine GC.region ?_
      refine GL.val (v := (.agg #[(.int .i64 0), (.int .i64 0), (.slice none 0 0)])) (Ex.build (vs := []) rfl (by first | rfl | kernel_rfl)) (by decide) ?_
      refine GL.step (Stp.st0 (cs' := [(.int .i64 0), (.int .i64 0), (.slice none 0 0)]) rfl rfl rfl T.sz32 rfl rfl rfl) (fun _ _ => ?_)
      refine GL.val (Ex.assign rfl) (by decide) ?_
      refine GL.nil ?_
      refine GE.thenN ?_
      refine GC.ret ?_
      refine GE.thenR ?_
      refine GC.ret2 rfl (Rv.cellA rfl T.ag32 T.sz32 (L := _) (i := 0) rfl (vs := [(.int .i64 0), (.int .i64 0), (.slice none 0 0)]) rfl rfl) (Rv.tmp rfl) (fun wN HN => ?_)
      exact HN.ret () trivial rfl (List.nil_sublist _) rfl
    · refine GL.stepG (tj := 17) rfl rfl (Ex.wp (v := (.bool false)) (Ex.cast (Ex.lss rfl rfl) (congrArg Value.bool (decide_eq_false hq9))) (by decide)) (fun _ _ => ?_)
      refine GL.val (v := (.bool false)) (Ex.pickF rfl rfl) (by decide) ?_
      refine GL.val (Ex.move rfl) (by decide) ?_
      refine GL.stepG (tj := 22) rfl rfl (Ex.wp (v := (.pointer (some ⟨bq2, 0, none⟩))) (Ex.cast (Ex.fieldAddr rfl Try.underlying54 rfl T.sz3 (by decide)) rfl) (by decide)) (fun _ _ => ?_)
      refine GL.stepG (tj := 22) rfl rfl (Ex.wp (v := (.int .i64 X0)) (Ex.load rfl T.ag3 (i := 1) rfl rfl) (by decide)) (fun _ _ => ?_)
      refine GL.stepG (tj := 22) rfl rfl (Ex.wp (v := (.pointer (some ⟨bq2, 2, none⟩))) (Ex.cast (Ex.fieldAddr rfl Try.underlying54 rfl T.sz3 (by decide)) rfl) (by decide)) (fun _ _ => ?_)
      refine GL.stepG (tj := 22) rfl rfl (Ex.wp (v := (.int .i64 X1)) (Ex.load rfl T.ag3 (i := 1) rfl rfl) (by decide)) (fun _ _ => ?_)
      by_cases hq11 : X1 ≤ X0
      · refine GL.stepG (tj := 22) rfl rfl (Ex.wp (v := (.bool true)) (Ex.cast (Ex.geq rfl rfl) (congrArg Value.bool (decide_eq_true hq11))) (by decide)) (fun _ _ => ?_)
        refine GL.val (v := (.bool true)) (Ex.pickF rfl rfl) (by decide) ?_
        refine GL.val (Ex.move rfl) (by decide) ?_
        refine GL.skipG (tj := 29) rfl rfl rfl (by decide) ?_
        refine GL.skipG (tj := 29) rfl rfl rfl (by decide) ?_
        refine GL.skipG (tj := 29) rfl rfl rfl (by decide) ?_
        refine GL.skipG (tj := 29) rfl rfl rfl (by decide) ?_
        refine GL.skipG (tj := 29) rfl rfl rfl (by decide) ?_
        refine GL.val (v := (.bool true)) (Ex.pickT rfl rfl) (by decide) ?_
        refine GL.val (Ex.move rfl) (by decide) ?_
        refine GL.skipG (tj := 36) rfl rfl rfl (by decide) ?_
        refine GL.skipG (tj := 36) rfl rfl rfl (by decide) ?_
        refine GL.skipG (tj := 36) rfl rfl rfl (by decide) ?_
        refine GL.skipG (tj := 36) rfl rfl rfl (by decide) ?_
        refine GL.skipG (tj := 36) rfl rfl rfl (by decide) ?_
        refine GL.val (v := (.bool true)) (Ex.pickT rfl rfl) (by decide) ?_
        refine GL.val (Ex.move rfl) (by decide) ?_
        refine GL.skipG (tj := 43) rfl rfl rfl (by decide) ?_
        refine GL.skipG (tj := 43) rfl rfl rfl (by decide) ?_
        refine GL.skipG (tj := 43) rfl rfl rfl (by decide) ?_
        refine GL.skipG (tj := 43) rfl rfl rfl (by decide) ?_
        refine GL.skipG (tj := 43) rfl rfl rfl (by decide) ?_
        refine GL.val (v := (.bool true)) (Ex.pickT rfl rfl) (by decide) ?_
        refine GL.nil ?_
        refine GE.thenN ?_
        refine GC.cond rfl (fun _ => ?_) (fun hq12 => by cases hq12)
        refine GC.seq ?_
        refine GC.region ?_
        refine GL.val (v := (.agg #[(.int .i64 0), (.int .i64 0), (.slice none 0 0)])) (Ex.build (vs := []) rfl (by first | rfl | kernel_rfl)) (by decide) ?_
        refine GL.step (Stp.st0 (cs' := [(.int .i64 0), (.int .i64 0), (.slice none 0 0)]) rfl rfl rfl T.sz32 rfl rfl rfl) (fun _ _ => ?_)
        refine GL.val (Ex.assign rfl) (by decide) ?_
        refine GL.nil ?_
        refine GE.thenN ?_
        refine GC.ret ?_
        refine GE.thenR ?_
        refine GC.ret2 rfl (Rv.cellA rfl T.ag32 T.sz32 (L := _) (i := 0) rfl (vs := [(.int .i64 0), (.int .i64 0), (.slice none 0 0)]) rfl rfl) (Rv.tmp rfl) (fun wN HN => ?_)
        exact HN.ret () trivial rfl (List.nil_sublist _) rfl
      · refine GL.stepG (tj := 22) rfl rfl (Ex.wp (v := (.bool false)) (Ex.cast (Ex.geq rfl rfl) (congrArg Value.bool (decide_eq_false hq11))) (by decide)) (fun _ _ => ?_)
        refine GL.val (v := (.bool false)) (Ex.pickF rfl rfl) (by decide) ?_
        refine GL.val (Ex.move rfl) (by decide) ?_
        refine GL.stepG (tj := 29) rfl rfl (Ex.wp (v := (.pointer (some ⟨bq2, 1, none⟩))) (Ex.cast (Ex.fieldAddr rfl Try.underlying54 rfl T.sz3 (by decide)) rfl) (by decide)) (fun _ _ => ?_)
        refine GL.stepG (tj := 29) rfl rfl (Ex.wp (v := (.int .i64 Y0)) (Ex.load rfl T.ag3 (i := 1) rfl rfl) (by decide)) (fun _ _ => ?_)
        refine GL.stepG (tj := 29) rfl rfl (Ex.wp (v := (.pointer (some ⟨bq2, 3, none⟩))) (Ex.cast (Ex.fieldAddr rfl Try.underlying54 rfl T.sz3 (by decide)) rfl) (by decide)) (fun _ _ => ?_)
        refine GL.stepG (tj := 29) rfl rfl (Ex.wp (v := (.int .i64 Y1)) (Ex.load rfl T.ag3 (i := 1) rfl rfl) (by decide)) (fun _ _ => ?_)
        by_cases hq13 : Y1 ≤ Y0
        · refine GL.stepG (tj := 29) rfl rfl (Ex.wp (v := (.bool true)) (Ex.cast (Ex.geq rfl rfl) (congrArg Value.bool (decide_eq_true hq13))) (by decide)) (fun _ _ => ?_)
          refine GL.val (v := (.bool true)) (Ex.pickF rfl rfl) (by decide) ?_
          refine GL.val (Ex.move rfl) (by decide) ?_
          refine GL.skipG (tj := 36) rfl rfl rfl (by decide) ?_
          refine GL.skipG (tj := 36) rfl rfl rfl (by decide) ?_
          refine GL.skipG (tj := 36) rfl rfl rfl (by decide) ?_
          refine GL.skipG (tj := 36) rfl rfl rfl (by decide) ?_
          refine GL.skipG (tj := 36) rfl rfl rfl (by decide) ?_
          refine GL.val (v := (.bool true)) (Ex.pickT rfl rfl) (by decide) ?_
          refine GL.val (Ex.move rfl) (by decide) ?_
          refine GL.skipG (tj := 43) rfl rfl rfl (by decide) ?_
          refine GL.skipG (tj := 43) rfl rfl rfl (by decide) ?_
          refine GL.skipG (tj := 43) rfl rfl rfl (by decide) ?_
          refine GL.skipG (tj := 43) rfl rfl rfl (by decide) ?_
          refine GL.skipG (tj := 43) rfl rfl rfl (by decide) ?_
          refine GL.val (v := (.bool true)) (Ex.pickT rfl rfl) (by decide) ?_
          refine GL.nil ?_
          refine GE.thenN ?_
          refine GC.cond rfl (fun _ => ?_) (fun hq14 => by cases hq14)
          refine GC.seq ?_
          refine GC.region ?_
          refine GL.val (v := (.agg #[(.int .i64 0), (.int .i64 0), (.slice none 0 0)])) (Ex.build (vs := []) rfl (by first | rfl | kernel_rfl)) (by decide) ?_
          refine GL.step (Stp.st0 (cs' := [(.int .i64 0), (.int .i64 0), (.slice none 0 0)]) rfl rfl rfl T.sz32 rfl rfl rfl) (fun _ _ => ?_)
          refine GL.val (Ex.assign rfl) (by decide) ?_
          refine GL.nil ?_
          refine GE.thenN ?_
          refine GC.ret ?_
          refine GE.thenR ?_
          refine GC.ret2 rfl (Rv.cellA rfl T.ag32 T.sz32 (L := _) (i := 0) rfl (vs := [(.int .i64 0), (.int .i64 0), (.slice none 0 0)]) rfl rfl) (Rv.tmp rfl) (fun wN HN => ?_)
          exact HN.ret () trivial rfl (List.nil_sublist _) rfl
        · refine GL.stepG (tj := 29) rfl rfl (Ex.wp (v := (.bool false)) (Ex.cast (Ex.geq rfl rfl) (congrArg Value.bool (decide_eq_false hq13))) (by decide)) (fun _ _ => ?_)
          refine GL.val (v := (.bool false)) (Ex.pickF rfl rfl) (by decide) ?_
          refine GL.val (Ex.move rfl) (by decide) ?_
          refine GL.stepG (tj := 36) rfl rfl (Ex.wp (v := (.pointer (some ⟨bq2, 2, none⟩))) (Ex.cast (Ex.fieldAddr rfl Try.underlying54 rfl T.sz3 (by decide)) rfl) (by decide)) (fun _ _ => ?_)
          refine GL.stepG (tj := 36) rfl rfl (Ex.wp (v := (.int .i64 X1)) (Ex.load rfl T.ag3 (i := 1) rfl rfl) (by decide)) (fun _ _ => ?_)
          refine GL.stepG (tj := 36) rfl rfl (Ex.wp (v := (.pointer (some ⟨bq1, 0, none⟩))) (Ex.cast (Ex.fieldAddr rfl Try.underlying32 rfl T.sz3 (by decide)) rfl) (by decide)) (fun _ _ => ?_)
          refine GL.stepG (tj := 36) rfl rfl (Ex.wp (v := (.int .i64 ((W : Int)))) (Ex.load rfl T.ag3 (i := 2) rfl rfl) (by decide)) (fun _ _ => ?_)
          by_cases hq15 : ((W : Int)) < X1
          · refine GL.stepG (tj := 36) rfl rfl (Ex.wp (v := (.bool true)) (Ex.cast (Ex.gtr rfl rfl) (congrArg Value.bool (decide_eq_true hq15))) (by decide)) (fun _ _ => ?_)
            refine GL.val (v := (.bool true)) (Ex.pickF rfl rfl) (by decide) ?_
            refine GL.val (Ex.move rfl) (by decide) ?_
            refine GL.skipG (tj := 43) rfl rfl rfl (by decide) ?_
            refine GL.skipG (tj := 43) rfl rfl rfl (by decide) ?_
            refine GL.skipG (tj := 43) rfl rfl rfl (by decide) ?_
            refine GL.skipG (tj := 43) rfl rfl rfl (by decide) ?_
            refine GL.skipG (tj := 43) rfl rfl rfl (by decide) ?_
            refine GL.val (v := (.bool true)) (Ex.pickT rfl rfl) (by decide) ?_
            refine GL.nil ?_
            refine GE.thenN ?_
            refine GC.cond rfl (fun _ => ?_) (fun hq16 => by cases hq16)
            refine GC.seq ?_
            refine GC.region ?_
            refine GL.val (v := (.agg #[(.int .i64 0), (.int .i64 0), (.slice none 0 0)])) (Ex.build (vs := []) rfl (by first | rfl | kernel_rfl)) (by decide) ?_
            refine GL.step (Stp.st0 (cs' := [(.int .i64 0), (.int .i64 0), (.slice none 0 0)]) rfl rfl rfl T.sz32 rfl rfl rfl) (fun _ _ => ?_)
            refine GL.val (Ex.assign rfl) (by decide) ?_
            refine GL.nil ?_
            refine GE.thenN ?_
            refine GC.ret ?_
            refine GE.thenR ?_
            refine GC.ret2 rfl (Rv.cellA rfl T.ag32 T.sz32 (L := _) (i := 0) rfl (vs := [(.int .i64 0), (.int .i64 0), (.slice none 0 0)]) rfl rfl) (Rv.tmp rfl) (fun wN HN => ?_)
            exact HN.ret () trivial rfl (List.nil_sublist _) rfl
          · refine GL.stepG (tj := 36) rfl rfl (Ex.wp (v := (.bool false)) (Ex.cast (Ex.gtr rfl rfl) (congrArg Value.bool (decide_eq_false hq15))) (by decide)) (fun _ _ => ?_)
            refine GL.val (v := (.bool false)) (Ex.pickF rfl rfl) (by decide) ?_
            refine GL.val (Ex.move rfl) (by decide) ?_
            refine GL.stepG (tj := 43) rfl rfl (Ex.wp (v := (.pointer (some ⟨bq2, 3, none⟩))) (Ex.cast (Ex.fieldAddr rfl Try.underlying54 rfl T.sz3 (by decide)) rfl) (by decide)) (fun _ _ => ?_)
            refine GL.stepG (tj := 43) rfl rfl (Ex.wp (v := (.int .i64 Y1)) (Ex.load rfl T.ag3 (i := 1) rfl rfl) (by decide)) (fun _ _ => ?_)
            refine GL.stepG (tj := 43) rfl rfl (Ex.wp (v := (.pointer (some ⟨bq1, 1, none⟩))) (Ex.cast (Ex.fieldAddr rfl Try.underlying32 rfl T.sz3 (by decide)) rfl) (by decide)) (fun _ _ => ?_)
            refine GL.stepG (tj := 43) rfl rfl (Ex.wp (v := (.int .i64 ((H : Int)))) (Ex.load rfl T.ag3 (i := 2) rfl rfl) (by decide)) (fun _ _ => ?_)
            refine GL.stepG (tj := 43) rfl rfl (Ex.wp (v := (.bool (decide (((H : Int)) < Y1)))) (Ex.gtr rfl rfl) (by decide)) (fun _ _ => ?_)
            refine GL.val (v := (.bool (decide (((H : Int)) < Y1)))) (Ex.pickF rfl rfl) (by decide) ?_
            refine GL.nil ?_
            refine GE.thenN ?_
            refine GC.cond rfl (fun hq17 => ?_) (fun hq17 => ?_)
            · replace hq17 := of_decide_eq_true hq17
              refine GC.seq ?_
              refine GC.region ?_
              refine GL.val (v := (.agg #[(.int .i64 0), (.int .i64 0), (.slice none 0 0)])) (Ex.build (vs := []) rfl (by first | rfl | kernel_rfl)) (by decide) ?_
              refine GL.step (Stp.st0 (cs' := [(.int .i64 0), (.int .i64 0), (.slice none 0 0)]) rfl rfl rfl T.sz32 rfl rfl rfl) (fun _ _ => ?_)
              refine GL.val (Ex.assign rfl) (by decide) ?_
              refine GL.nil ?_
              refine GE.thenN ?_
              refine GC.ret ?_
              refine GE.thenR ?_
              refine GC.ret2 rfl (Rv.cellA rfl T.ag32 T.sz32 (L := _) (i := 0) rfl (vs := [(.int .i64 0), (.int .i64 0), (.slice none 0 0)]) rfl rfl) (Rv.tmp rfl) (fun wN HN => ?_)
              exact HN.ret () trivial rfl (List.nil_sublist _) rfl
            · replace hq17 := of_decide_eq_false hq17
              exfalso; exact hR (by omega)

set_option maxRecDepth 100000 in
set_option maxHeartbeats 1000000 in
theorem cropC (x y W H X0 Y0 X1 Y1 bf br : Nat) (fid : FuncId) (caps : Array Value) (g : Nat → Nat → Int) (w : World) (h1 : w.heap[bf]? = some (.cells #[(.func (.func fid) #[] caps)] 88 (0, 0))) (h2 : w.heap[br]? = some (.cells #[(.int .i64 ((X0 : Int))), (.int .i64 ((Y0 : Int))), (.int .i64 ((X1 : Int))), (.int .i64 ((Y1 : Int)))] 54 (0, 0)))
    (hf : Fn2 Try.prog w fid caps W H g) (hx : x < X1 - X0) (hy : y < Y1 - Y0) (hW : W ≤ 1024) (hH : H ≤ 1024) (hX : X1 ≤ W) (hY : Y1 ≤ H) :
    Calls Try.prog 58 #[(.int .i64 ((x : Int))), (.int .i64 ((y : Int))), (.pointer (some ⟨bf, 0, none⟩)), (.pointer (some ⟨br, 0, none⟩))] w (Ret w (fun _ : Unit => True) (fun _ => .int .u32 (g (X0 + x) (Y0 + y))) (fun _ => [])) := by
  refine enter (M := None) (L := [⟨bf, [(.func (.func fid) #[] caps)], 88, false⟩, ⟨br, [(.int .i64 ((X0 : Int))), (.int .i64 ((Y0 : Int))), (.int .i64 ((X1 : Int))), (.int .i64 ((Y1 : Int)))], 54, false⟩]) (n := 17) (l := [(0, (.int .i64 ((x : Int)))), (1, (.int .i64 ((y : Int)))), (2, (.pointer (some ⟨bf, 0, none⟩))), (3, (.pointer (some ⟨br, 0, none⟩)))]) Try.func58 rfl rfl (Args.cons rfl (Args.cons rfl (Args.cons rfl (Args.cons rfl (Args.nil _))))) (Hp.reads (Has.cons h1 (Has.cons h2 (Has.nil _))) rfl) ?_
  refine GC.seq ?_
  refine GC.region ?_
  refine GL.val (Ex.assign rfl) (by decide) ?_
  refine GL.nil ?_
  refine GE.thenN ?_
  refine GC.seq ?_
  refine GC.region ?_
  refine GL.val (Ex.load rfl T.ag88 (i := 0) rfl rfl) (by decide) ?_
  refine GL.val (v := (.pointer (some ⟨br, 0, none⟩))) (Ex.cast (Ex.fieldAddr rfl Try.underlying54 rfl T.sz3 (by decide)) rfl) (by decide) ?_
  refine GL.val (Ex.load rfl T.ag3 (i := 1) rfl rfl) (by decide) ?_
  refine GL.val (Ex.move rfl) (by decide) ?_
  refine GL.val (v := (.int .i64 (((X0 + x : Nat) : Int)))) (Ex.add rfl rfl (Z := ((X0 + x : Nat) : Int)) (by rw [w64 (by omega)]; omega)) (by decide) ?_
  refine GL.val (v := (.pointer (some ⟨br, 1, none⟩))) (Ex.cast (Ex.fieldAddr rfl Try.underlying54 rfl T.sz3 (by decide)) rfl) (by decide) ?_
  refine GL.val (Ex.load rfl T.ag3 (i := 1) rfl rfl) (by decide) ?_
  refine GL.val (Ex.move rfl) (by decide) ?_
  refine GL.val (v := (.int .i64 (((Y0 + y : Nat) : Int)))) (Ex.add rfl rfl (Z := ((Y0 + y : Nat) : Int)) (by rw [w64 (by omega)]; omega)) (by decide) ?_
  refine GL.step (Stp.callR (vs := [(.int .i64 (((X0 + x : Nat) : Int))), (.int .i64 (((Y0 + y : Nat) : Int)))]) rfl rfl hf.1 (by decide) (fun wc hw => hf.2 (X0 + x) (Y0 + y) (by omega) (by omega) wc hw.1)) (fun xq1 hq2 => ?_)
  refine GL.val (Ex.assign rfl) (by decide) ?_
  refine GL.nil ?_
  refine GE.thenN ?_
  refine GC.ret ?_
  refine GC.ret1 rfl (Rv.tmp rfl) (fun wN HN => ?_)
  exact HN.ret () trivial (by first | rfl | (congr 1; done)) (List.nil_sublist _) rfl

set_option maxRecDepth 100000 in
set_option maxHeartbeats 1000000 in
theorem crop_in (W H n cap b o X0 Y0 X1 Y1 : Nat) (xs : List Int) (w : World) (hok : okP W H) (hn : n = W * H) (hx : xs.length = n) (hr : Rd w b o (xs.map u32)) (hX0 : X0 < X1) (hX1 : X1 ≤ W) (hY0 : Y0 < Y1) (hY1 : Y1 ≤ H) :
    Calls Try.prog 24 #[(.agg #[(.int .i64 ((W : Int))), (.int .i64 ((H : Int))), (.slice (some ⟨b, o, none⟩) n cap)]), (.agg #[(.int .i64 ((X0 : Int))), (.int .i64 ((Y0 : Int))), (.int .i64 ((X1 : Int))), (.int .i64 ((Y1 : Int)))])] w (Ret w (fun _ : Nat => True) (fun r => .tuple #[.agg #[.int .i64 ((X1 - X0 : Nat) : Int), .int .i64 ((Y1 - Y0 : Nat) : Int), .slice (some ⟨r, 0, none⟩) ((X1 - X0) * (Y1 - Y0)) ((X1 - X0) * (Y1 - Y0))], .int .i64 0]) (fun r => [⟨r, (tab (X1 - X0) (fun x y => smp xs W (X0 + x) (Y0 + y)) ((X1 - X0) * (Y1 - Y0))).map u32, 72, true⟩])) := by
  have hok5 := hok.2.2.2
  have hok6 := hok.2.2.1
  have hok7 := hok.2.2.2.1
  refine enter (M := None) (L := []) (n := 66) (l := [(0, (.agg #[(.int .i64 ((W : Int))), (.int .i64 ((H : Int))), (.slice (some ⟨b, o, none⟩) n cap)])), (1, (.agg #[(.int .i64 ((X0 : Int))), (.int .i64 ((Y0 : Int))), (.int .i64 ((X1 : Int))), (.int .i64 ((Y1 : Int)))]))]) Try.func24 rfl rfl (Args.cons rfl (Args.cons rfl (Args.nil _))) (Hp.start _ _) ?_
  refine GC.seq ?_
  refine GC.region ?_
  refine GL.step (Stp.box (cs := [(.int .i64 ((W : Int))), (.int .i64 ((H : Int))), (.slice (some ⟨b, o, none⟩) n cap)]) rfl rfl (by decide)) (fun bq1 _ => ?_)
  refine GL.step (Stp.box (cs := [(.int .i64 ((X0 : Int))), (.int .i64 ((Y0 : Int))), (.int .i64 ((X1 : Int))), (.int .i64 ((Y1 : Int)))]) rfl rfl (by decide)) (fun bq2 _ => ?_)
  refine GL.step (Stp.alloc T.zr32 (by decide)) (fun bq3 _ => ?_)
  refine GL.val (Ex.assign rfl) (by decide) ?_
  refine GL.nil ?_
  refine GE.thenN ?_
  refine GC.seq ?_
  refine GC.seq ?_
  refine GC.region ?_
  refine GL.val (v := (.agg #[(.int .i64 ((W : Int))), (.int .i64 ((H : Int))), (.slice (some ⟨b, o, none⟩) n cap)])) (Ex.loadA rfl T.ag32 T.sz32 (i := 2) rfl (vs := [(.int .i64 ((W : Int))), (.int .i64 ((H : Int))), (.slice (some ⟨b, o, none⟩) n cap)]) rfl rfl) (by decide) ?_
  refine GL.step (Stp.callR (vs := [(.agg #[(.int .i64 ((W : Int))), (.int .i64 ((H : Int))), (.slice (some ⟨b, o, none⟩) n cap)])]) rfl rfl T.own36 (by decide) (fun wc hw => (check_ok W H (some ⟨b, o, none⟩) n cap wc hok hn))) (fun xq4 hq5 => ?_)
  refine GL.val (Ex.assign rfl) (by decide) ?_
  refine GL.nil ?_
  refine GE.thenN ?_
  refine GC.seq ?_
  refine GC.region ?_
  refine GL.val (Ex.move rfl) (by decide) ?_
  refine GL.val (v := (.bool false)) (Ex.cast (Ex.neq rfl rfl) rfl) (by decide) ?_
  refine GL.nil ?_
  refine GE.thenN ?_
  refine GC.cond rfl (fun hq6 => by cases hq6) (fun _ => ?_)
  refine GC.skip ?_
  refine GE.thenN ?_
  refine GC.seq ?_
  refine GC.seq ?_
  refine GC.region ?_
  refine GL.val (v := (.pointer (some ⟨bq2, 0, none⟩))) (Ex.cast (Ex.fieldAddr rfl Try.underlying54 rfl T.sz3 (by decide)) rfl) (by decide) ?_
  refine GL.val (Ex.load rfl T.ag3 (i := 1) rfl rfl) (by decide) ?_
  refine GL.val (v := (.bool false)) (Ex.cast (Ex.lss rfl rfl) (congrArg Value.bool (decide_eq_false (by omega)))) (by decide) ?_
  refine GL.val (Ex.move rfl) (by decide) ?_
  refine GL.stepG (tj := 17) rfl rfl (Ex.wp (v := (.pointer (some ⟨bq2, 1, none⟩))) (Ex.cast (Ex.fieldAddr rfl Try.underlying54 rfl T.sz3 (by decide)) rfl) (by decide)) (fun _ _ => ?_)
  refine GL.stepG (tj := 17) rfl rfl (Ex.wp (v := (.int .i64 ((Y0 : Int)))) (Ex.load rfl T.ag3 (i := 1) rfl rfl) (by decide)) (fun _ _ => ?_)
  refine GL.stepG (tj := 17) rfl rfl (Ex.wp (v := (.bool false)) (Ex.cast (Ex.lss rfl rfl) (congrArg Value.bool (decide_eq_false (by omega)))) (by decide)) (fun _ _ => ?_)
  refine GL.val (v := (.bool false)) (Ex.pickF rfl rfl) (by decide) ?_
  refine GL.val (Ex.move rfl) (by decide) ?_
  refine GL.stepG (tj := 22) rfl rfl (Ex.wp (v := (.pointer (some ⟨bq2, 0, none⟩))) (Ex.cast (Ex.fieldAddr rfl Try.underlying54 rfl T.sz3 (by decide)) rfl) (by decide)) (fun _ _ => ?_)
  refine GL.stepG (tj := 22) rfl rfl (Ex.wp (v := (.int .i64 ((X0 : Int)))) (Ex.load rfl T.ag3 (i := 1) rfl rfl) (by decide)) (fun _ _ => ?_)
  refine GL.stepG (tj := 22) rfl rfl (Ex.wp (v := (.pointer (some ⟨bq2, 2, none⟩))) (Ex.cast (Ex.fieldAddr rfl Try.underlying54 rfl T.sz3 (by decide)) rfl) (by decide)) (fun _ _ => ?_)
  refine GL.stepG (tj := 22) rfl rfl (Ex.wp (v := (.int .i64 ((X1 : Int)))) (Ex.load rfl T.ag3 (i := 1) rfl rfl) (by decide)) (fun _ _ => ?_)
  refine GL.stepG (tj := 22) rfl rfl (Ex.wp (v := (.bool false)) (Ex.cast (Ex.geq rfl rfl) (congrArg Value.bool (decide_eq_false (by omega)))) (by decide)) (fun _ _ => ?_)
  refine GL.val (v := (.bool false)) (Ex.pickF rfl rfl) (by decide) ?_
  refine GL.val (Ex.move rfl) (by decide) ?_
  refine GL.stepG (tj := 29) rfl rfl (Ex.wp (v := (.pointer (some ⟨bq2, 1, none⟩))) (Ex.cast (Ex.fieldAddr rfl Try.underlying54 rfl T.sz3 (by decide)) rfl) (by decide)) (fun _ _ => ?_)
  refine GL.stepG (tj := 29) rfl rfl (Ex.wp (v := (.int .i64 ((Y0 : Int)))) (Ex.load rfl T.ag3 (i := 1) rfl rfl) (by decide)) (fun _ _ => ?_)
  refine GL.stepG (tj := 29) rfl rfl (Ex.wp (v := (.pointer (some ⟨bq2, 3, none⟩))) (Ex.cast (Ex.fieldAddr rfl Try.underlying54 rfl T.sz3 (by decide)) rfl) (by decide)) (fun _ _ => ?_)
  refine GL.stepG (tj := 29) rfl rfl (Ex.wp (v := (.int .i64 ((Y1 : Int)))) (Ex.load rfl T.ag3 (i := 1) rfl rfl) (by decide)) (fun _ _ => ?_)
  refine GL.stepG (tj := 29) rfl rfl (Ex.wp (v := (.bool false)) (Ex.cast (Ex.geq rfl rfl) (congrArg Value.bool (decide_eq_false (by omega)))) (by decide)) (fun _ _ => ?_)
  refine GL.val (v := (.bool false)) (Ex.pickF rfl rfl) (by decide) ?_
  refine GL.val (Ex.move rfl) (by decide) ?_
  refine GL.stepG (tj := 36) rfl rfl (Ex.wp (v := (.pointer (some ⟨bq2, 2, none⟩))) (Ex.cast (Ex.fieldAddr rfl Try.underlying54 rfl T.sz3 (by decide)) rfl) (by decide)) (fun _ _ => ?_)
  refine GL.stepG (tj := 36) rfl rfl (Ex.wp (v := (.int .i64 ((X1 : Int)))) (Ex.load rfl T.ag3 (i := 1) rfl rfl) (by decide)) (fun _ _ => ?_)
  refine GL.stepG (tj := 36) rfl rfl (Ex.wp (v := (.pointer (some ⟨bq1, 0, none⟩))) (Ex.cast (Ex.fieldAddr rfl Try.underlying32 rfl T.sz3 (by decide)) rfl) (by decide)) (fun _ _ => ?_)
  refine GL.stepG (tj := 36) rfl rfl (Ex.wp (v := (.int .i64 ((W : Int)))) (Ex.load rfl T.ag3 (i := 2) rfl rfl) (by decide)) (fun _ _ => ?_)
  refine GL.stepG (tj := 36) rfl rfl (Ex.wp (v := (.bool false)) (Ex.cast (Ex.gtr rfl rfl) (congrArg Value.bool (decide_eq_false (by omega)))) (by decide)) (fun _ _ => ?_)
  refine GL.val (v := (.bool false)) (Ex.pickF rfl rfl) (by decide) ?_
  refine GL.val (Ex.move rfl) (by decide) ?_
  refine GL.stepG (tj := 43) rfl rfl (Ex.wp (v := (.pointer (some ⟨bq2, 3, none⟩))) (Ex.cast (Ex.fieldAddr rfl Try.underlying54 rfl T.sz3 (by decide)) rfl) (by decide)) (fun _ _ => ?_)
  refine GL.stepG (tj := 43) rfl rfl (Ex.wp (v := (.int .i64 ((Y1 : Int)))) (Ex.load rfl T.ag3 (i := 1) rfl rfl) (by decide)) (fun _ _ => ?_)
  refine GL.stepG (tj := 43) rfl rfl (Ex.wp (v := (.pointer (some ⟨bq1, 1, none⟩))) (Ex.cast (Ex.fieldAddr rfl Try.underlying32 rfl T.sz3 (by decide)) rfl) (by decide)) (fun _ _ => ?_)
  refine GL.stepG (tj := 43) rfl rfl (Ex.wp (v := (.int .i64 ((H : Int)))) (Ex.load rfl T.ag3 (i := 2) rfl rfl) (by decide)) (fun _ _ => ?_)
  refine GL.stepG (tj := 43) rfl rfl (Ex.wp (v := (.bool false)) (Ex.cast (Ex.gtr rfl rfl) (congrArg Value.bool (decide_eq_false (by omega)))) (by decide)) (fun _ _ => ?_)
  refine GL.val (v := (.bool false)) (Ex.pickF rfl rfl) (by decide) ?_
  refine GL.nil ?_
  refine GE.thenN ?_
  refine GC.cond rfl (fun hq7 => by cases hq7) (fun _ => ?_)
  refine GC.skip ?_
  refine GE.thenN ?_
  refine GC.seq ?_
  refine GC.region ?_
  refine GL.val (v := (.agg #[(.int .i64 ((W : Int))), (.int .i64 ((H : Int))), (.slice (some ⟨b, o, none⟩) n cap)])) (Ex.loadA rfl T.ag32 T.sz32 (i := 2) rfl (vs := [(.int .i64 ((W : Int))), (.int .i64 ((H : Int))), (.slice (some ⟨b, o, none⟩) n cap)]) rfl rfl) (by decide) ?_
  refine GL.step (Stp.callR (vs := [(.agg #[(.int .i64 ((W : Int))), (.int .i64 ((H : Int))), (.slice (some ⟨b, o, none⟩) n cap)])]) rfl rfl T.own53 (by decide) (fun wc hw => of W H n cap b o wc)) (fun xq8 hq9 => ?_)
  refine GL.step (Stp.alloc T.zr88 (by decide)) (fun bq10 _ => ?_)
  refine GL.step (Stp.st0 (cs' := [(.func (.func 75) #[] #[(.pointer (some ⟨xq8, 0, none⟩))])]) rfl rfl rfl T.sz88 rfl rfl rfl) (fun _ _ => ?_)
  refine GL.nil ?_
  refine GE.thenN ?_
  refine GC.seq ?_
  refine GC.region ?_
  refine GL.val (v := (.pointer (some ⟨bq2, 2, none⟩))) (Ex.cast (Ex.fieldAddr rfl Try.underlying54 rfl T.sz3 (by decide)) rfl) (by decide) ?_
  refine GL.val (Ex.load rfl T.ag3 (i := 3) rfl rfl) (by decide) ?_
  refine GL.val (v := (.pointer (some ⟨bq2, 0, none⟩))) (Ex.cast (Ex.fieldAddr rfl Try.underlying54 rfl T.sz3 (by decide)) rfl) (by decide) ?_
  refine GL.val (Ex.load rfl T.ag3 (i := 3) rfl rfl) (by decide) ?_
  refine GL.val (v := (.int .i64 (((X1 - X0 : Nat) : Int)))) (Ex.sub' rfl rfl (Z := ((X1 - X0 : Nat) : Int)) (by rw [w64 (by omega)]; omega)) (by decide) ?_
  refine GL.val (v := (.pointer (some ⟨bq2, 3, none⟩))) (Ex.cast (Ex.fieldAddr rfl Try.underlying54 rfl T.sz3 (by decide)) rfl) (by decide) ?_
  refine GL.val (Ex.load rfl T.ag3 (i := 3) rfl rfl) (by decide) ?_
  refine GL.val (v := (.pointer (some ⟨bq2, 1, none⟩))) (Ex.cast (Ex.fieldAddr rfl Try.underlying54 rfl T.sz3 (by decide)) rfl) (by decide) ?_
  refine GL.val (Ex.load rfl T.ag3 (i := 3) rfl rfl) (by decide) ?_
  refine GL.val (v := (.int .i64 (((Y1 - Y0 : Nat) : Int)))) (Ex.sub' rfl rfl (Z := ((Y1 - Y0 : Nat) : Int)) (by rw [w64 (by omega)]; omega)) (by decide) ?_
  refine GL.val (v := (.func (.func 58) #[] #[(.pointer (some ⟨bq10, 0, none⟩)), (.pointer (some ⟨bq2, 0, none⟩))])) (Ex.func (cs := [(.pointer (some ⟨bq10, 0, none⟩)), (.pointer (some ⟨bq2, 0, none⟩))]) rfl (fun _ hF => hF.evals _ _ rfl)) (by decide) ?_
  refine GL.val (v := (.agg #[(.int .i64 (((X1 - X0 : Nat) : Int))), (.int .i64 (((Y1 - Y0 : Nat) : Int))), (.func (.func 58) #[] #[(.pointer (some ⟨bq10, 0, none⟩)), (.pointer (some ⟨bq2, 0, none⟩))])])) (Ex.build (vs := [(0, (.int .i64 (((X1 - X0 : Nat) : Int)))), (1, (.int .i64 (((Y1 - Y0 : Nat) : Int)))), (2, (.func (.func 58) #[] #[(.pointer (some ⟨bq10, 0, none⟩)), (.pointer (some ⟨bq2, 0, none⟩))]))]) rfl (by first | rfl | kernel_rfl)) (by decide) ?_
  refine GL.step (Stp.callR (vs := [(.agg #[(.int .i64 (((X1 - X0 : Nat) : Int))), (.int .i64 (((Y1 - Y0 : Nat) : Int))), (.func (.func 58) #[] #[(.pointer (some ⟨bq10, 0, none⟩)), (.pointer (some ⟨bq2, 0, none⟩))])])]) rfl rfl T.own55 (by decide) (fun wc hw => made (X1 - X0) (Y1 - Y0) (58) (#[(.pointer (some ⟨bq10, 0, none⟩)), (.pointer (some ⟨bq2, 0, none⟩))]) (fun x y => smp xs W (X0 + x) (Y0 + y)) wc ⟨T.own58, fun x y hx' hy' w3 hk3 => cropC x y W H X0 Y0 X1 Y1 bq10 bq2 75 #[.pointer (some ⟨xq8, 0, none⟩)] (smp xs W) w3 ((Has.cons (o := true) (hw.get (i := 0) rfl) (Has.nil _)).later hk3 _ List.mem_cons_self) ((Has.cons (o := true) (hw.get (i := 3) rfl) (Has.nil _)).later hk3 _ List.mem_cons_self) ((of_fb W H n cap b o xq8 true xs w hok hn hx hr).fn2 (hw.1.two hk3) ((Has.cons (hw.get (i := 1) rfl) (Has.nil _)).later hk3)) hx' hy' hok.2.2.1 hok.2.2.2.1 hX1 hY1⟩ (by obtain ⟨_, _, h, _⟩ := hok; omega) (by obtain ⟨_, _, _, h, _⟩ := hok; omega) (Nat.le_trans (Nat.mul_le_mul (by omega : X1 - X0 ≤ W) (by omega : Y1 - Y0 ≤ H)) hok.2.2.2.2))) (fun xq11 hq12 => ?_)
  refine GL.step (Stp.st3 (cs' := [(.int .i64 (((X1 - X0 : Nat) : Int))), (.int .i64 (((Y1 - Y0 : Nat) : Int))), (.slice (some ⟨xq11, 0, none⟩) ((X1 - X0) * (Y1 - Y0)) ((X1 - X0) * (Y1 - Y0)))]) rfl rfl rfl T.sz32 rfl rfl rfl) (fun _ _ => ?_)
  refine GL.val (Ex.assign rfl) (by decide) ?_
  refine GL.nil ?_
  refine GE.thenN ?_
  refine GC.ret ?_
  refine GC.ret2 rfl (Rv.cellA rfl T.ag32 T.sz32 (L := _) (i := 3) rfl (vs := [(.int .i64 (((X1 - X0 : Nat) : Int))), (.int .i64 (((Y1 - Y0 : Nat) : Int))), (.slice (some ⟨xq11, 0, none⟩) ((X1 - X0) * (Y1 - Y0)) ((X1 - X0) * (Y1 - Y0)))]) rfl rfl) (Rv.tmp rfl) (fun wN HN => ?_)
  exact HN.ret (xq11) trivial rfl (ulC (ulS (ulS (ulS (ulS (ulS ulN)))))) rfl

set_option maxRecDepth 100000 in
set_option maxHeartbeats 1000000 in
theorem inner_in (i f m : Int) (w : World) (hi : 0 ≤ i ∧ i ≤ 1024) (hm : 1 ≤ m ∧ m ≤ 1024) (hf : (f ≤ i ∧ i < f + m)) :
    Calls Try.prog 60 #[(.int .i64 i), (.int .i64 f), (.int .i64 m)] w (Ret w (fun _ : Unit => True) (fun _ => (.tuple #[.int .i64 (i - f), .bool true])) (fun _ => [])) := by
  refine enter (M := None) (L := []) (n := 21) (l := [(0, (.int .i64 i)), (1, (.int .i64 f)), (2, (.int .i64 m))]) Try.func60 rfl rfl (Args.cons rfl (Args.cons rfl (Args.cons rfl (Args.nil _)))) (Hp.start _ _) ?_
  refine GC.seq ?_
  refine GC.region ?_
  refine GL.val (Ex.assign rfl) (by decide) ?_
  refine GL.val (Ex.assign rfl) (by decide) ?_
  refine GL.nil ?_
  refine GE.thenN ?_
  refine GC.seq ?_
  refine GC.seq ?_
  refine GC.region ?_
  refine GL.val (Ex.move rfl) (by decide) ?_
  refine GL.val (Ex.move rfl) (by decide) ?_
  refine GL.val (v := (.bool false)) (Ex.cast (Ex.gtr rfl rfl) (congrArg Value.bool (decide_eq_false (by omega)))) (by decide) ?_
  refine GL.val (Ex.move rfl) (by decide) ?_
  refine GL.stepG (tj := 11) rfl rfl (Ex.wp (v := (.int .i64 f)) (Ex.move rfl) (by decide)) (fun _ _ => ?_)
  refine GL.stepG (tj := 11) rfl rfl (Ex.wp (v := (.int .i64 i)) (Ex.move rfl) (by decide)) (fun _ _ => ?_)
  refine GL.stepG (tj := 11) rfl rfl (Ex.wp (v := (.int .i64 m)) (Ex.move rfl) (by decide)) (fun _ _ => ?_)
  refine GL.stepG (tj := 11) rfl rfl (Ex.wp (v := (.int .i64 (i - m))) (Ex.sub' rfl rfl (Z := i - m) (w64 (by omega))) (by decide)) (fun _ _ => ?_)
  refine GL.stepG (tj := 11) rfl rfl (Ex.wp (v := (.bool false)) (Ex.cast (Ex.leq rfl rfl) (congrArg Value.bool (decide_eq_false (by omega)))) (by decide)) (fun _ _ => ?_)
  refine GL.val (v := (.bool false)) (Ex.pickF rfl rfl) (by decide) ?_
  refine GL.nil ?_
  refine GE.thenN ?_
  refine GC.cond rfl (fun hq1 => by cases hq1) (fun _ => ?_)
  refine GC.skip ?_
  refine GE.thenN ?_
  refine GC.seq ?_
  refine GC.region ?_
  refine GL.val (Ex.move rfl) (by decide) ?_
  refine GL.val (Ex.move rfl) (by decide) ?_
  refine GL.val (v := (.int .i64 (i - f))) (Ex.sub' rfl rfl (Z := i - f) (w64 (by omega))) (by decide) ?_
  refine GL.val (Ex.assign rfl) (by decide) ?_
  refine GL.val (Ex.assign rfl) (by decide) ?_
  refine GL.nil ?_
  refine GE.thenN ?_
  refine GC.ret ?_
  refine GC.ret2 rfl (Rv.tmp rfl) (Rv.tmp rfl) (fun wN HN => ?_)
  exact HN.ret () trivial rfl (List.nil_sublist _) rfl

set_option maxRecDepth 100000 in
set_option maxHeartbeats 1000000 in
theorem inner_out (i f m : Int) (w : World) (hi : 0 ≤ i ∧ i ≤ 1024) (hm : 1 ≤ m ∧ m ≤ 1024) (hf : ¬ (f ≤ i ∧ i < f + m)) :
    Calls Try.prog 60 #[(.int .i64 i), (.int .i64 f), (.int .i64 m)] w (Ret w (fun _ : Unit => True) (fun _ => (.tuple #[.int .i64 0, .bool false])) (fun _ => [])) := by
  refine enter (M := None) (L := []) (n := 21) (l := [(0, (.int .i64 i)), (1, (.int .i64 f)), (2, (.int .i64 m))]) Try.func60 rfl rfl (Args.cons rfl (Args.cons rfl (Args.cons rfl (Args.nil _)))) (Hp.start _ _) ?_
  refine GC.seq ?_
  refine GC.region ?_
  refine GL.val (Ex.assign rfl) (by decide) ?_
  refine GL.val (Ex.assign rfl) (by decide) ?_
  refine GL.nil ?_
  refine GE.thenN ?_
  refine GC.seq ?_
  refine GC.seq ?_
  refine GC.region ?_
  refine GL.val (Ex.move rfl) (by decide) ?_
  refine GL.val (Ex.move rfl) (by decide) ?_
  by_cases hq1 : i < f
  · refine GL.val (v := (.bool true)) (Ex.cast (Ex.gtr rfl rfl) (congrArg Value.bool (decide_eq_true hq1))) (by decide) ?_
    refine GL.val (Ex.move rfl) (by decide) ?_
    refine GL.skipG (tj := 11) rfl rfl rfl (by decide) ?_
    refine GL.skipG (tj := 11) rfl rfl rfl (by decide) ?_
    refine GL.skipG (tj := 11) rfl rfl rfl (by decide) ?_
    refine GL.skipG (tj := 11) rfl rfl rfl (by decide) ?_
    refine GL.skipG (tj := 11) rfl rfl rfl (by decide) ?_
    refine GL.val (v := (.bool true)) (Ex.pickT rfl rfl) (by decide) ?_
    refine GL.nil ?_
    refine GE.thenN ?_
    refine GC.cond rfl (fun _ => ?_) (fun hq2 => by cases hq2)
    refine GC.seq ?_
    refine GC.region ?_
    refine GL.val (Ex.assign rfl) (by decide) ?_
    refine GL.val (Ex.assign rfl) (by decide) ?_
    refine GL.nil ?_
    refine GE.thenN ?_
    refine GC.ret ?_
    refine GE.thenR ?_
    refine GC.ret2 rfl (Rv.tmp rfl) (Rv.tmp rfl) (fun wN HN => ?_)
    exact HN.ret () trivial rfl (List.nil_sublist _) rfl
  · refine GL.val (v := (.bool false)) (Ex.cast (Ex.gtr rfl rfl) (congrArg Value.bool (decide_eq_false hq1))) (by decide) ?_
    refine GL.val (Ex.move rfl) (by decide) ?_
    refine GL.stepG (tj := 11) rfl rfl (Ex.wp (v := (.int .i64 f)) (Ex.move rfl) (by decide)) (fun _ _ => ?_)
    refine GL.stepG (tj := 11) rfl rfl (Ex.wp (v := (.int .i64 i)) (Ex.move rfl) (by decide)) (fun _ _ => ?_)
    refine GL.stepG (tj := 11) rfl rfl (Ex.wp (v := (.int .i64 m)) (Ex.move rfl) (by decide)) (fun _ _ => ?_)
    refine GL.stepG (tj := 11) rfl rfl (Ex.wp (v := (.int .i64 (i - m))) (Ex.sub' rfl rfl (Z := i - m) (w64 (by omega))) (by decide)) (fun _ _ => ?_)
    refine GL.stepG (tj := 11) rfl rfl (Ex.wp (v := (.bool (decide (f ≤ (i - m))))) (Ex.leq rfl rfl) (by decide)) (fun _ _ => ?_)
    refine GL.val (v := (.bool (decide (f ≤ (i - m))))) (Ex.pickF rfl rfl) (by decide) ?_
    refine GL.nil ?_
    refine GE.thenN ?_
    refine GC.cond rfl (fun hq3 => ?_) (fun hq3 => ?_)
    · replace hq3 := of_decide_eq_true hq3
      refine GC.seq ?_
      refine GC.region ?_
      refine GL.val (Ex.assign rfl) (by decide) ?_
      refine GL.val (Ex.assign rfl) (by decide) ?_
      refine GL.nil ?_
      refine GE.thenN ?_
      refine GC.ret ?_
      refine GE.thenR ?_
      refine GC.ret2 rfl (Rv.tmp rfl) (Rv.tmp rfl) (fun wN HN => ?_)
      exact HN.ret () trivial rfl (List.nil_sublist _) rfl
    · replace hq3 := of_decide_eq_false hq3
      exfalso; omega

set_option maxRecDepth 100000 in
set_option maxHeartbeats 1000000 in
theorem pasteC (i j W H V U m cap2 b2 o2 bx bY bq bo bu : Nat) (X Y : Int) (f1 f2 : FuncId) (c1 c2 : Array Value) (g1 g2 : Nat → Nat → Int) (w : World) (h1 : w.heap[bx]? = some (.cells #[(.int .i64 X)] 3 (0, 0))) (h2 : w.heap[bq]? = some (.cells #[(.int .i64 ((V : Int))), (.int .i64 ((U : Int))), (.slice (some ⟨b2, o2, none⟩) m cap2)] 32 (0, 0))) (h3 : w.heap[bY]? = some (.cells #[(.int .i64 Y)] 3 (0, 0))) (h4 : w.heap[bo]? = some (.cells #[(.func (.func f2) #[] c2)] 88 (0, 0))) (h5 : w.heap[bu]? = some (.cells #[(.func (.func f1) #[] c1)] 88 (0, 0)))
    (hf1 : Fn2 Try.prog w f1 c1 W H g1) (hf2 : Fn2 Try.prog w f2 c2 V U g2) (hi : i < W) (hj : j < H) (hok : okP W H) (hok2 : okP V U) (hX : -9223372036854775808 ≤ X ∧ X ≤ 9223372036854775807) (hY : -9223372036854775808 ≤ Y ∧ Y ≤ 9223372036854775807) :
    Calls Try.prog 59 #[(.int .i64 ((i : Int))), (.int .i64 ((j : Int))), (.pointer (some ⟨bx, 0, none⟩)), (.pointer (some ⟨bq, 0, none⟩)), (.pointer (some ⟨bY, 0, none⟩)), (.pointer (some ⟨bo, 0, none⟩)), (.pointer (some ⟨bu, 0, none⟩))] w (Ret w (fun _ : Unit => True) (fun _ => .int .u32 (pst X Y V U g1 g2 i j)) (fun _ => [])) := by
  obtain ⟨k1, k2, k3, k4, _⟩ := hok
  obtain ⟨k5, k6, k7, k8, _⟩ := hok2
  refine enter (M := None) (L := [⟨bx, [(.int .i64 X)], 3, false⟩, ⟨bq, [(.int .i64 ((V : Int))), (.int .i64 ((U : Int))), (.slice (some ⟨b2, o2, none⟩) m cap2)], 32, false⟩, ⟨bY, [(.int .i64 Y)], 3, false⟩, ⟨bo, [(.func (.func f2) #[] c2)], 88, false⟩, ⟨bu, [(.func (.func f1) #[] c1)], 88, false⟩]) (n := 42) (l := [(0, (.int .i64 ((i : Int)))), (1, (.int .i64 ((j : Int)))), (2, (.pointer (some ⟨bx, 0, none⟩))), (3, (.pointer (some ⟨bq, 0, none⟩))), (4, (.pointer (some ⟨bY, 0, none⟩))), (5, (.pointer (some ⟨bo, 0, none⟩))), (6, (.pointer (some ⟨bu, 0, none⟩)))]) Try.func59 rfl rfl (Args.cons rfl (Args.cons rfl (Args.cons rfl (Args.cons rfl (Args.cons rfl (Args.cons rfl (Args.cons rfl (Args.nil _)))))))) (Hp.reads (Has.cons h1 (Has.cons h2 (Has.cons h3 (Has.cons h4 (Has.cons h5 (Has.nil _)))))) rfl) ?_
  refine GC.seq ?_
  refine GC.region ?_
  refine GL.val (Ex.assign rfl) (by decide) ?_
  refine GL.nil ?_
  refine GE.thenN ?_
  refine GC.seq ?_
  by_cases hs1 : X ≤ (i : Int) ∧ (i : Int) < X + V
  · refine GC.region ?_
    refine GL.val (Ex.move rfl) (by decide) ?_
    refine GL.val (Ex.load rfl T.ag3 (i := 0) rfl rfl) (by decide) ?_
    refine GL.val (v := (.pointer (some ⟨bq, 0, none⟩))) (Ex.cast (Ex.fieldAddr rfl Try.underlying32 rfl T.sz3 (by decide)) rfl) (by decide) ?_
    refine GL.val (Ex.load rfl T.ag3 (i := 1) rfl rfl) (by decide) ?_
    refine GL.step (Stp.callR (vs := [(.int .i64 ((i : Int))), (.int .i64 X), (.int .i64 ((V : Int)))]) rfl rfl T.own60 (by decide) (fun wc hw => inner_in i X V wc (by omega) (by omega) hs1)) (fun xq1 hq2 => ?_)
    refine GL.val (Ex.move rfl) (by decide) ?_
    refine GL.val (Ex.extract rfl rfl) (by decide) ?_
    refine GL.val (Ex.extract rfl rfl) (by decide) ?_
    refine GL.val (Ex.assign rfl) (by decide) ?_
    refine GL.val (Ex.assign rfl) (by decide) ?_
    refine GL.nil ?_
    refine GE.thenN ?_
    refine GC.seq ?_
    by_cases hs2 : Y ≤ (j : Int) ∧ (j : Int) < Y + U
    · refine GC.region ?_
      refine GL.val (Ex.move rfl) (by decide) ?_
      refine GL.val (Ex.load rfl T.ag3 (i := 2) rfl rfl) (by decide) ?_
      refine GL.val (v := (.pointer (some ⟨bq, 1, none⟩))) (Ex.cast (Ex.fieldAddr rfl Try.underlying32 rfl T.sz3 (by decide)) rfl) (by decide) ?_
      refine GL.val (Ex.load rfl T.ag3 (i := 1) rfl rfl) (by decide) ?_
      refine GL.step (Stp.callR (vs := [(.int .i64 ((j : Int))), (.int .i64 Y), (.int .i64 ((U : Int)))]) rfl rfl T.own60 (by decide) (fun wc hw => inner_in j Y U wc (by omega) (by omega) hs2)) (fun xq3 hq4 => ?_)
      refine GL.val (Ex.move rfl) (by decide) ?_
      refine GL.val (Ex.extract rfl rfl) (by decide) ?_
      refine GL.val (Ex.extract rfl rfl) (by decide) ?_
      refine GL.val (Ex.assign rfl) (by decide) ?_
      refine GL.val (Ex.assign rfl) (by decide) ?_
      refine GL.nil ?_
      refine GE.thenN ?_
      refine GC.seq ?_
      refine GC.seq ?_
      refine GC.region ?_
      refine GL.val (Ex.move rfl) (by decide) ?_
      refine GL.val (Ex.move rfl) (by decide) ?_
      refine GL.stepG (tj := 31) rfl rfl (Ex.wp (v := (.bool true)) (Ex.move rfl) (by decide)) (fun _ _ => ?_)
      refine GL.val (v := (.bool true)) (Ex.pickT rfl rfl) (by decide) ?_
      refine GL.nil ?_
      refine GE.thenN ?_
      refine GC.cond rfl (fun _ => ?_) (fun hq5 => by cases hq5)
      refine GC.seq ?_
      refine GC.region ?_
      refine GL.val (Ex.load rfl T.ag88 (i := 3) rfl rfl) (by decide) ?_
      refine GL.val (Ex.move rfl) (by decide) ?_
      refine GL.val (Ex.move rfl) (by decide) ?_
      refine GL.step (Stp.callR (vs := [(.int .i64 (i - X)), (.int .i64 (j - Y))]) rfl rfl hf2.1 (by decide) (fun wc hw => by have h := hf2.2 ((i : Int) - X).toNat ((j : Int) - Y).toNat (by omega) (by omega) wc hw.1; rw [Int.toNat_of_nonneg (by omega), Int.toNat_of_nonneg (by omega)] at h; exact h)) (fun xq6 hq7 => ?_)
      refine GL.val (Ex.assign rfl) (by decide) ?_
      refine GL.nil ?_
      refine GE.thenN ?_
      refine GC.ret ?_
      refine GE.thenR ?_
      refine GC.ret1 rfl (Rv.tmp rfl) (fun wN HN => ?_)
      exact HN.ret () trivial (by unfold pst; rw [if_pos ⟨hs1, hs2⟩]) (List.nil_sublist _) rfl
    · refine GC.region ?_
      refine GL.val (Ex.move rfl) (by decide) ?_
      refine GL.val (Ex.load rfl T.ag3 (i := 2) rfl rfl) (by decide) ?_
      refine GL.val (v := (.pointer (some ⟨bq, 1, none⟩))) (Ex.cast (Ex.fieldAddr rfl Try.underlying32 rfl T.sz3 (by decide)) rfl) (by decide) ?_
      refine GL.val (Ex.load rfl T.ag3 (i := 1) rfl rfl) (by decide) ?_
      refine GL.step (Stp.callR (vs := [(.int .i64 ((j : Int))), (.int .i64 Y), (.int .i64 ((U : Int)))]) rfl rfl T.own60 (by decide) (fun wc hw => inner_out j Y U wc (by omega) (by omega) hs2)) (fun xq8 hq9 => ?_)
      refine GL.val (Ex.move rfl) (by decide) ?_
      refine GL.val (Ex.extract rfl rfl) (by decide) ?_
      refine GL.val (Ex.extract rfl rfl) (by decide) ?_
      refine GL.val (Ex.assign rfl) (by decide) ?_
      refine GL.val (Ex.assign rfl) (by decide) ?_
      refine GL.nil ?_
      refine GE.thenN ?_
      refine GC.seq ?_
      refine GC.seq ?_
      refine GC.region ?_
      refine GL.val (Ex.move rfl) (by decide) ?_
      refine GL.val (Ex.move rfl) (by decide) ?_
      refine GL.stepG (tj := 31) rfl rfl (Ex.wp (v := (.bool false)) (Ex.move rfl) (by decide)) (fun _ _ => ?_)
      refine GL.val (v := (.bool false)) (Ex.pickT rfl rfl) (by decide) ?_
      refine GL.nil ?_
      refine GE.thenN ?_
      refine GC.cond rfl (fun hq10 => by cases hq10) (fun _ => ?_)
      refine GC.skip ?_
      refine GE.thenN ?_
      refine GC.seq ?_
      refine GC.region ?_
      refine GL.val (Ex.load rfl T.ag88 (i := 4) rfl rfl) (by decide) ?_
      refine GL.val (Ex.move rfl) (by decide) ?_
      refine GL.val (Ex.move rfl) (by decide) ?_
      refine GL.step (Stp.callR (vs := [(.int .i64 ((i : Int))), (.int .i64 ((j : Int)))]) rfl rfl hf1.1 (by decide) (fun wc hw => hf1.2 i j (by omega) (by omega) wc hw.1)) (fun xq11 hq12 => ?_)
      refine GL.val (Ex.assign rfl) (by decide) ?_
      refine GL.nil ?_
      refine GE.thenN ?_
      refine GC.ret ?_
      refine GC.ret1 rfl (Rv.tmp rfl) (fun wN HN => ?_)
      exact HN.ret () trivial (by unfold pst; rw [if_neg (fun h => hs2 h.2)]) (List.nil_sublist _) rfl
  · refine GC.region ?_
    refine GL.val (Ex.move rfl) (by decide) ?_
    refine GL.val (Ex.load rfl T.ag3 (i := 0) rfl rfl) (by decide) ?_
    refine GL.val (v := (.pointer (some ⟨bq, 0, none⟩))) (Ex.cast (Ex.fieldAddr rfl Try.underlying32 rfl T.sz3 (by decide)) rfl) (by decide) ?_
    refine GL.val (Ex.load rfl T.ag3 (i := 1) rfl rfl) (by decide) ?_
    refine GL.step (Stp.callR (vs := [(.int .i64 ((i : Int))), (.int .i64 X), (.int .i64 ((V : Int)))]) rfl rfl T.own60 (by decide) (fun wc hw => inner_out i X V wc (by omega) (by omega) hs1)) (fun xq13 hq14 => ?_)
    refine GL.val (Ex.move rfl) (by decide) ?_
    refine GL.val (Ex.extract rfl rfl) (by decide) ?_
    refine GL.val (Ex.extract rfl rfl) (by decide) ?_
    refine GL.val (Ex.assign rfl) (by decide) ?_
    refine GL.val (Ex.assign rfl) (by decide) ?_
    refine GL.nil ?_
    refine GE.thenN ?_
    refine GC.seq ?_
    by_cases hs2 : Y ≤ (j : Int) ∧ (j : Int) < Y + U
    · refine GC.region ?_
      refine GL.val (Ex.move rfl) (by decide) ?_
      refine GL.val (Ex.load rfl T.ag3 (i := 2) rfl rfl) (by decide) ?_
      refine GL.val (v := (.pointer (some ⟨bq, 1, none⟩))) (Ex.cast (Ex.fieldAddr rfl Try.underlying32 rfl T.sz3 (by decide)) rfl) (by decide) ?_
      refine GL.val (Ex.load rfl T.ag3 (i := 1) rfl rfl) (by decide) ?_
      refine GL.step (Stp.callR (vs := [(.int .i64 ((j : Int))), (.int .i64 Y), (.int .i64 ((U : Int)))]) rfl rfl T.own60 (by decide) (fun wc hw => inner_in j Y U wc (by omega) (by omega) hs2)) (fun xq15 hq16 => ?_)
      refine GL.val (Ex.move rfl) (by decide) ?_
      refine GL.val (Ex.extract rfl rfl) (by decide) ?_
      refine GL.val (Ex.extract rfl rfl) (by decide) ?_
      refine GL.val (Ex.assign rfl) (by decide) ?_
      refine GL.val (Ex.assign rfl) (by decide) ?_
      refine GL.nil ?_
      refine GE.thenN ?_
      refine GC.seq ?_
      refine GC.seq ?_
      refine GC.region ?_
      refine GL.val (Ex.move rfl) (by decide) ?_
      refine GL.val (Ex.move rfl) (by decide) ?_
      refine GL.skipG (tj := 31) rfl rfl rfl (by decide) ?_
      refine GL.val (v := (.bool false)) (Ex.pickF rfl rfl) (by decide) ?_
      refine GL.nil ?_
      refine GE.thenN ?_
      refine GC.cond rfl (fun hq17 => by cases hq17) (fun _ => ?_)
      refine GC.skip ?_
      refine GE.thenN ?_
      refine GC.seq ?_
      refine GC.region ?_
      refine GL.val (Ex.load rfl T.ag88 (i := 4) rfl rfl) (by decide) ?_
      refine GL.val (Ex.move rfl) (by decide) ?_
      refine GL.val (Ex.move rfl) (by decide) ?_
      refine GL.step (Stp.callR (vs := [(.int .i64 ((i : Int))), (.int .i64 ((j : Int)))]) rfl rfl hf1.1 (by decide) (fun wc hw => hf1.2 i j (by omega) (by omega) wc hw.1)) (fun xq18 hq19 => ?_)
      refine GL.val (Ex.assign rfl) (by decide) ?_
      refine GL.nil ?_
      refine GE.thenN ?_
      refine GC.ret ?_
      refine GC.ret1 rfl (Rv.tmp rfl) (fun wN HN => ?_)
      exact HN.ret () trivial (by unfold pst; rw [if_neg (fun h => hs1 h.1)]) (List.nil_sublist _) rfl
    · refine GC.region ?_
      refine GL.val (Ex.move rfl) (by decide) ?_
      refine GL.val (Ex.load rfl T.ag3 (i := 2) rfl rfl) (by decide) ?_
      refine GL.val (v := (.pointer (some ⟨bq, 1, none⟩))) (Ex.cast (Ex.fieldAddr rfl Try.underlying32 rfl T.sz3 (by decide)) rfl) (by decide) ?_
      refine GL.val (Ex.load rfl T.ag3 (i := 1) rfl rfl) (by decide) ?_
      refine GL.step (Stp.callR (vs := [(.int .i64 ((j : Int))), (.int .i64 Y), (.int .i64 ((U : Int)))]) rfl rfl T.own60 (by decide) (fun wc hw => inner_out j Y U wc (by omega) (by omega) hs2)) (fun xq20 hq21 => ?_)
      refine GL.val (Ex.move rfl) (by decide) ?_
      refine GL.val (Ex.extract rfl rfl) (by decide) ?_
      refine GL.val (Ex.extract rfl rfl) (by decide) ?_
      refine GL.val (Ex.assign rfl) (by decide) ?_
      refine GL.val (Ex.assign rfl) (by decide) ?_
      refine GL.nil ?_
      refine GE.thenN ?_
      refine GC.seq ?_
      refine GC.seq ?_
      refine GC.region ?_
      refine GL.val (Ex.move rfl) (by decide) ?_
      refine GL.val (Ex.move rfl) (by decide) ?_
      refine GL.skipG (tj := 31) rfl rfl rfl (by decide) ?_
      refine GL.val (v := (.bool false)) (Ex.pickF rfl rfl) (by decide) ?_
      refine GL.nil ?_
      refine GE.thenN ?_
      refine GC.cond rfl (fun hq22 => by cases hq22) (fun _ => ?_)
      refine GC.skip ?_
      refine GE.thenN ?_
      refine GC.seq ?_
      refine GC.region ?_
      refine GL.val (Ex.load rfl T.ag88 (i := 4) rfl rfl) (by decide) ?_
      refine GL.val (Ex.move rfl) (by decide) ?_
      refine GL.val (Ex.move rfl) (by decide) ?_
      refine GL.step (Stp.callR (vs := [(.int .i64 ((i : Int))), (.int .i64 ((j : Int)))]) rfl rfl hf1.1 (by decide) (fun wc hw => hf1.2 i j (by omega) (by omega) wc hw.1)) (fun xq23 hq24 => ?_)
      refine GL.val (Ex.assign rfl) (by decide) ?_
      refine GL.nil ?_
      refine GE.thenN ?_
      refine GC.ret ?_
      refine GC.ret1 rfl (Rv.tmp rfl) (fun wN HN => ?_)
      exact HN.ret () trivial (by unfold pst; rw [if_neg (fun h => hs1 h.1)]) (List.nil_sublist _) rfl

set_option maxRecDepth 100000 in
set_option maxHeartbeats 1000000 in
theorem paste (W H n cap b o V U m cap2 b2 o2 : Nat) (xs ys : List Int) (X Y : Int) (w : World) (hok : okP W H) (hn : n = W * H) (hx : xs.length = n) (hr : Rd w b o (xs.map u32)) (hok2 : okP V U) (hm : m = V * U) (hx2 : ys.length = m) (hr2 : Rd w b2 o2 (ys.map u32)) (hX : (-9223372036854775808 ≤ X ∧ X ≤ 9223372036854775807)) (hY : (-9223372036854775808 ≤ Y ∧ Y ≤ 9223372036854775807)) :
    Calls Try.prog 25 #[(.agg #[(.int .i64 ((W : Int))), (.int .i64 ((H : Int))), (.slice (some ⟨b, o, none⟩) n cap)]), (.agg #[(.int .i64 ((V : Int))), (.int .i64 ((U : Int))), (.slice (some ⟨b2, o2, none⟩) m cap2)]), (.int .i64 X), (.int .i64 Y)] w (Ret w (fun _ : Nat => True) (fun r => .tuple #[.agg #[.int .i64 ((W : Nat) : Int), .int .i64 ((H : Nat) : Int), .slice (some ⟨r, 0, none⟩) (W * H) (W * H)], .int .i64 0]) (fun r => [⟨r, (tab W (pst X Y V U (smp xs W) (smp ys V)) (W * H)).map u32, 72, true⟩])) := by
  refine enter (M := None) (L := []) (n := 37) (l := [(0, (.agg #[(.int .i64 ((W : Int))), (.int .i64 ((H : Int))), (.slice (some ⟨b, o, none⟩) n cap)])), (1, (.agg #[(.int .i64 ((V : Int))), (.int .i64 ((U : Int))), (.slice (some ⟨b2, o2, none⟩) m cap2)])), (2, (.int .i64 X)), (3, (.int .i64 Y))]) Try.func25 rfl rfl (Args.cons rfl (Args.cons rfl (Args.cons rfl (Args.cons rfl (Args.nil _))))) (Hp.start _ _) ?_
  refine GC.seq ?_
  refine GC.region ?_
  refine GL.step (Stp.box (cs := [(.int .i64 ((W : Int))), (.int .i64 ((H : Int))), (.slice (some ⟨b, o, none⟩) n cap)]) rfl rfl (by decide)) (fun bq1 _ => ?_)
  refine GL.step (Stp.box (cs := [(.int .i64 ((V : Int))), (.int .i64 ((U : Int))), (.slice (some ⟨b2, o2, none⟩) m cap2)]) rfl rfl (by decide)) (fun bq2 _ => ?_)
  refine GL.step (Stp.box (cs := [(.int .i64 X)]) rfl rfl (by decide)) (fun bq3 _ => ?_)
  refine GL.step (Stp.box (cs := [(.int .i64 Y)]) rfl rfl (by decide)) (fun bq4 _ => ?_)
  refine GL.step (Stp.alloc T.zr32 (by decide)) (fun bq5 _ => ?_)
  refine GL.val (Ex.assign rfl) (by decide) ?_
  refine GL.nil ?_
  refine GE.thenN ?_
  refine GC.seq ?_
  refine GC.seq ?_
  refine GC.region ?_
  refine GL.val (v := (.agg #[(.int .i64 ((W : Int))), (.int .i64 ((H : Int))), (.slice (some ⟨b, o, none⟩) n cap)])) (Ex.loadA rfl T.ag32 T.sz32 (i := 4) rfl (vs := [(.int .i64 ((W : Int))), (.int .i64 ((H : Int))), (.slice (some ⟨b, o, none⟩) n cap)]) rfl rfl) (by decide) ?_
  refine GL.step (Stp.callR (vs := [(.agg #[(.int .i64 ((W : Int))), (.int .i64 ((H : Int))), (.slice (some ⟨b, o, none⟩) n cap)])]) rfl rfl T.own36 (by decide) (fun wc hw => (check_ok W H (some ⟨b, o, none⟩) n cap wc hok hn))) (fun xq6 hq7 => ?_)
  refine GL.val (Ex.assign rfl) (by decide) ?_
  refine GL.nil ?_
  refine GE.thenN ?_
  refine GC.seq ?_
  refine GC.region ?_
  refine GL.val (Ex.move rfl) (by decide) ?_
  refine GL.val (v := (.bool false)) (Ex.cast (Ex.neq rfl rfl) rfl) (by decide) ?_
  refine GL.nil ?_
  refine GE.thenN ?_
  refine GC.cond rfl (fun hq8 => by cases hq8) (fun _ => ?_)
  refine GC.skip ?_
  refine GE.thenN ?_
  refine GC.seq ?_
  refine GC.seq ?_
  refine GC.region ?_
  refine GL.val (v := (.agg #[(.int .i64 ((V : Int))), (.int .i64 ((U : Int))), (.slice (some ⟨b2, o2, none⟩) m cap2)])) (Ex.loadA rfl T.ag32 T.sz32 (i := 3) rfl (vs := [(.int .i64 ((V : Int))), (.int .i64 ((U : Int))), (.slice (some ⟨b2, o2, none⟩) m cap2)]) rfl rfl) (by decide) ?_
  refine GL.step (Stp.callR (vs := [(.agg #[(.int .i64 ((V : Int))), (.int .i64 ((U : Int))), (.slice (some ⟨b2, o2, none⟩) m cap2)])]) rfl rfl T.own36 (by decide) (fun wc hw => (check_ok V U (some ⟨b2, o2, none⟩) m cap2 wc hok2 hm))) (fun xq9 hq10 => ?_)
  refine GL.val (Ex.assign rfl) (by decide) ?_
  refine GL.nil ?_
  refine GE.thenN ?_
  refine GC.seq ?_
  refine GC.region ?_
  refine GL.val (Ex.move rfl) (by decide) ?_
  refine GL.val (v := (.bool false)) (Ex.cast (Ex.neq rfl rfl) rfl) (by decide) ?_
  refine GL.nil ?_
  refine GE.thenN ?_
  refine GC.cond rfl (fun hq11 => by cases hq11) (fun _ => ?_)
  refine GC.skip ?_
  refine GE.thenN ?_
  refine GC.seq ?_
  refine GC.join (σ := Nat × Nat × Nat × Nat) (fun j => True) (fun j => [(4, (.pointer (some ⟨bq1, 0, none⟩))), (5, (.pointer (some ⟨bq2, 0, none⟩))), (6, (.pointer (some ⟨bq3, 0, none⟩))), (7, (.pointer (some ⟨bq4, 0, none⟩))), (8, (.pointer (some ⟨bq5, 0, none⟩))), (9, (.int .i64 0)), (12, (.pointer (some ⟨j.2.2.1, 0, none⟩))), (13, (.pointer (some ⟨j.2.2.2, 0, none⟩)))]) (fun j => [⟨j.2.2.1, [(.func (.func 75) #[] #[(.pointer (some ⟨j.1, 0, none⟩))])], 88, true⟩, ⟨j.2.2.2, [(.func (.func 75) #[] #[(.pointer (some ⟨j.2.1, 0, none⟩))])], 88, true⟩, ⟨j.1, [(.int .i64 ((W : Int))), (.int .i64 ((H : Int))), (.slice (some ⟨b, o, none⟩) n cap)], 32, true⟩, ⟨j.2.1, [(.int .i64 ((V : Int))), (.int .i64 ((U : Int))), (.slice (some ⟨b2, o2, none⟩) m cap2)], 32, true⟩, ⟨bq1, [(.int .i64 ((W : Int))), (.int .i64 ((H : Int))), (.slice (some ⟨b, o, none⟩) n cap)], 32, true⟩, ⟨bq2, [(.int .i64 ((V : Int))), (.int .i64 ((U : Int))), (.slice (some ⟨b2, o2, none⟩) m cap2)], 32, true⟩, ⟨bq3, [(.int .i64 X)], 3, true⟩, ⟨bq4, [(.int .i64 Y)], 3, true⟩, ⟨bq5, [(.int .i64 0), (.int .i64 0), (.slice none 0 0)], 32, true⟩]) ?_ (fun j hj => ?_)
  · refine GC.drawP [⟨bq5, [(.int .i64 0), (.int .i64 0), (.slice none 0 0)], 32, true⟩, ⟨bq4, [(.int .i64 Y)], 3, true⟩, ⟨bq3, [(.int .i64 X)], 3, true⟩, ⟨bq2, [(.int .i64 ((V : Int))), (.int .i64 ((U : Int))), (.slice (some ⟨b2, o2, none⟩) m cap2)], 32, true⟩, ⟨bq1, [(.int .i64 ((W : Int))), (.int .i64 ((H : Int))), (.slice (some ⟨b, o, none⟩) n cap)], 32, true⟩] T.mixed (by kernel_rfl) (by kernel_rfl) (fuel := 7) rfl rfl ?_
    refine GH.take 0 (v := (.agg #[(.int .i64 ((W : Int))), (.int .i64 ((H : Int))), (.slice (some ⟨b, o, none⟩) n cap)])) rfl (by kernel_rfl) (by kernel_rfl) (by kernel_rfl) (fun _ _ _ h => h) (Ex.loadA rfl T.ag32 T.sz32 (i := 4) rfl (vs := [(.int .i64 ((W : Int))), (.int .i64 ((H : Int))), (.slice (some ⟨b, o, none⟩) n cap)]) rfl rfl) (ulC (ulC (ulC (ulC (ulC ulN))))) (by decide) ?_
    refine GH.take 2 (v := (.agg #[(.int .i64 ((V : Int))), (.int .i64 ((U : Int))), (.slice (some ⟨b2, o2, none⟩) m cap2)])) rfl (by kernel_rfl) (by kernel_rfl) (by kernel_rfl) (fun _ _ _ h => h) (Ex.loadA rfl T.ag32 T.sz32 (i := 3) rfl (vs := [(.int .i64 ((V : Int))), (.int .i64 ((U : Int))), (.slice (some ⟨b2, o2, none⟩) m cap2)]) rfl rfl) (ulC (ulC (ulC (ulC (ulC ulN))))) (by decide) ?_
    refine GH.many (rs := [1, 4, 5]) (by kernel_rfl) (by simp) ?_
    refine GHs.cons rfl (Stp.callR (vs := [(.agg #[(.int .i64 ((W : Int))), (.int .i64 ((H : Int))), (.slice (some ⟨b, o, none⟩) n cap)])]) rfl rfl T.own53 (by decide) (fun wc hw => of W H n cap b o wc)) (fun _ => (ulS (ulC (ulC (ulC (ulC (ulC ulN))))))) (fun xq12 hq13 => ?_) ?_
    · refine GH.many (rs := [3, 4, 5]) (by kernel_rfl) (by simp) ?_
      refine GHs.cons rfl (Stp.callR (vs := [(.agg #[(.int .i64 ((V : Int))), (.int .i64 ((U : Int))), (.slice (some ⟨b2, o2, none⟩) m cap2)])]) rfl rfl T.own53 (by decide) (fun wc hw => of V U m cap2 b2 o2 wc)) (fun _ => (ulS (ulS (ulC (ulC (ulC (ulC (ulC ulN)))))))) (fun xq14 hq15 => ?_) ?_
      · refine GH.many (rs := [4, 5]) (by kernel_rfl) (by simp) ?_
        refine GHs.cons rfl (Stp.alloc T.zr88 (by decide)) (fun _ => (ulS (ulS (ulS (ulC (ulC (ulC (ulC (ulC ulN))))))))) (fun bq16 _ => ?_) ?_
        · refine GH.one 5 rfl (by kernel_rfl) (Stp.alloc T.zr88 (by decide)) (fun _ => (ulS (ulS (ulS (ulS (ulC (ulC (ulC (ulC (ulC ulN)))))))))) (fun bq17 _ => ?_)
          refine GH.one 6 rfl (by kernel_rfl) (Stp.st1 (cs' := [(.func (.func 75) #[] #[(.pointer (some ⟨xq12, 0, none⟩))])]) rfl rfl rfl T.sz88 rfl rfl rfl) (fun _ => (ulS (ulS (ulS (ulS (ulC (ulC (ulC (ulC (ulC ulN)))))))))) (fun _ _ => ?_)
          refine GH.done (by kernel_rfl) ?_
          refine GE.thenN ?_
          refine GE.tail rfl (Stp.st0 (cs' := [(.func (.func 75) #[] #[(.pointer (some ⟨xq14, 0, none⟩))])]) rfl rfl rfl T.sz88 rfl rfl rfl) (fun _ _ => ?_)
          refine GE.thenN ?_
          exact St.mk ((xq12, xq14, bq16, bq17)) trivial (idx := [1, 0, 3, 2, 8, 7, 6, 5, 4]) ((sub_cons rfl ((sub_cons rfl ((sub_cons rfl ((sub_cons rfl ((sub_cons rfl ((sub_cons rfl ((sub_cons rfl ((sub_cons rfl ((sub_nil _)))))))))))))))))) (by decide) rfl
        refine GHs.cons rfl (Stp.alloc T.zr88 (by decide)) (fun _ => (ulS (ulS (ulS (ulC (ulC (ulC (ulC (ulC ulN))))))))) (fun bq18 _ => ?_) ?_
        · refine GH.one 4 rfl (by kernel_rfl) (Stp.alloc T.zr88 (by decide)) (fun _ => (ulS (ulS (ulS (ulS (ulC (ulC (ulC (ulC (ulC ulN)))))))))) (fun bq19 _ => ?_)
          refine GH.one 6 rfl (by kernel_rfl) (Stp.st0 (cs' := [(.func (.func 75) #[] #[(.pointer (some ⟨xq12, 0, none⟩))])]) rfl rfl rfl T.sz88 rfl rfl rfl) (fun _ => (ulS (ulS (ulS (ulS (ulC (ulC (ulC (ulC (ulC ulN)))))))))) (fun _ _ => ?_)
          refine GH.done (by kernel_rfl) ?_
          refine GE.thenN ?_
          refine GE.tail rfl (Stp.st1 (cs' := [(.func (.func 75) #[] #[(.pointer (some ⟨xq14, 0, none⟩))])]) rfl rfl rfl T.sz88 rfl rfl rfl) (fun _ _ => ?_)
          refine GE.thenN ?_
          exact St.mk ((xq12, xq14, bq19, bq18)) trivial (idx := [0, 1, 3, 2, 8, 7, 6, 5, 4]) ((sub_cons rfl ((sub_cons rfl ((sub_cons rfl ((sub_cons rfl ((sub_cons rfl ((sub_cons rfl ((sub_cons rfl ((sub_cons rfl ((sub_nil _)))))))))))))))))) (by decide) rfl
        exact GHs.nil
      refine GHs.cons rfl (Stp.alloc T.zr88 (by decide)) (fun _ => (ulS (ulS (ulC (ulC (ulC (ulC (ulC ulN)))))))) (fun bq20 _ => ?_) ?_
      · refine GH.many (rs := [3, 5]) (by kernel_rfl) (by simp) ?_
        refine GHs.cons rfl (Stp.callR (vs := [(.agg #[(.int .i64 ((V : Int))), (.int .i64 ((U : Int))), (.slice (some ⟨b2, o2, none⟩) m cap2)])]) rfl rfl T.own53 (by decide) (fun wc hw => of V U m cap2 b2 o2 wc)) (fun _ => (ulS (ulS (ulS (ulC (ulC (ulC (ulC (ulC ulN))))))))) (fun xq21 hq22 => ?_) ?_
        · refine GH.one 5 rfl (by kernel_rfl) (Stp.alloc T.zr88 (by decide)) (fun _ => (ulS (ulS (ulS (ulS (ulC (ulC (ulC (ulC (ulC ulN)))))))))) (fun bq23 _ => ?_)
          refine GH.one 6 rfl (by kernel_rfl) (Stp.st2 (cs' := [(.func (.func 75) #[] #[(.pointer (some ⟨xq12, 0, none⟩))])]) rfl rfl rfl T.sz88 rfl rfl rfl) (fun _ => (ulS (ulS (ulS (ulS (ulC (ulC (ulC (ulC (ulC ulN)))))))))) (fun _ _ => ?_)
          refine GH.done (by kernel_rfl) ?_
          refine GE.thenN ?_
          refine GE.tail rfl (Stp.st0 (cs' := [(.func (.func 75) #[] #[(.pointer (some ⟨xq21, 0, none⟩))])]) rfl rfl rfl T.sz88 rfl rfl rfl) (fun _ _ => ?_)
          refine GE.thenN ?_
          exact St.mk ((xq12, xq21, bq20, bq23)) trivial (idx := [2, 0, 3, 1, 8, 7, 6, 5, 4]) ((sub_cons rfl ((sub_cons rfl ((sub_cons rfl ((sub_cons rfl ((sub_cons rfl ((sub_cons rfl ((sub_cons rfl ((sub_cons rfl ((sub_nil _)))))))))))))))))) (by decide) rfl
        refine GHs.cons rfl (Stp.alloc T.zr88 (by decide)) (fun _ => (ulS (ulS (ulS (ulC (ulC (ulC (ulC (ulC ulN))))))))) (fun bq24 _ => ?_) ?_
        · refine GH.one 3 rfl (by kernel_rfl) (Stp.callR (vs := [(.agg #[(.int .i64 ((V : Int))), (.int .i64 ((U : Int))), (.slice (some ⟨b2, o2, none⟩) m cap2)])]) rfl rfl T.own53 (by decide) (fun wc hw => of V U m cap2 b2 o2 wc)) (fun _ => (ulS (ulS (ulS (ulS (ulC (ulC (ulC (ulC (ulC ulN)))))))))) (fun xq25 hq26 => ?_)
          refine GH.one 6 rfl (by kernel_rfl) (Stp.st2 (cs' := [(.func (.func 75) #[] #[(.pointer (some ⟨xq12, 0, none⟩))])]) rfl rfl rfl T.sz88 rfl rfl rfl) (fun _ => (ulS (ulS (ulS (ulS (ulC (ulC (ulC (ulC (ulC ulN)))))))))) (fun _ _ => ?_)
          refine GH.done (by kernel_rfl) ?_
          refine GE.thenN ?_
          refine GE.tail rfl (Stp.st1 (cs' := [(.func (.func 75) #[] #[(.pointer (some ⟨xq25, 0, none⟩))])]) rfl rfl rfl T.sz88 rfl rfl rfl) (fun _ _ => ?_)
          refine GE.thenN ?_
          exact St.mk ((xq12, xq25, bq20, bq24)) trivial (idx := [2, 1, 3, 0, 8, 7, 6, 5, 4]) ((sub_cons rfl ((sub_cons rfl ((sub_cons rfl ((sub_cons rfl ((sub_cons rfl ((sub_cons rfl ((sub_cons rfl ((sub_cons rfl ((sub_nil _)))))))))))))))))) (by decide) rfl
        exact GHs.nil
      refine GHs.cons rfl (Stp.alloc T.zr88 (by decide)) (fun _ => (ulS (ulS (ulC (ulC (ulC (ulC (ulC ulN)))))))) (fun bq27 _ => ?_) ?_
      · refine GH.many (rs := [3, 4]) (by kernel_rfl) (by simp) ?_
        refine GHs.cons rfl (Stp.callR (vs := [(.agg #[(.int .i64 ((V : Int))), (.int .i64 ((U : Int))), (.slice (some ⟨b2, o2, none⟩) m cap2)])]) rfl rfl T.own53 (by decide) (fun wc hw => of V U m cap2 b2 o2 wc)) (fun _ => (ulS (ulS (ulS (ulC (ulC (ulC (ulC (ulC ulN))))))))) (fun xq28 hq29 => ?_) ?_
        · refine GH.one 4 rfl (by kernel_rfl) (Stp.alloc T.zr88 (by decide)) (fun _ => (ulS (ulS (ulS (ulS (ulC (ulC (ulC (ulC (ulC ulN)))))))))) (fun bq30 _ => ?_)
          refine GH.one 6 rfl (by kernel_rfl) (Stp.st0 (cs' := [(.func (.func 75) #[] #[(.pointer (some ⟨xq12, 0, none⟩))])]) rfl rfl rfl T.sz88 rfl rfl rfl) (fun _ => (ulS (ulS (ulS (ulS (ulC (ulC (ulC (ulC (ulC ulN)))))))))) (fun _ _ => ?_)
          refine GH.done (by kernel_rfl) ?_
          refine GE.thenN ?_
          refine GE.tail rfl (Stp.st2 (cs' := [(.func (.func 75) #[] #[(.pointer (some ⟨xq28, 0, none⟩))])]) rfl rfl rfl T.sz88 rfl rfl rfl) (fun _ _ => ?_)
          refine GE.thenN ?_
          exact St.mk ((xq12, xq28, bq30, bq27)) trivial (idx := [0, 2, 3, 1, 8, 7, 6, 5, 4]) ((sub_cons rfl ((sub_cons rfl ((sub_cons rfl ((sub_cons rfl ((sub_cons rfl ((sub_cons rfl ((sub_cons rfl ((sub_cons rfl ((sub_nil _)))))))))))))))))) (by decide) rfl
        refine GHs.cons rfl (Stp.alloc T.zr88 (by decide)) (fun _ => (ulS (ulS (ulS (ulC (ulC (ulC (ulC (ulC ulN))))))))) (fun bq31 _ => ?_) ?_
        · refine GH.one 3 rfl (by kernel_rfl) (Stp.callR (vs := [(.agg #[(.int .i64 ((V : Int))), (.int .i64 ((U : Int))), (.slice (some ⟨b2, o2, none⟩) m cap2)])]) rfl rfl T.own53 (by decide) (fun wc hw => of V U m cap2 b2 o2 wc)) (fun _ => (ulS (ulS (ulS (ulS (ulC (ulC (ulC (ulC (ulC ulN)))))))))) (fun xq32 hq33 => ?_)
          refine GH.one 6 rfl (by kernel_rfl) (Stp.st1 (cs' := [(.func (.func 75) #[] #[(.pointer (some ⟨xq12, 0, none⟩))])]) rfl rfl rfl T.sz88 rfl rfl rfl) (fun _ => (ulS (ulS (ulS (ulS (ulC (ulC (ulC (ulC (ulC ulN)))))))))) (fun _ _ => ?_)
          refine GH.done (by kernel_rfl) ?_
          refine GE.thenN ?_
          refine GE.tail rfl (Stp.st2 (cs' := [(.func (.func 75) #[] #[(.pointer (some ⟨xq32, 0, none⟩))])]) rfl rfl rfl T.sz88 rfl rfl rfl) (fun _ _ => ?_)
          refine GE.thenN ?_
          exact St.mk ((xq12, xq32, bq31, bq27)) trivial (idx := [1, 2, 3, 0, 8, 7, 6, 5, 4]) ((sub_cons rfl ((sub_cons rfl ((sub_cons rfl ((sub_cons rfl ((sub_cons rfl ((sub_cons rfl ((sub_cons rfl ((sub_cons rfl ((sub_nil _)))))))))))))))))) (by decide) rfl
        exact GHs.nil
      exact GHs.nil
    refine GHs.cons rfl (Stp.alloc T.zr88 (by decide)) (fun _ => (ulS (ulC (ulC (ulC (ulC (ulC ulN))))))) (fun bq34 _ => ?_) ?_
    · refine GH.many (rs := [1, 5]) (by kernel_rfl) (by simp) ?_
      refine GHs.cons rfl (Stp.callR (vs := [(.agg #[(.int .i64 ((W : Int))), (.int .i64 ((H : Int))), (.slice (some ⟨b, o, none⟩) n cap)])]) rfl rfl T.own53 (by decide) (fun wc hw => of W H n cap b o wc)) (fun _ => (ulS (ulS (ulC (ulC (ulC (ulC (ulC ulN)))))))) (fun xq35 hq36 => ?_) ?_
      · refine GH.many (rs := [3, 5]) (by kernel_rfl) (by simp) ?_
        refine GHs.cons rfl (Stp.callR (vs := [(.agg #[(.int .i64 ((V : Int))), (.int .i64 ((U : Int))), (.slice (some ⟨b2, o2, none⟩) m cap2)])]) rfl rfl T.own53 (by decide) (fun wc hw => of V U m cap2 b2 o2 wc)) (fun _ => (ulS (ulS (ulS (ulC (ulC (ulC (ulC (ulC ulN))))))))) (fun xq37 hq38 => ?_) ?_
        · refine GH.one 5 rfl (by kernel_rfl) (Stp.alloc T.zr88 (by decide)) (fun _ => (ulS (ulS (ulS (ulS (ulC (ulC (ulC (ulC (ulC ulN)))))))))) (fun bq39 _ => ?_)
          refine GH.one 6 rfl (by kernel_rfl) (Stp.st3 (cs' := [(.func (.func 75) #[] #[(.pointer (some ⟨xq35, 0, none⟩))])]) rfl rfl rfl T.sz88 rfl rfl rfl) (fun _ => (ulS (ulS (ulS (ulS (ulC (ulC (ulC (ulC (ulC ulN)))))))))) (fun _ _ => ?_)
          refine GH.done (by kernel_rfl) ?_
          refine GE.thenN ?_
          refine GE.tail rfl (Stp.st0 (cs' := [(.func (.func 75) #[] #[(.pointer (some ⟨xq37, 0, none⟩))])]) rfl rfl rfl T.sz88 rfl rfl rfl) (fun _ _ => ?_)
          refine GE.thenN ?_
          exact St.mk ((xq35, xq37, bq34, bq39)) trivial (idx := [3, 0, 2, 1, 8, 7, 6, 5, 4]) ((sub_cons rfl ((sub_cons rfl ((sub_cons rfl ((sub_cons rfl ((sub_cons rfl ((sub_cons rfl ((sub_cons rfl ((sub_cons rfl ((sub_nil _)))))))))))))))))) (by decide) rfl
        refine GHs.cons rfl (Stp.alloc T.zr88 (by decide)) (fun _ => (ulS (ulS (ulS (ulC (ulC (ulC (ulC (ulC ulN))))))))) (fun bq40 _ => ?_) ?_
        · refine GH.one 3 rfl (by kernel_rfl) (Stp.callR (vs := [(.agg #[(.int .i64 ((V : Int))), (.int .i64 ((U : Int))), (.slice (some ⟨b2, o2, none⟩) m cap2)])]) rfl rfl T.own53 (by decide) (fun wc hw => of V U m cap2 b2 o2 wc)) (fun _ => (ulS (ulS (ulS (ulS (ulC (ulC (ulC (ulC (ulC ulN)))))))))) (fun xq41 hq42 => ?_)
          refine GH.one 6 rfl (by kernel_rfl) (Stp.st3 (cs' := [(.func (.func 75) #[] #[(.pointer (some ⟨xq35, 0, none⟩))])]) rfl rfl rfl T.sz88 rfl rfl rfl) (fun _ => (ulS (ulS (ulS (ulS (ulC (ulC (ulC (ulC (ulC ulN)))))))))) (fun _ _ => ?_)
          refine GH.done (by kernel_rfl) ?_
          refine GE.thenN ?_
          refine GE.tail rfl (Stp.st1 (cs' := [(.func (.func 75) #[] #[(.pointer (some ⟨xq41, 0, none⟩))])]) rfl rfl rfl T.sz88 rfl rfl rfl) (fun _ _ => ?_)
          refine GE.thenN ?_
          exact St.mk ((xq35, xq41, bq34, bq40)) trivial (idx := [3, 1, 2, 0, 8, 7, 6, 5, 4]) ((sub_cons rfl ((sub_cons rfl ((sub_cons rfl ((sub_cons rfl ((sub_cons rfl ((sub_cons rfl ((sub_cons rfl ((sub_cons rfl ((sub_nil _)))))))))))))))))) (by decide) rfl
        exact GHs.nil
      refine GHs.cons rfl (Stp.alloc T.zr88 (by decide)) (fun _ => (ulS (ulS (ulC (ulC (ulC (ulC (ulC ulN)))))))) (fun bq43 _ => ?_) ?_
      · refine GH.one 1 rfl (by kernel_rfl) (Stp.callR (vs := [(.agg #[(.int .i64 ((W : Int))), (.int .i64 ((H : Int))), (.slice (some ⟨b, o, none⟩) n cap)])]) rfl rfl T.own53 (by decide) (fun wc hw => of W H n cap b o wc)) (fun _ => (ulS (ulS (ulS (ulC (ulC (ulC (ulC (ulC ulN))))))))) (fun xq44 hq45 => ?_)
        refine GH.one 3 rfl (by kernel_rfl) (Stp.callR (vs := [(.agg #[(.int .i64 ((V : Int))), (.int .i64 ((U : Int))), (.slice (some ⟨b2, o2, none⟩) m cap2)])]) rfl rfl T.own53 (by decide) (fun wc hw => of V U m cap2 b2 o2 wc)) (fun _ => (ulS (ulS (ulS (ulS (ulC (ulC (ulC (ulC (ulC ulN)))))))))) (fun xq46 hq47 => ?_)
        refine GH.one 6 rfl (by kernel_rfl) (Stp.st3 (cs' := [(.func (.func 75) #[] #[(.pointer (some ⟨xq44, 0, none⟩))])]) rfl rfl rfl T.sz88 rfl rfl rfl) (fun _ => (ulS (ulS (ulS (ulS (ulC (ulC (ulC (ulC (ulC ulN)))))))))) (fun _ _ => ?_)
        refine GH.done (by kernel_rfl) ?_
        refine GE.thenN ?_
        refine GE.tail rfl (Stp.st2 (cs' := [(.func (.func 75) #[] #[(.pointer (some ⟨xq46, 0, none⟩))])]) rfl rfl rfl T.sz88 rfl rfl rfl) (fun _ _ => ?_)
        refine GE.thenN ?_
        exact St.mk ((xq44, xq46, bq34, bq43)) trivial (idx := [3, 2, 1, 0, 8, 7, 6, 5, 4]) ((sub_cons rfl ((sub_cons rfl ((sub_cons rfl ((sub_cons rfl ((sub_cons rfl ((sub_cons rfl ((sub_cons rfl ((sub_cons rfl ((sub_nil _)))))))))))))))))) (by decide) rfl
      exact GHs.nil
    refine GHs.cons rfl (Stp.alloc T.zr88 (by decide)) (fun _ => (ulS (ulC (ulC (ulC (ulC (ulC ulN))))))) (fun bq48 _ => ?_) ?_
    · refine GH.many (rs := [1, 4]) (by kernel_rfl) (by simp) ?_
      refine GHs.cons rfl (Stp.callR (vs := [(.agg #[(.int .i64 ((W : Int))), (.int .i64 ((H : Int))), (.slice (some ⟨b, o, none⟩) n cap)])]) rfl rfl T.own53 (by decide) (fun wc hw => of W H n cap b o wc)) (fun _ => (ulS (ulS (ulC (ulC (ulC (ulC (ulC ulN)))))))) (fun xq49 hq50 => ?_) ?_
      · refine GH.many (rs := [3, 4]) (by kernel_rfl) (by simp) ?_
        refine GHs.cons rfl (Stp.callR (vs := [(.agg #[(.int .i64 ((V : Int))), (.int .i64 ((U : Int))), (.slice (some ⟨b2, o2, none⟩) m cap2)])]) rfl rfl T.own53 (by decide) (fun wc hw => of V U m cap2 b2 o2 wc)) (fun _ => (ulS (ulS (ulS (ulC (ulC (ulC (ulC (ulC ulN))))))))) (fun xq51 hq52 => ?_) ?_
        · refine GH.one 4 rfl (by kernel_rfl) (Stp.alloc T.zr88 (by decide)) (fun _ => (ulS (ulS (ulS (ulS (ulC (ulC (ulC (ulC (ulC ulN)))))))))) (fun bq53 _ => ?_)
          refine GH.one 6 rfl (by kernel_rfl) (Stp.st0 (cs' := [(.func (.func 75) #[] #[(.pointer (some ⟨xq49, 0, none⟩))])]) rfl rfl rfl T.sz88 rfl rfl rfl) (fun _ => (ulS (ulS (ulS (ulS (ulC (ulC (ulC (ulC (ulC ulN)))))))))) (fun _ _ => ?_)
          refine GH.done (by kernel_rfl) ?_
          refine GE.thenN ?_
          refine GE.tail rfl (Stp.st3 (cs' := [(.func (.func 75) #[] #[(.pointer (some ⟨xq51, 0, none⟩))])]) rfl rfl rfl T.sz88 rfl rfl rfl) (fun _ _ => ?_)
          refine GE.thenN ?_
          exact St.mk ((xq49, xq51, bq53, bq48)) trivial (idx := [0, 3, 2, 1, 8, 7, 6, 5, 4]) ((sub_cons rfl ((sub_cons rfl ((sub_cons rfl ((sub_cons rfl ((sub_cons rfl ((sub_cons rfl ((sub_cons rfl ((sub_cons rfl ((sub_nil _)))))))))))))))))) (by decide) rfl
        refine GHs.cons rfl (Stp.alloc T.zr88 (by decide)) (fun _ => (ulS (ulS (ulS (ulC (ulC (ulC (ulC (ulC ulN))))))))) (fun bq54 _ => ?_) ?_
        · refine GH.one 3 rfl (by kernel_rfl) (Stp.callR (vs := [(.agg #[(.int .i64 ((V : Int))), (.int .i64 ((U : Int))), (.slice (some ⟨b2, o2, none⟩) m cap2)])]) rfl rfl T.own53 (by decide) (fun wc hw => of V U m cap2 b2 o2 wc)) (fun _ => (ulS (ulS (ulS (ulS (ulC (ulC (ulC (ulC (ulC ulN)))))))))) (fun xq55 hq56 => ?_)
          refine GH.one 6 rfl (by kernel_rfl) (Stp.st1 (cs' := [(.func (.func 75) #[] #[(.pointer (some ⟨xq49, 0, none⟩))])]) rfl rfl rfl T.sz88 rfl rfl rfl) (fun _ => (ulS (ulS (ulS (ulS (ulC (ulC (ulC (ulC (ulC ulN)))))))))) (fun _ _ => ?_)
          refine GH.done (by kernel_rfl) ?_
          refine GE.thenN ?_
          refine GE.tail rfl (Stp.st3 (cs' := [(.func (.func 75) #[] #[(.pointer (some ⟨xq55, 0, none⟩))])]) rfl rfl rfl T.sz88 rfl rfl rfl) (fun _ _ => ?_)
          refine GE.thenN ?_
          exact St.mk ((xq49, xq55, bq54, bq48)) trivial (idx := [1, 3, 2, 0, 8, 7, 6, 5, 4]) ((sub_cons rfl ((sub_cons rfl ((sub_cons rfl ((sub_cons rfl ((sub_cons rfl ((sub_cons rfl ((sub_cons rfl ((sub_cons rfl ((sub_nil _)))))))))))))))))) (by decide) rfl
        exact GHs.nil
      refine GHs.cons rfl (Stp.alloc T.zr88 (by decide)) (fun _ => (ulS (ulS (ulC (ulC (ulC (ulC (ulC ulN)))))))) (fun bq57 _ => ?_) ?_
      · refine GH.one 1 rfl (by kernel_rfl) (Stp.callR (vs := [(.agg #[(.int .i64 ((W : Int))), (.int .i64 ((H : Int))), (.slice (some ⟨b, o, none⟩) n cap)])]) rfl rfl T.own53 (by decide) (fun wc hw => of W H n cap b o wc)) (fun _ => (ulS (ulS (ulS (ulC (ulC (ulC (ulC (ulC ulN))))))))) (fun xq58 hq59 => ?_)
        refine GH.one 3 rfl (by kernel_rfl) (Stp.callR (vs := [(.agg #[(.int .i64 ((V : Int))), (.int .i64 ((U : Int))), (.slice (some ⟨b2, o2, none⟩) m cap2)])]) rfl rfl T.own53 (by decide) (fun wc hw => of V U m cap2 b2 o2 wc)) (fun _ => (ulS (ulS (ulS (ulS (ulC (ulC (ulC (ulC (ulC ulN)))))))))) (fun xq60 hq61 => ?_)
        refine GH.one 6 rfl (by kernel_rfl) (Stp.st2 (cs' := [(.func (.func 75) #[] #[(.pointer (some ⟨xq58, 0, none⟩))])]) rfl rfl rfl T.sz88 rfl rfl rfl) (fun _ => (ulS (ulS (ulS (ulS (ulC (ulC (ulC (ulC (ulC ulN)))))))))) (fun _ _ => ?_)
        refine GH.done (by kernel_rfl) ?_
        refine GE.thenN ?_
        refine GE.tail rfl (Stp.st3 (cs' := [(.func (.func 75) #[] #[(.pointer (some ⟨xq60, 0, none⟩))])]) rfl rfl rfl T.sz88 rfl rfl rfl) (fun _ _ => ?_)
        refine GE.thenN ?_
        exact St.mk ((xq58, xq60, bq57, bq48)) trivial (idx := [2, 3, 1, 0, 8, 7, 6, 5, 4]) ((sub_cons rfl ((sub_cons rfl ((sub_cons rfl ((sub_cons rfl ((sub_cons rfl ((sub_cons rfl ((sub_cons rfl ((sub_cons rfl ((sub_nil _)))))))))))))))))) (by decide) rfl
      exact GHs.nil
    exact GHs.nil
  refine GE.thenN ?_
  refine GC.seq ?_
  refine GC.region ?_
  refine GL.val (v := (.pointer (some ⟨bq1, 0, none⟩))) (Ex.cast (Ex.fieldAddr rfl Try.underlying32 rfl T.sz3 (by decide)) rfl) (by decide) ?_
  refine GL.val (Ex.load rfl T.ag3 (i := 4) rfl rfl) (by decide) ?_
  refine GL.val (v := (.pointer (some ⟨bq1, 1, none⟩))) (Ex.cast (Ex.fieldAddr rfl Try.underlying32 rfl T.sz3 (by decide)) rfl) (by decide) ?_
  refine GL.val (Ex.load rfl T.ag3 (i := 4) rfl rfl) (by decide) ?_
  refine GL.val (v := (.func (.func 59) #[] #[(.pointer (some ⟨bq3, 0, none⟩)), (.pointer (some ⟨bq2, 0, none⟩)), (.pointer (some ⟨bq4, 0, none⟩)), (.pointer (some ⟨j.2.2.2, 0, none⟩)), (.pointer (some ⟨j.2.2.1, 0, none⟩))])) (Ex.func (cs := [(.pointer (some ⟨bq3, 0, none⟩)), (.pointer (some ⟨bq2, 0, none⟩)), (.pointer (some ⟨bq4, 0, none⟩)), (.pointer (some ⟨j.2.2.2, 0, none⟩)), (.pointer (some ⟨j.2.2.1, 0, none⟩))]) rfl (fun _ hF => hF.evals _ _ rfl)) (by decide) ?_
  refine GL.val (v := (.agg #[(.int .i64 ((W : Int))), (.int .i64 ((H : Int))), (.func (.func 59) #[] #[(.pointer (some ⟨bq3, 0, none⟩)), (.pointer (some ⟨bq2, 0, none⟩)), (.pointer (some ⟨bq4, 0, none⟩)), (.pointer (some ⟨j.2.2.2, 0, none⟩)), (.pointer (some ⟨j.2.2.1, 0, none⟩))])])) (Ex.build (vs := [(0, (.int .i64 ((W : Int)))), (1, (.int .i64 ((H : Int)))), (2, (.func (.func 59) #[] #[(.pointer (some ⟨bq3, 0, none⟩)), (.pointer (some ⟨bq2, 0, none⟩)), (.pointer (some ⟨bq4, 0, none⟩)), (.pointer (some ⟨j.2.2.2, 0, none⟩)), (.pointer (some ⟨j.2.2.1, 0, none⟩))]))]) rfl (by first | rfl | kernel_rfl)) (by decide) ?_
  refine GL.step (Stp.callR (vs := [(.agg #[(.int .i64 ((W : Int))), (.int .i64 ((H : Int))), (.func (.func 59) #[] #[(.pointer (some ⟨bq3, 0, none⟩)), (.pointer (some ⟨bq2, 0, none⟩)), (.pointer (some ⟨bq4, 0, none⟩)), (.pointer (some ⟨j.2.2.2, 0, none⟩)), (.pointer (some ⟨j.2.2.1, 0, none⟩))])])]) rfl rfl T.own55 (by decide) (fun wc hw => made (W) (H) (59) (#[(.pointer (some ⟨bq3, 0, none⟩)), (.pointer (some ⟨bq2, 0, none⟩)), (.pointer (some ⟨bq4, 0, none⟩)), (.pointer (some ⟨j.2.2.2, 0, none⟩)), (.pointer (some ⟨j.2.2.1, 0, none⟩))]) (pst X Y V U (smp xs W) (smp ys V)) wc ⟨T.own59, fun i k hi' hk' w3 hk3 => pasteC i k W H V U m cap2 b2 o2 bq3 bq4 bq2 j.2.2.2 j.2.2.1 X Y 75 75 #[.pointer (some ⟨j.1, 0, none⟩)] #[.pointer (some ⟨j.2.1, 0, none⟩)] (smp xs W) (smp ys V) w3 ((Has.cons (o := true) (hw.get (i := 6) rfl) (Has.nil _)).later hk3 _ List.mem_cons_self) ((Has.cons (o := true) (hw.get (i := 5) rfl) (Has.nil _)).later hk3 _ List.mem_cons_self) ((Has.cons (o := true) (hw.get (i := 7) rfl) (Has.nil _)).later hk3 _ List.mem_cons_self) ((Has.cons (o := true) (hw.get (i := 1) rfl) (Has.nil _)).later hk3 _ List.mem_cons_self) ((Has.cons (o := true) (hw.get (i := 0) rfl) (Has.nil _)).later hk3 _ List.mem_cons_self) ((of_fb W H n cap b o j.1 true xs w hok hn hx hr).fn2 (hw.1.two hk3) ((Has.cons (hw.get (i := 2) rfl) (Has.nil _)).later hk3)) ((of_fb V U m cap2 b2 o2 j.2.1 true ys w hok2 hm hx2 hr2).fn2 (hw.1.two hk3) ((Has.cons (hw.get (i := 3) rfl) (Has.nil _)).later hk3)) hi' hk' hok hok2 hX hY⟩ hok.2.2.1 hok.2.2.2.1 hok.2.2.2.2)) (fun xq62 hq63 => ?_)
  refine GL.step (Stp.st9 (cs' := [(.int .i64 (((W : Nat) : Int))), (.int .i64 (((H : Nat) : Int))), (.slice (some ⟨xq62, 0, none⟩) ((W) * (H)) ((W) * (H)))]) rfl rfl rfl T.sz32 rfl rfl rfl) (fun _ _ => ?_)
  refine GL.val (Ex.assign rfl) (by decide) ?_
  refine GL.nil ?_
  refine GE.thenN ?_
  refine GC.ret ?_
  refine GC.ret2 rfl (Rv.cellA rfl T.ag32 T.sz32 (L := _) (i := 9) rfl (vs := [(.int .i64 (((W : Nat) : Int))), (.int .i64 (((H : Nat) : Int))), (.slice (some ⟨xq62, 0, none⟩) ((W) * (H)) ((W) * (H)))]) rfl rfl) (Rv.tmp rfl) (fun wN HN => ?_)
  exact HN.ret (xq62) trivial rfl (ulC (ulS (ulS (ulS (ulS (ulS (ulS (ulS (ulS (ulS ulN)))))))))) rfl

set_option maxRecDepth 100000 in
set_option maxHeartbeats 1000000 in
theorem paste_inv (W H : Int) (ad : Option Addr) (n cap : Nat) (W2 H2 : Int) (ad2 : Option Addr) (m cap2 : Nat) (X Y : Int) (w : World) (hc : chk W H n ≠ 0) :
    Calls Try.prog 25 #[(.agg #[(.int .i64 W), (.int .i64 H), (.slice ad n cap)]), (.agg #[(.int .i64 W2), (.int .i64 H2), (.slice ad2 m cap2)]), (.int .i64 X), (.int .i64 Y)] w (Ret w (fun _ : Unit => True) (fun _ => .tuple #[(.agg #[.int .i64 0, .int .i64 0, .slice none 0 0]), .int .i64 (chk W H n)]) (fun _ => [])) := by
  refine enter (M := None) (L := []) (n := 37) (l := [(0, (.agg #[(.int .i64 W), (.int .i64 H), (.slice ad n cap)])), (1, (.agg #[(.int .i64 W2), (.int .i64 H2), (.slice ad2 m cap2)])), (2, (.int .i64 X)), (3, (.int .i64 Y))]) Try.func25 rfl rfl (Args.cons rfl (Args.cons rfl (Args.cons rfl (Args.cons rfl (Args.nil _))))) (Hp.start _ _) ?_
  refine GC.seq ?_
  refine GC.region ?_
  refine GL.step (Stp.box (cs := [(.int .i64 W), (.int .i64 H), (.slice ad n cap)]) rfl rfl (by decide)) (fun bq1 _ => ?_)
  refine GL.step (Stp.box (cs := [(.int .i64 W2), (.int .i64 H2), (.slice ad2 m cap2)]) rfl rfl (by decide)) (fun bq2 _ => ?_)
  refine GL.step (Stp.box (cs := [(.int .i64 X)]) rfl rfl (by decide)) (fun bq3 _ => ?_)
  refine GL.step (Stp.box (cs := [(.int .i64 Y)]) rfl rfl (by decide)) (fun bq4 _ => ?_)
  refine GL.step (Stp.alloc T.zr32 (by decide)) (fun bq5 _ => ?_)
  refine GL.val (Ex.assign rfl) (by decide) ?_
  refine GL.nil ?_
  refine GE.thenN ?_
  refine GC.seq ?_
  refine GC.seq ?_
  refine GC.region ?_
  refine GL.val (v := (.agg #[(.int .i64 W), (.int .i64 H), (.slice ad n cap)])) (Ex.loadA rfl T.ag32 T.sz32 (i := 4) rfl (vs := [(.int .i64 W), (.int .i64 H), (.slice ad n cap)]) rfl rfl) (by decide) ?_
  refine GL.step (Stp.callR (vs := [(.agg #[(.int .i64 W), (.int .i64 H), (.slice ad n cap)])]) rfl rfl T.own36 (by decide) (fun wc hw => check W H ad n cap wc)) (fun xq6 hq7 => ?_)
  refine GL.val (Ex.assign rfl) (by decide) ?_
  refine GL.nil ?_
  refine GE.thenN ?_
  refine GC.seq ?_
  refine GC.region ?_
  refine GL.val (Ex.move rfl) (by decide) ?_
  refine GL.val (v := (.bool (decide ((chk W H n) ≠ 0)))) (Ex.neq rfl rfl) (by decide) ?_
  refine GL.nil ?_
  refine GE.thenN ?_
  refine GC.cond rfl (fun _ => ?_) (fun hq8 => by exfalso; have hq8 := of_decide_eq_false hq8; omega)
  refine GC.seq ?_
  refine GC.region ?_
  refine GL.val (v := (.agg #[(.int .i64 0), (.int .i64 0), (.slice none 0 0)])) (Ex.build (vs := []) rfl (by first | rfl | kernel_rfl)) (by decide) ?_
  refine GL.val (Ex.move rfl) (by decide) ?_
  refine GL.step (Stp.st0 (cs' := [(.int .i64 0), (.int .i64 0), (.slice none 0 0)]) rfl rfl rfl T.sz32 rfl rfl rfl) (fun _ _ => ?_)
  refine GL.val (Ex.assign rfl) (by decide) ?_
  refine GL.nil ?_
  refine GE.thenN ?_
  refine GC.ret ?_
  refine GE.thenR ?_
  refine GC.ret2 rfl (Rv.cellA rfl T.ag32 T.sz32 (L := _) (i := 0) rfl (vs := [(.int .i64 0), (.int .i64 0), (.slice none 0 0)]) rfl rfl) (Rv.tmp rfl) (fun wN HN => ?_)
  exact HN.ret () trivial rfl (List.nil_sublist _) rfl

set_option maxRecDepth 100000 in
set_option maxHeartbeats 1000000 in
theorem paste_inv2 (W H : Int) (ad : Option Addr) (n cap : Nat) (W2 H2 : Int) (ad2 : Option Addr) (m cap2 : Nat) (X Y : Int) (w : World) (hc : chk W H n = 0) (hc2 : chk W2 H2 m ≠ 0) :
    Calls Try.prog 25 #[(.agg #[(.int .i64 W), (.int .i64 H), (.slice ad n cap)]), (.agg #[(.int .i64 W2), (.int .i64 H2), (.slice ad2 m cap2)]), (.int .i64 X), (.int .i64 Y)] w (Ret w (fun _ : Unit => True) (fun _ => .tuple #[(.agg #[.int .i64 0, .int .i64 0, .slice none 0 0]), .int .i64 (chk W2 H2 m)]) (fun _ => [])) := by
  refine enter (M := None) (L := []) (n := 37) (l := [(0, (.agg #[(.int .i64 W), (.int .i64 H), (.slice ad n cap)])), (1, (.agg #[(.int .i64 W2), (.int .i64 H2), (.slice ad2 m cap2)])), (2, (.int .i64 X)), (3, (.int .i64 Y))]) Try.func25 rfl rfl (Args.cons rfl (Args.cons rfl (Args.cons rfl (Args.cons rfl (Args.nil _))))) (Hp.start _ _) ?_
  refine GC.seq ?_
  refine GC.region ?_
  refine GL.step (Stp.box (cs := [(.int .i64 W), (.int .i64 H), (.slice ad n cap)]) rfl rfl (by decide)) (fun bq1 _ => ?_)
  refine GL.step (Stp.box (cs := [(.int .i64 W2), (.int .i64 H2), (.slice ad2 m cap2)]) rfl rfl (by decide)) (fun bq2 _ => ?_)
  refine GL.step (Stp.box (cs := [(.int .i64 X)]) rfl rfl (by decide)) (fun bq3 _ => ?_)
  refine GL.step (Stp.box (cs := [(.int .i64 Y)]) rfl rfl (by decide)) (fun bq4 _ => ?_)
  refine GL.step (Stp.alloc T.zr32 (by decide)) (fun bq5 _ => ?_)
  refine GL.val (Ex.assign rfl) (by decide) ?_
  refine GL.nil ?_
  refine GE.thenN ?_
  refine GC.seq ?_
  refine GC.seq ?_
  refine GC.region ?_
  refine GL.val (v := (.agg #[(.int .i64 W), (.int .i64 H), (.slice ad n cap)])) (Ex.loadA rfl T.ag32 T.sz32 (i := 4) rfl (vs := [(.int .i64 W), (.int .i64 H), (.slice ad n cap)]) rfl rfl) (by decide) ?_
  refine GL.step (Stp.callR (vs := [(.agg #[(.int .i64 W), (.int .i64 H), (.slice ad n cap)])]) rfl rfl T.own36 (by decide) (fun wc hw => check W H ad n cap wc)) (fun xq6 hq7 => ?_)
  refine GL.val (Ex.assign rfl) (by decide) ?_
  refine GL.nil ?_
  refine GE.thenN ?_
  refine GC.seq ?_
  refine GC.region ?_
  refine GL.val (Ex.move rfl) (by decide) ?_
  refine GL.val (v := (.bool (decide ((chk W H n) ≠ 0)))) (Ex.neq rfl rfl) (by decide) ?_
  refine GL.nil ?_
  refine GE.thenN ?_
  refine GC.cond rfl (fun hq8 => by exfalso; have hq8 := of_decide_eq_true hq8; omega) (fun _ => ?_)
  refine GC.skip ?_
  refine GE.thenN ?_
  refine GC.seq ?_
  refine GC.seq ?_
  refine GC.region ?_
  refine GL.val (v := (.agg #[(.int .i64 W2), (.int .i64 H2), (.slice ad2 m cap2)])) (Ex.loadA rfl T.ag32 T.sz32 (i := 3) rfl (vs := [(.int .i64 W2), (.int .i64 H2), (.slice ad2 m cap2)]) rfl rfl) (by decide) ?_
  refine GL.step (Stp.callR (vs := [(.agg #[(.int .i64 W2), (.int .i64 H2), (.slice ad2 m cap2)])]) rfl rfl T.own36 (by decide) (fun wc hw => check W2 H2 ad2 m cap2 wc)) (fun xq9 hq10 => ?_)
  refine GL.val (Ex.assign rfl) (by decide) ?_
  refine GL.nil ?_
  refine GE.thenN ?_
  refine GC.seq ?_
  refine GC.region ?_
  refine GL.val (Ex.move rfl) (by decide) ?_
  refine GL.val (v := (.bool (decide ((chk W2 H2 m) ≠ 0)))) (Ex.neq rfl rfl) (by decide) ?_
  refine GL.nil ?_
  refine GE.thenN ?_
  refine GC.cond rfl (fun _ => ?_) (fun hq11 => by exfalso; have hq11 := of_decide_eq_false hq11; omega)
  refine GC.seq ?_
  refine GC.region ?_
  refine GL.val (v := (.agg #[(.int .i64 0), (.int .i64 0), (.slice none 0 0)])) (Ex.build (vs := []) rfl (by first | rfl | kernel_rfl)) (by decide) ?_
  refine GL.val (Ex.move rfl) (by decide) ?_
  refine GL.step (Stp.st0 (cs' := [(.int .i64 0), (.int .i64 0), (.slice none 0 0)]) rfl rfl rfl T.sz32 rfl rfl rfl) (fun _ _ => ?_)
  refine GL.val (Ex.assign rfl) (by decide) ?_
  refine GL.nil ?_
  refine GE.thenN ?_
  refine GC.ret ?_
  refine GE.thenR ?_
  refine GC.ret2 rfl (Rv.cellA rfl T.ag32 T.sz32 (L := _) (i := 0) rfl (vs := [(.int .i64 0), (.int .i64 0), (.slice none 0 0)]) rfl rfl) (Rv.tmp rfl) (fun wN HN => ?_)
  exact HN.ret () trivial rfl (List.nil_sublist _) rfl

set_option maxRecDepth 100000 in
set_option maxHeartbeats 1000000 in
theorem min4 (bs : Nat) (p q r s : Int) (w : World) (h1 : w.heap[bs]? = some (.cells #[.int .i64 p, .int .i64 q, .int .i64 r, .int .i64 s] 3 (0, 0))) :
    Calls Try.prog 50 #[(.slice (some ⟨bs, 0, none⟩) 4 4)] w (Ret w (fun _ : Unit => True) (fun _ => .int .i64 (min (min (min p q) r) s)) (fun _ => [])) := by
  refine enter (M := None) (L := [⟨bs, [(.int .i64 p), (.int .i64 q), (.int .i64 r), (.int .i64 s)], 3, false⟩]) (n := 25) (l := [(0, (.slice (some ⟨bs, 0, none⟩) 4 4))]) Try.func50 rfl rfl (Args.cons rfl (Args.nil _)) (Hp.reads (Has.cons h1 (Has.nil _)) rfl) ?_
  refine GC.seq ?_
  refine GC.region ?_
  refine GL.val (Ex.assign rfl) (by decide) ?_
  refine GL.nil ?_
  refine GE.thenN ?_
  refine GC.seq ?_
  refine GC.seq ?_
  refine GC.region ?_
  refine GL.val (Ex.move rfl) (by decide) ?_
  refine GL.val (v := (.int .i64 4)) (Ex.len rfl Try.underlying38) (by decide) ?_
  refine GL.val (v := (.bool false)) (Ex.cast (Ex.lss rfl rfl) rfl) (by decide) ?_
  refine GL.nil ?_
  refine GE.thenN ?_
  refine GC.cond rfl (fun hq1 => by cases hq1) (fun _ => ?_)
  refine GC.skip ?_
  refine GE.thenN ?_
  refine GC.seq ?_
  refine GC.region ?_
  refine GL.val (Ex.move rfl) (by decide) ?_
  refine GL.val (v := (.pointer (some ⟨bs, 0, none⟩))) (Ex.cast (Ex.indexAddr rfl rfl Try.underlying38 T.sz3 (by omega) (by omega)) rfl) (by decide) ?_
  refine GL.val (Ex.load rfl T.ag3 (i := 0) rfl rfl) (by decide) ?_
  refine GL.val (Ex.assign rfl) (by decide) ?_
  refine GL.nil ?_
  refine GE.thenN ?_
  refine GC.seq ?_
  refine GC.seq ?_
  refine GC.region ?_
  refine GL.val (Ex.assign rfl) (by decide) ?_
  refine GL.nil ?_
  refine GE.thenN ?_
  refine GC.block ?_
  refine GC.unroll 4 ?_
  refine GE.round ?_
  refine GC.seq ?_
  refine GC.seq ?_
  refine GC.region ?_
  refine GL.val (Ex.move rfl) (by decide) ?_
  refine GL.val (Ex.move rfl) (by decide) ?_
  refine GL.val (v := (.int .i64 4)) (Ex.len rfl Try.underlying38) (by decide) ?_
  refine GL.val (v := (.bool true)) (Ex.cast (Ex.lss rfl rfl) rfl) (by decide) ?_
  refine GL.nil ?_
  refine GE.thenN ?_
  refine GC.cond rfl (fun _ => ?_) (fun hq2 => by cases hq2)
  refine GC.skip ?_
  refine GE.thenN ?_
  refine GC.seq ?_
  refine GC.block ?_
  refine GC.region ?_
  refine GL.val (Ex.move rfl) (by decide) ?_
  refine GL.val (Ex.move rfl) (by decide) ?_
  refine GL.val (Ex.move rfl) (by decide) ?_
  refine GL.val (v := (.pointer (some ⟨bs, 1, none⟩))) (Ex.cast (Ex.indexAddr rfl rfl Try.underlying38 T.sz3 (by omega) (by omega)) rfl) (by decide) ?_
  refine GL.val (Ex.load rfl T.ag3 (i := 0) rfl rfl) (by decide) ?_
  refine GL.val (v := (.int .i64 (min p q))) (Ex.minI rfl rfl (Z := min p q) (min64 _ _)) (by decide) ?_
  refine GL.val (Ex.assign rfl) (by decide) ?_
  refine GL.nil ?_
  refine GE.blockN ?_
  refine GE.thenN ?_
  refine GC.region ?_
  refine GL.val (Ex.move rfl) (by decide) ?_
  refine GL.val (v := (.int .i64 2)) (Ex.add rfl rfl (Z := 2) (by decide)) (by decide) ?_
  refine GL.val (Ex.assign rfl) (by decide) ?_
  refine GL.nil ?_
  refine GE.thenN ?_
  refine GE.round ?_
  refine GC.seq ?_
  refine GC.seq ?_
  refine GC.region ?_
  refine GL.val (Ex.move rfl) (by decide) ?_
  refine GL.val (Ex.move rfl) (by decide) ?_
  refine GL.val (v := (.int .i64 4)) (Ex.len rfl Try.underlying38) (by decide) ?_
  refine GL.val (v := (.bool true)) (Ex.cast (Ex.lss rfl rfl) rfl) (by decide) ?_
  refine GL.nil ?_
  refine GE.thenN ?_
  refine GC.cond rfl (fun _ => ?_) (fun hq3 => by cases hq3)
  refine GC.skip ?_
  refine GE.thenN ?_
  refine GC.seq ?_
  refine GC.block ?_
  refine GC.region ?_
  refine GL.val (Ex.move rfl) (by decide) ?_
  refine GL.val (Ex.move rfl) (by decide) ?_
  refine GL.val (Ex.move rfl) (by decide) ?_
  refine GL.val (v := (.pointer (some ⟨bs, 2, none⟩))) (Ex.cast (Ex.indexAddr rfl rfl Try.underlying38 T.sz3 (by omega) (by omega)) rfl) (by decide) ?_
  refine GL.val (Ex.load rfl T.ag3 (i := 0) rfl rfl) (by decide) ?_
  refine GL.val (v := (.int .i64 (min (min p q) r))) (Ex.minI rfl rfl (Z := min (min p q) r) (min64 _ _)) (by decide) ?_
  refine GL.val (Ex.assign rfl) (by decide) ?_
  refine GL.nil ?_
  refine GE.blockN ?_
  refine GE.thenN ?_
  refine GC.region ?_
  refine GL.val (Ex.move rfl) (by decide) ?_
  refine GL.val (v := (.int .i64 3)) (Ex.add rfl rfl (Z := 3) (by decide)) (by decide) ?_
  refine GL.val (Ex.assign rfl) (by decide) ?_
  refine GL.nil ?_
  refine GE.thenN ?_
  refine GE.round ?_
  refine GC.seq ?_
  refine GC.seq ?_
  refine GC.region ?_
  refine GL.val (Ex.move rfl) (by decide) ?_
  refine GL.val (Ex.move rfl) (by decide) ?_
  refine GL.val (v := (.int .i64 4)) (Ex.len rfl Try.underlying38) (by decide) ?_
  refine GL.val (v := (.bool true)) (Ex.cast (Ex.lss rfl rfl) rfl) (by decide) ?_
  refine GL.nil ?_
  refine GE.thenN ?_
  refine GC.cond rfl (fun _ => ?_) (fun hq4 => by cases hq4)
  refine GC.skip ?_
  refine GE.thenN ?_
  refine GC.seq ?_
  refine GC.block ?_
  refine GC.region ?_
  refine GL.val (Ex.move rfl) (by decide) ?_
  refine GL.val (Ex.move rfl) (by decide) ?_
  refine GL.val (Ex.move rfl) (by decide) ?_
  refine GL.val (v := (.pointer (some ⟨bs, 3, none⟩))) (Ex.cast (Ex.indexAddr rfl rfl Try.underlying38 T.sz3 (by omega) (by omega)) rfl) (by decide) ?_
  refine GL.val (Ex.load rfl T.ag3 (i := 0) rfl rfl) (by decide) ?_
  refine GL.val (v := (.int .i64 (min (min (min p q) r) s))) (Ex.minI rfl rfl (Z := min (min (min p q) r) s) (min64 _ _)) (by decide) ?_
  refine GL.val (Ex.assign rfl) (by decide) ?_
  refine GL.nil ?_
  refine GE.blockN ?_
  refine GE.thenN ?_
  refine GC.region ?_
  refine GL.val (Ex.move rfl) (by decide) ?_
  refine GL.val (v := (.int .i64 4)) (Ex.add rfl rfl (Z := 4) (by decide)) (by decide) ?_
  refine GL.val (Ex.assign rfl) (by decide) ?_
  refine GL.nil ?_
  refine GE.thenN ?_
  refine GE.round ?_
  refine GC.seq ?_
  refine GC.seq ?_
  refine GC.region ?_
  refine GL.val (Ex.move rfl) (by decide) ?_
  refine GL.val (Ex.move rfl) (by decide) ?_
  refine GL.val (v := (.int .i64 4)) (Ex.len rfl Try.underlying38) (by decide) ?_
  refine GL.val (v := (.bool false)) (Ex.cast (Ex.lss rfl rfl) rfl) (by decide) ?_
  refine GL.nil ?_
  refine GE.thenN ?_
  refine GC.cond rfl (fun hq5 => by cases hq5) (fun _ => ?_)
  refine GC.exit ?_
  refine GE.thenE ?_
  refine GE.thenE ?_
  refine GE.blockE ?_
  refine GE.thenN ?_
  refine GC.seq ?_
  refine GC.region ?_
  refine GL.val (Ex.move rfl) (by decide) ?_
  refine GL.val (Ex.assign rfl) (by decide) ?_
  refine GL.nil ?_
  refine GE.thenN ?_
  refine GC.ret ?_
  refine GC.ret1 rfl (Rv.tmp rfl) (fun wN HN => ?_)
  exact HN.ret () trivial rfl (List.nil_sublist _) rfl

set_option maxRecDepth 100000 in
set_option maxHeartbeats 1000000 in
theorem max4 (bs : Nat) (p q r s : Int) (w : World) (h1 : w.heap[bs]? = some (.cells #[.int .i64 p, .int .i64 q, .int .i64 r, .int .i64 s] 3 (0, 0))) :
    Calls Try.prog 51 #[(.slice (some ⟨bs, 0, none⟩) 4 4)] w (Ret w (fun _ : Unit => True) (fun _ => .int .i64 (max (max (max p q) r) s)) (fun _ => [])) := by
  refine enter (M := None) (L := [⟨bs, [(.int .i64 p), (.int .i64 q), (.int .i64 r), (.int .i64 s)], 3, false⟩]) (n := 25) (l := [(0, (.slice (some ⟨bs, 0, none⟩) 4 4))]) Try.func51 rfl rfl (Args.cons rfl (Args.nil _)) (Hp.reads (Has.cons h1 (Has.nil _)) rfl) ?_
  refine GC.seq ?_
  refine GC.region ?_
  refine GL.val (Ex.assign rfl) (by decide) ?_
  refine GL.nil ?_
  refine GE.thenN ?_
  refine GC.seq ?_
  refine GC.seq ?_
  refine GC.region ?_
  refine GL.val (Ex.move rfl) (by decide) ?_
  refine GL.val (v := (.int .i64 4)) (Ex.len rfl Try.underlying38) (by decide) ?_
  refine GL.val (v := (.bool false)) (Ex.cast (Ex.lss rfl rfl) rfl) (by decide) ?_
  refine GL.nil ?_
  refine GE.thenN ?_
  refine GC.cond rfl (fun hq1 => by cases hq1) (fun _ => ?_)
  refine GC.skip ?_
  refine GE.thenN ?_
  refine GC.seq ?_
  refine GC.region ?_
  refine GL.val (Ex.move rfl) (by decide) ?_
  refine GL.val (v := (.pointer (some ⟨bs, 0, none⟩))) (Ex.cast (Ex.indexAddr rfl rfl Try.underlying38 T.sz3 (by omega) (by omega)) rfl) (by decide) ?_
  refine GL.val (Ex.load rfl T.ag3 (i := 0) rfl rfl) (by decide) ?_
  refine GL.val (Ex.assign rfl) (by decide) ?_
  refine GL.nil ?_
  refine GE.thenN ?_
  refine GC.seq ?_
  refine GC.seq ?_
  refine GC.region ?_
  refine GL.val (Ex.assign rfl) (by decide) ?_
  refine GL.nil ?_
  refine GE.thenN ?_
  refine GC.block ?_
  refine GC.unroll 4 ?_
  refine GE.round ?_
  refine GC.seq ?_
  refine GC.seq ?_
  refine GC.region ?_
  refine GL.val (Ex.move rfl) (by decide) ?_
  refine GL.val (Ex.move rfl) (by decide) ?_
  refine GL.val (v := (.int .i64 4)) (Ex.len rfl Try.underlying38) (by decide) ?_
  refine GL.val (v := (.bool true)) (Ex.cast (Ex.lss rfl rfl) rfl) (by decide) ?_
  refine GL.nil ?_
  refine GE.thenN ?_
  refine GC.cond rfl (fun _ => ?_) (fun hq2 => by cases hq2)
  refine GC.skip ?_
  refine GE.thenN ?_
  refine GC.seq ?_
  refine GC.block ?_
  refine GC.region ?_
  refine GL.val (Ex.move rfl) (by decide) ?_
  refine GL.val (Ex.move rfl) (by decide) ?_
  refine GL.val (Ex.move rfl) (by decide) ?_
  refine GL.val (v := (.pointer (some ⟨bs, 1, none⟩))) (Ex.cast (Ex.indexAddr rfl rfl Try.underlying38 T.sz3 (by omega) (by omega)) rfl) (by decide) ?_
  refine GL.val (Ex.load rfl T.ag3 (i := 0) rfl rfl) (by decide) ?_
  refine GL.val (v := (.int .i64 (max p q))) (Ex.maxI rfl rfl (Z := max p q) (max64 _ _)) (by decide) ?_
  refine GL.val (Ex.assign rfl) (by decide) ?_
  refine GL.nil ?_
  refine GE.blockN ?_
  refine GE.thenN ?_
  refine GC.region ?_
  refine GL.val (Ex.move rfl) (by decide) ?_
  refine GL.val (v := (.int .i64 2)) (Ex.add rfl rfl (Z := 2) (by decide)) (by decide) ?_
  refine GL.val (Ex.assign rfl) (by decide) ?_
  refine GL.nil ?_
  refine GE.thenN ?_
  refine GE.round ?_
  refine GC.seq ?_
  refine GC.seq ?_
  refine GC.region ?_
  refine GL.val (Ex.move rfl) (by decide) ?_
  refine GL.val (Ex.move rfl) (by decide) ?_
  refine GL.val (v := (.int .i64 4)) (Ex.len rfl Try.underlying38) (by decide) ?_
  refine GL.val (v := (.bool true)) (Ex.cast (Ex.lss rfl rfl) rfl) (by decide) ?_
  refine GL.nil ?_
  refine GE.thenN ?_
  refine GC.cond rfl (fun _ => ?_) (fun hq3 => by cases hq3)
  refine GC.skip ?_
  refine GE.thenN ?_
  refine GC.seq ?_
  refine GC.block ?_
  refine GC.region ?_
  refine GL.val (Ex.move rfl) (by decide) ?_
  refine GL.val (Ex.move rfl) (by decide) ?_
  refine GL.val (Ex.move rfl) (by decide) ?_
  refine GL.val (v := (.pointer (some ⟨bs, 2, none⟩))) (Ex.cast (Ex.indexAddr rfl rfl Try.underlying38 T.sz3 (by omega) (by omega)) rfl) (by decide) ?_
  refine GL.val (Ex.load rfl T.ag3 (i := 0) rfl rfl) (by decide) ?_
  refine GL.val (v := (.int .i64 (max (max p q) r))) (Ex.maxI rfl rfl (Z := max (max p q) r) (max64 _ _)) (by decide) ?_
  refine GL.val (Ex.assign rfl) (by decide) ?_
  refine GL.nil ?_
  refine GE.blockN ?_
  refine GE.thenN ?_
  refine GC.region ?_
  refine GL.val (Ex.move rfl) (by decide) ?_
  refine GL.val (v := (.int .i64 3)) (Ex.add rfl rfl (Z := 3) (by decide)) (by decide) ?_
  refine GL.val (Ex.assign rfl) (by decide) ?_
  refine GL.nil ?_
  refine GE.thenN ?_
  refine GE.round ?_
  refine GC.seq ?_
  refine GC.seq ?_
  refine GC.region ?_
  refine GL.val (Ex.move rfl) (by decide) ?_
  refine GL.val (Ex.move rfl) (by decide) ?_
  refine GL.val (v := (.int .i64 4)) (Ex.len rfl Try.underlying38) (by decide) ?_
  refine GL.val (v := (.bool true)) (Ex.cast (Ex.lss rfl rfl) rfl) (by decide) ?_
  refine GL.nil ?_
  refine GE.thenN ?_
  refine GC.cond rfl (fun _ => ?_) (fun hq4 => by cases hq4)
  refine GC.skip ?_
  refine GE.thenN ?_
  refine GC.seq ?_
  refine GC.block ?_
  refine GC.region ?_
  refine GL.val (Ex.move rfl) (by decide) ?_
  refine GL.val (Ex.move rfl) (by decide) ?_
  refine GL.val (Ex.move rfl) (by decide) ?_
  refine GL.val (v := (.pointer (some ⟨bs, 3, none⟩))) (Ex.cast (Ex.indexAddr rfl rfl Try.underlying38 T.sz3 (by omega) (by omega)) rfl) (by decide) ?_
  refine GL.val (Ex.load rfl T.ag3 (i := 0) rfl rfl) (by decide) ?_
  refine GL.val (v := (.int .i64 (max (max (max p q) r) s))) (Ex.maxI rfl rfl (Z := max (max (max p q) r) s) (max64 _ _)) (by decide) ?_
  refine GL.val (Ex.assign rfl) (by decide) ?_
  refine GL.nil ?_
  refine GE.blockN ?_
  refine GE.thenN ?_
  refine GC.region ?_
  refine GL.val (Ex.move rfl) (by decide) ?_
  refine GL.val (v := (.int .i64 4)) (Ex.add rfl rfl (Z := 4) (by decide)) (by decide) ?_
  refine GL.val (Ex.assign rfl) (by decide) ?_
  refine GL.nil ?_
  refine GE.thenN ?_
  refine GE.round ?_
  refine GC.seq ?_
  refine GC.seq ?_
  refine GC.region ?_
  refine GL.val (Ex.move rfl) (by decide) ?_
  refine GL.val (Ex.move rfl) (by decide) ?_
  refine GL.val (v := (.int .i64 4)) (Ex.len rfl Try.underlying38) (by decide) ?_
  refine GL.val (v := (.bool false)) (Ex.cast (Ex.lss rfl rfl) rfl) (by decide) ?_
  refine GL.nil ?_
  refine GE.thenN ?_
  refine GC.cond rfl (fun hq5 => by cases hq5) (fun _ => ?_)
  refine GC.exit ?_
  refine GE.thenE ?_
  refine GE.thenE ?_
  refine GE.blockE ?_
  refine GE.thenN ?_
  refine GC.seq ?_
  refine GC.region ?_
  refine GL.val (Ex.move rfl) (by decide) ?_
  refine GL.val (Ex.assign rfl) (by decide) ?_
  refine GL.nil ?_
  refine GE.thenN ?_
  refine GC.ret ?_
  refine GC.ret1 rfl (Rv.tmp rfl) (fun wN HN => ?_)
  exact HN.ret () trivial rfl (List.nil_sublist _) rfl

set_option maxRecDepth 100000 in
set_option maxHeartbeats 1000000 in
theorem rest (i n : Int) (w : World) (hn : 1 ≤ n ∧ n ≤ 2048) :
    Calls Try.prog 45 #[(.int .i64 i), (.int .i64 n)] w (Ret w (fun _ : Unit => True) (fun _ => .int .i64 (rst i n)) (fun _ => [])) := by
  have hb := tmod_bd i hn.1
  refine enter (M := None) (L := []) (n := 12) (l := [(0, (.int .i64 i)), (1, (.int .i64 n))]) Try.func45 rfl rfl (Args.cons rfl (Args.cons rfl (Args.nil _))) (Hp.start _ _) ?_
  refine GC.seq ?_
  refine GC.region ?_
  refine GL.val (Ex.assign rfl) (by decide) ?_
  refine GL.nil ?_
  refine GE.thenN ?_
  refine GC.seq ?_
  refine GC.region ?_
  refine GL.val (Ex.move rfl) (by decide) ?_
  refine GL.val (Ex.move rfl) (by decide) ?_
  refine GL.val (v := (.int .i64 (i.tmod n))) (Ex.rem rfl rfl (Z := i.tmod n) (by omega) rfl) (by decide) ?_
  refine GL.val (Ex.move rfl) (by decide) ?_
  refine GL.val (v := (.int .i64 ((i.tmod n) + n))) (Ex.add rfl rfl (Z := (i.tmod n) + n) (w64 (by omega))) (by decide) ?_
  refine GL.val (Ex.move rfl) (by decide) ?_
  refine GL.val (v := (.int .i64 ((i.tmod n + n).tmod n))) (Ex.rem rfl rfl (Z := (i.tmod n + n).tmod n) (by omega) rfl) (by decide) ?_
  refine GL.val (Ex.assign rfl) (by decide) ?_
  refine GL.nil ?_
  refine GE.thenN ?_
  refine GC.ret ?_
  refine GC.ret1 rfl (Rv.tmp rfl) (fun wN HN => ?_)
  exact HN.ret () trivial rfl (List.nil_sublist _) rfl

end Go.Proofs.Ytileciohbhoehaa.C
