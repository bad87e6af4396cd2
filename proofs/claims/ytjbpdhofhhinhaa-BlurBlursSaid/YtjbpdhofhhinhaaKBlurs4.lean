/- BlurBlurs: what its code does, walked. -/
import Derived.Test.YtjbpdhofhhinhaaKBlurs3
namespace Go.Proofs.Ytjbpdhofhhinhaa.C
open Go Go.RowKit Sx
set_option linter.unusedVariables false
set_option maxRecDepth 100000 in
set_option maxHeartbeats 1000000 in
theorem bl_ok (W H n cap b o : Nat) (k kd : Int) (r : Nat) (xs : List Int) (w : World) (hk : 1 ≤ k ∧ k ≤ 3) (hok : okP W H) (hn : n = W * H) (hl : Lst w (some ⟨b, o, none⟩) n xs) (hr : Rd w b o (xs.map u32)) (hb : n ≤ 35184372087808) (hkd : kd = 1 ∨ kd = 2) (hrr : r ≤ 7) :
    Calls Try.prog 5 #[(.agg #[(.int .i64 (((W : Nat) : Int))), (.int .i64 (((H : Nat) : Int))), (.slice (some ⟨b, o, none⟩) n cap)]), (.int .i64 kd), (.int .i64 (((r : Nat) : Int))), (.int .i64 k)] w (Ret w (fun _ : Unit => True) (fun _ => .bool true) (fun _ => [])) := by
  refine enter (M := None) (L := []) (n := 66) (l := [(0, (.agg #[(.int .i64 (((W : Nat) : Int))), (.int .i64 (((H : Nat) : Int))), (.slice (some ⟨b, o, none⟩) n cap)])), (1, (.int .i64 kd)), (2, (.int .i64 (((r : Nat) : Int)))), (3, (.int .i64 k))]) Try.func5 rfl rfl (Args.cons rfl (Args.cons rfl (Args.cons rfl (Args.cons rfl (Args.nil _))))) (Hp.start _ _) ?_
  refine GC.seq ?_
  refine GC.region ?_
  refine GL.step (Stp.box (cs := [(.int .i64 (((W : Nat) : Int))), (.int .i64 (((H : Nat) : Int))), (.slice (some ⟨b, o, none⟩) n cap)]) rfl rfl (by decide)) (fun bq1 _ => ?_)
  refine GL.val (Ex.assign rfl) (by decide) ?_
  refine GL.nil ?_
  refine GE.thenN ?_
  refine GC.seq ?_
  refine GC.seq ?_
  refine GC.region ?_
  refine GL.step (Stp.callR (vs := []) rfl rfl T.own12 (by decide) (fun wc hw => known wc)) (fun xq2 hq3 => ?_)
  refine GL.val (v := (.bool false)) (Ex.cast (Ex.not rfl) rfl) (by decide) ?_
  refine GL.nil ?_
  refine GE.thenN ?_
  refine GC.cond rfl (fun hq4 => by cases hq4) (fun _ => ?_)
  refine GC.skip ?_
  refine GE.thenN ?_
  refine GC.seq ?_
  refine GC.region ?_
  refine GL.val (v := (.agg #[(.slice none 0 0), (.slice none 0 0), (.slice none 0 0), (.slice none 0 0), (.slice none 0 0), (.slice none 0 0), (.slice none 0 0), (.slice none 0 0)])) (Ex.build (vs := []) rfl (by first | rfl | kernel_rfl)) (by decide) ?_
  refine GL.step (Stp.box (cs := [(.slice none 0 0), (.slice none 0 0), (.slice none 0 0), (.slice none 0 0), (.slice none 0 0), (.slice none 0 0), (.slice none 0 0), (.slice none 0 0)]) rfl rfl (by decide)) (fun bq5 _ => ?_)
  refine GL.val (Ex.assign rfl) (by decide) ?_
  refine GL.nil ?_
  refine GE.thenN ?_
  refine GC.seq ?_
  refine GC.region ?_
  refine GL.val (v := (.agg #[(.slice none 0 0), (.slice none 0 0), (.slice none 0 0), (.slice none 0 0), (.slice none 0 0), (.slice none 0 0), (.slice none 0 0), (.slice none 0 0)])) (Ex.build (vs := []) rfl (by first | rfl | kernel_rfl)) (by decide) ?_
  refine GL.step (Stp.box (cs := [(.slice none 0 0), (.slice none 0 0), (.slice none 0 0), (.slice none 0 0), (.slice none 0 0), (.slice none 0 0), (.slice none 0 0), (.slice none 0 0)]) rfl rfl (by decide)) (fun bq6 _ => ?_)
  refine GL.val (Ex.assign rfl) (by decide) ?_
  refine GL.nil ?_
  refine GE.thenN ?_
  refine GC.seq ?_
  refine GC.region ?_
  refine GL.val (Ex.move rfl) (by decide) ?_
  refine GL.val (v := (.agg #[(.int .i64 (((W : Nat) : Int))), (.int .i64 (((H : Nat) : Int))), (.slice (some ⟨b, o, none⟩) n cap)])) (Ex.loadA rfl T.ag43 T.sz43 (i := 2) rfl (vs := [(.int .i64 (((W : Nat) : Int))), (.int .i64 (((H : Nat) : Int))), (.slice (some ⟨b, o, none⟩) n cap)]) rfl rfl) (by decide) ?_
  refine GL.step (Stp.call (vs := [(.pointer (some ⟨bq6, 0, none⟩)), (.agg #[(.int .i64 (((W : Nat) : Int))), (.int .i64 (((H : Nat) : Int))), (.slice (some ⟨b, o, none⟩) n cap)])]) rfl rfl T.own19 (by decide) (fun wc hw => room_p0 w _ (((W : Nat) : Int)) (((H : Nat) : Int)) bq6 n cap (some ⟨b, o, none⟩) xs wc hl hb (hw.pick (idx := [0, 1, 2]) (by decide) rfl))) (fun xq7 hq8 => ?_)
  refine GL.step (Stp.alloc T.zr43 (by decide)) (fun bq9 _ => ?_)
  refine GL.step (Stp.st0 (cs' := [(.int .i64 (((W : Nat) : Int))), (.int .i64 (((H : Nat) : Int))), (.slice (some ⟨xq7.2.2.2, 0, none⟩) n (n + 5))]) rfl rfl rfl T.sz43 rfl rfl rfl) (fun _ _ => ?_)
  refine GL.nil ?_
  refine GE.thenN ?_
  refine GC.seq ?_
  refine GC.region ?_
  refine GL.val (v := (.agg #[(.int .i64 (((W : Nat) : Int))), (.int .i64 (((H : Nat) : Int))), (.slice (some ⟨b, o, none⟩) n cap)])) (Ex.loadA rfl T.ag43 T.sz43 (i := 7) rfl (vs := [(.int .i64 (((W : Nat) : Int))), (.int .i64 (((H : Nat) : Int))), (.slice (some ⟨b, o, none⟩) n cap)]) rfl rfl) (by decide) ?_
  refine GL.val (Ex.move rfl) (by decide) ?_
  refine GL.val (Ex.move rfl) (by decide) ?_
  refine GL.val (Ex.move rfl) (by decide) ?_
  refine GL.step (Stp.callR (vs := [(.agg #[(.int .i64 (((W : Nat) : Int))), (.int .i64 (((H : Nat) : Int))), (.slice (some ⟨b, o, none⟩) n cap)]), (.int .i64 kd), (.int .i64 (((r : Nat) : Int))), (.int .i64 k)]) rfl rfl T.own20 (by decide) (fun wc hw => ref_blur W H n cap b o k kd r xs wc hk hok hn hl.1 hl.2.1 (hw.rd hr (fun x => x)) hkd hrr)) (fun xq10 hq11 => ?_)
  refine GL.val (Ex.move rfl) (by decide) ?_
  refine GL.val (Ex.extract rfl rfl) (by decide) ?_
  refine GL.val (Ex.extract rfl rfl) (by decide) ?_
  refine GL.step (Stp.alloc T.zr43 (by decide)) (fun bq12 _ => ?_)
  refine GL.step (Stp.st0 (cs' := [(.int .i64 (((W : Nat) : Int))), (.int .i64 (((H : Nat) : Int))), (.slice (some ⟨xq10, 0, none⟩) (W * H) (W * H))]) rfl rfl rfl T.sz43 rfl rfl rfl) (fun _ _ => ?_)
  refine GL.val (Ex.assign rfl) (by decide) ?_
  refine GL.nil ?_
  refine GE.thenN ?_
  refine GC.seq ?_
  refine GC.seq ?_
  refine GC.region ?_
  refine GL.val (Ex.assign rfl) (by decide) ?_
  refine GL.nil ?_
  refine GE.thenN ?_
  refine GC.block ?_
  refine GC.unroll 3 ?_
  refine GE.round ?_
  refine GC.seq ?_
  refine GC.seq ?_
  refine GC.region ?_
  refine GL.val (Ex.move rfl) (by decide) ?_
  refine GL.val (v := (.bool true)) (Ex.cast (Ex.lss rfl rfl) rfl) (by decide) ?_
  refine GL.nil ?_
  refine GE.thenN ?_
  refine GC.cond rfl (fun _ => ?_) (fun hq13 => by cases hq13)
  refine GC.skip ?_
  refine GE.thenN ?_
  refine GC.seq ?_
  refine GC.block ?_
  refine GC.seq ?_
  refine GC.region ?_
  refine GL.val (v := (.agg #[(.int .i64 (((W : Nat) : Int))), (.int .i64 (((H : Nat) : Int))), (.slice (some ⟨xq7.2.2.2, 0, none⟩) n (n + 5))])) (Ex.loadA rfl T.ag43 T.sz43 (i := 2) rfl (vs := [(.int .i64 (((W : Nat) : Int))), (.int .i64 (((H : Nat) : Int))), (.slice (some ⟨xq7.2.2.2, 0, none⟩) n (n + 5))]) rfl rfl) (by decide) ?_
  refine GL.val (Ex.move rfl) (by decide) ?_
  refine GL.val (Ex.move rfl) (by decide) ?_
  refine GL.val (Ex.move rfl) (by decide) ?_
  refine GL.step (Stp.callR (vs := [(.agg #[(.int .i64 (((W : Nat) : Int))), (.int .i64 (((H : Nat) : Int))), (.slice (some ⟨xq7.2.2.2, 0, none⟩) n (n + 5))]), (.int .i64 kd), (.int .i64 (((r : Nat) : Int))), (.int .i64 k)]) rfl rfl T.own21 (by decide) (fun wc hw => blur_ok W H n (n + 5) xq7.2.2.2 0 k kd r xs wc hk hok hn hl.1 hl.2.1 (Rd.lent (hw.rdOf (i := 6) rfl 0)) hkd hrr)) (fun xq14 hq15 => ?_)
  refine GL.val (Ex.move rfl) (by decide) ?_
  refine GL.val (Ex.extract rfl rfl) (by decide) ?_
  refine GL.val (Ex.extract rfl rfl) (by decide) ?_
  refine GL.step (Stp.alloc T.zr43 (by decide)) (fun bq16 _ => ?_)
  refine GL.step (Stp.st0 (cs' := [(.int .i64 (((W : Nat) : Int))), (.int .i64 (((H : Nat) : Int))), (.slice (some ⟨xq14, 0, none⟩) (W * H) (W * H))]) rfl rfl rfl T.sz43 rfl rfl rfl) (fun _ _ => ?_)
  refine GL.val (Ex.assign rfl) (by decide) ?_
  refine GL.nil ?_
  refine GE.thenN ?_
  refine GC.seq ?_
  refine GC.seq ?_
  refine GC.region ?_
  refine GL.val (Ex.move rfl) (by decide) ?_
  refine GL.step (Stp.callR (vs := [(.int .i64 0)]) rfl rfl T.own15 (by decide) (fun wc hw => num 0 wc)) (fun xq17 hq18 => ?_)
  refine GL.val (Ex.move rfl) (by decide) ?_
  refine GL.val (v := (.bool false)) (Ex.cast (Ex.neq rfl rfl) rfl) (by decide) ?_
  refine GL.val (Ex.move rfl) (by decide) ?_
  refine GL.stepG (tj := 50) rfl rfl (Ex.wp (v := (.agg #[(.int .i64 (((W : Nat) : Int))), (.int .i64 (((H : Nat) : Int))), (.slice (some ⟨xq14, 0, none⟩) (W * H) (W * H))])) (Ex.loadA rfl T.ag43 T.sz43 (i := 0) rfl (vs := [(.int .i64 (((W : Nat) : Int))), (.int .i64 (((H : Nat) : Int))), (.slice (some ⟨xq14, 0, none⟩) (W * H) (W * H))]) rfl rfl) (by decide)) (fun _ _ => ?_)
  refine GL.stepG (tj := 50) rfl rfl (Ex.wp (v := (.agg #[(.int .i64 (((W : Nat) : Int))), (.int .i64 (((H : Nat) : Int))), (.slice (some ⟨xq10, 0, none⟩) (W * H) (W * H))])) (Ex.loadA rfl T.ag43 T.sz43 (i := 2) rfl (vs := [(.int .i64 (((W : Nat) : Int))), (.int .i64 (((H : Nat) : Int))), (.slice (some ⟨xq10, 0, none⟩) (W * H) (W * H))]) rfl rfl) (by decide)) (fun _ _ => ?_)
  refine GL.stepG (tj := 50) rfl rfl (Stp.callR (vs := [(.agg #[(.int .i64 (((W : Nat) : Int))), (.int .i64 (((H : Nat) : Int))), (.slice (some ⟨xq14, 0, none⟩) (W * H) (W * H))]), (.agg #[(.int .i64 (((W : Nat) : Int))), (.int .i64 (((H : Nat) : Int))), (.slice (some ⟨xq10, 0, none⟩) (W * H) (W * H))])]) rfl rfl T.own22 (by decide) (fun wc hw => help_eq (((W : Nat) : Int)) (((H : Nat) : Int)) xq14 0 xq10 0 (W * H) (W * H) (W * H) (tab W (Bg.blr (Bg.gk kd r) r xs W H k) (W * H)) wc (tab_len _ _ _) (by first | omega | (have h' := hok.2.2.2.2; omega)) (hw.rdOf (i := 1) rfl 0) (hw.rdOf (i := 3) rfl 0))) (fun xq19 hq20 => ?_)
  refine GL.stepG (tj := 50) rfl rfl (Ex.wp (v := (.bool false)) (Ex.cast (Ex.not rfl) rfl) (by decide)) (fun _ _ => ?_)
  refine GL.val (v := (.bool false)) (Ex.pickF rfl rfl) (by decide) ?_
  refine GL.nil ?_
  refine GE.thenN ?_
  refine GC.cond rfl (fun hq21 => by cases hq21) (fun _ => ?_)
  refine GC.skip ?_
  refine GE.thenN ?_
  refine GC.region ?_
  refine GL.val (Ex.move rfl) (by decide) ?_
  refine GL.val (v := (.agg #[(.int .i64 (((W : Nat) : Int))), (.int .i64 (((H : Nat) : Int))), (.slice (some ⟨xq14, 0, none⟩) (W * H) (W * H))])) (Ex.loadA rfl T.ag43 T.sz43 (i := 0) rfl (vs := [(.int .i64 (((W : Nat) : Int))), (.int .i64 (((H : Nat) : Int))), (.slice (some ⟨xq14, 0, none⟩) (W * H) (W * H))]) rfl rfl) (by decide) ?_
  refine GL.val (Ex.move rfl) (by decide) ?_
  refine GL.step (Stp.call (vs := [(.pointer (some ⟨bq5, 0, none⟩)), (.agg #[(.int .i64 (((W : Nat) : Int))), (.int .i64 (((H : Nat) : Int))), (.slice (some ⟨xq14, 0, none⟩) (W * H) (W * H))]), (.int .i64 0)]) rfl rfl T.own23 (by decide) (fun wc hw => book_p01 w _ (((W : Nat) : Int)) (((H : Nat) : Int)) bq5 0 xq14 (W * H) (W * H) ((tab W (Bg.blr (Bg.gk kd r) r xs W H k) (W * H)).map u32) wc (by rw [List.length_map]; exact (tab_len _ _ _)) (by have h' := (hok).2.2.2.2; omega) (hw.pick (idx := [10, 1, 0, 2, 3, 4, 5, 6, 7, 8, 9, 11]) (by decide) rfl))) (fun xq22 hq23 => ?_)
  refine GL.nil ?_
  refine GE.blockN ?_
  refine GE.thenN ?_
  refine GC.region ?_
  refine GL.val (Ex.move rfl) (by decide) ?_
  refine GL.val (v := (.int .i64 1)) (Ex.add rfl rfl (Z := 1) (by decide)) (by decide) ?_
  refine GL.val (Ex.assign rfl) (by decide) ?_
  refine GL.nil ?_
  refine GE.thenN ?_
  refine GE.round ?_
  refine GC.seq ?_
  refine GC.seq ?_
  refine GC.region ?_
  refine GL.val (Ex.move rfl) (by decide) ?_
  refine GL.val (v := (.bool true)) (Ex.cast (Ex.lss rfl rfl) rfl) (by decide) ?_
  refine GL.nil ?_
  refine GE.thenN ?_
  refine GC.cond rfl (fun _ => ?_) (fun hq24 => by cases hq24)
  refine GC.skip ?_
  refine GE.thenN ?_
  refine GC.seq ?_
  refine GC.block ?_
  refine GC.seq ?_
  refine GC.region ?_
  refine GL.val (v := (.agg #[(.int .i64 (((W : Nat) : Int))), (.int .i64 (((H : Nat) : Int))), (.slice (some ⟨xq7.2.2.2, 0, none⟩) n (n + 5))])) (Ex.loadA rfl T.ag43 T.sz43 (i := 7) rfl (vs := [(.int .i64 (((W : Nat) : Int))), (.int .i64 (((H : Nat) : Int))), (.slice (some ⟨xq7.2.2.2, 0, none⟩) n (n + 5))]) rfl rfl) (by decide) ?_
  refine GL.val (Ex.move rfl) (by decide) ?_
  refine GL.val (Ex.move rfl) (by decide) ?_
  refine GL.val (Ex.move rfl) (by decide) ?_
  refine GL.step (Stp.callR (vs := [(.agg #[(.int .i64 (((W : Nat) : Int))), (.int .i64 (((H : Nat) : Int))), (.slice (some ⟨xq7.2.2.2, 0, none⟩) n (n + 5))]), (.int .i64 kd), (.int .i64 (((r : Nat) : Int))), (.int .i64 k)]) rfl rfl T.own21 (by decide) (fun wc hw => blur_ok W H n (n + 5) xq7.2.2.2 0 k kd r xs wc hk hok hn hl.1 hl.2.1 (Rd.lent (hw.rdOf (i := 11) rfl 0)) hkd hrr)) (fun xq25 hq26 => ?_)
  refine GL.val (Ex.move rfl) (by decide) ?_
  refine GL.val (Ex.extract rfl rfl) (by decide) ?_
  refine GL.val (Ex.extract rfl rfl) (by decide) ?_
  refine GL.step (Stp.alloc T.zr43 (by decide)) (fun bq27 _ => ?_)
  refine GL.step (Stp.st0 (cs' := [(.int .i64 (((W : Nat) : Int))), (.int .i64 (((H : Nat) : Int))), (.slice (some ⟨xq25, 0, none⟩) (W * H) (W * H))]) rfl rfl rfl T.sz43 rfl rfl rfl) (fun _ _ => ?_)
  refine GL.val (Ex.assign rfl) (by decide) ?_
  refine GL.nil ?_
  refine GE.thenN ?_
  refine GC.seq ?_
  refine GC.seq ?_
  refine GC.region ?_
  refine GL.val (Ex.move rfl) (by decide) ?_
  refine GL.step (Stp.callR (vs := [(.int .i64 0)]) rfl rfl T.own15 (by decide) (fun wc hw => num 0 wc)) (fun xq28 hq29 => ?_)
  refine GL.val (Ex.move rfl) (by decide) ?_
  refine GL.val (v := (.bool false)) (Ex.cast (Ex.neq rfl rfl) rfl) (by decide) ?_
  refine GL.val (Ex.move rfl) (by decide) ?_
  refine GL.stepG (tj := 50) rfl rfl (Ex.wp (v := (.agg #[(.int .i64 (((W : Nat) : Int))), (.int .i64 (((H : Nat) : Int))), (.slice (some ⟨xq25, 0, none⟩) (W * H) (W * H))])) (Ex.loadA rfl T.ag43 T.sz43 (i := 0) rfl (vs := [(.int .i64 (((W : Nat) : Int))), (.int .i64 (((H : Nat) : Int))), (.slice (some ⟨xq25, 0, none⟩) (W * H) (W * H))]) rfl rfl) (by decide)) (fun _ _ => ?_)
  refine GL.stepG (tj := 50) rfl rfl (Ex.wp (v := (.agg #[(.int .i64 (((W : Nat) : Int))), (.int .i64 (((H : Nat) : Int))), (.slice (some ⟨xq10, 0, none⟩) (W * H) (W * H))])) (Ex.loadA rfl T.ag43 T.sz43 (i := 7) rfl (vs := [(.int .i64 (((W : Nat) : Int))), (.int .i64 (((H : Nat) : Int))), (.slice (some ⟨xq10, 0, none⟩) (W * H) (W * H))]) rfl rfl) (by decide)) (fun _ _ => ?_)
  refine GL.stepG (tj := 50) rfl rfl (Stp.callR (vs := [(.agg #[(.int .i64 (((W : Nat) : Int))), (.int .i64 (((H : Nat) : Int))), (.slice (some ⟨xq25, 0, none⟩) (W * H) (W * H))]), (.agg #[(.int .i64 (((W : Nat) : Int))), (.int .i64 (((H : Nat) : Int))), (.slice (some ⟨xq10, 0, none⟩) (W * H) (W * H))])]) rfl rfl T.own22 (by decide) (fun wc hw => help_eq (((W : Nat) : Int)) (((H : Nat) : Int)) xq25 0 xq10 0 (W * H) (W * H) (W * H) (tab W (Bg.blr (Bg.gk kd r) r xs W H k) (W * H)) wc (tab_len _ _ _) (by first | omega | (have h' := hok.2.2.2.2; omega)) (hw.rdOf (i := 1) rfl 0) (hw.rdOf (i := 8) rfl 0))) (fun xq30 hq31 => ?_)
  refine GL.stepG (tj := 50) rfl rfl (Ex.wp (v := (.bool false)) (Ex.cast (Ex.not rfl) rfl) (by decide)) (fun _ _ => ?_)
  refine GL.val (v := (.bool false)) (Ex.pickF rfl rfl) (by decide) ?_
  refine GL.nil ?_
  refine GE.thenN ?_
  refine GC.cond rfl (fun hq32 => by cases hq32) (fun _ => ?_)
  refine GC.skip ?_
  refine GE.thenN ?_
  refine GC.region ?_
  refine GL.val (Ex.move rfl) (by decide) ?_
  refine GL.val (v := (.agg #[(.int .i64 (((W : Nat) : Int))), (.int .i64 (((H : Nat) : Int))), (.slice (some ⟨xq25, 0, none⟩) (W * H) (W * H))])) (Ex.loadA rfl T.ag43 T.sz43 (i := 0) rfl (vs := [(.int .i64 (((W : Nat) : Int))), (.int .i64 (((H : Nat) : Int))), (.slice (some ⟨xq25, 0, none⟩) (W * H) (W * H))]) rfl rfl) (by decide) ?_
  refine GL.val (Ex.move rfl) (by decide) ?_
  refine GL.step (Stp.call (vs := [(.pointer (some ⟨bq5, 0, none⟩)), (.agg #[(.int .i64 (((W : Nat) : Int))), (.int .i64 (((H : Nat) : Int))), (.slice (some ⟨xq25, 0, none⟩) (W * H) (W * H))]), (.int .i64 1)]) rfl rfl T.own23 (by decide) (fun wc hw => book_p11 w _ (((W : Nat) : Int)) (((H : Nat) : Int)) bq5 1 xq25 (W * H) (W * H) ((tab W (Bg.blr (Bg.gk kd r) r xs W H k) (W * H)).map u32) 1 xq22.2.1 xq22.2.2.1 xq22.1.1 xq22.1.2.1 ([(Value.slice (some ⟨xq14, 0, none⟩) (W * H) (W * H))]) xq22.2.2.2 ([(Value.int .i64 0)]) xq22.1.2.2 wc (by rw [List.length_map]; exact (tab_len _ _ _)) (by have h' := (hok).2.2.2.2; omega) (by first | decide | omega) (by first | rfl | omega) (by first | rfl | omega) hq23.1 hq23.2 (hw.pick (idx := [4, 3, 2, 1, 0, 5, 6, 7, 8, 9, 10, 11, 12, 13, 14, 15]) (by decide) rfl))) (fun xq33 hq34 => ?_)
  refine GL.nil ?_
  refine GE.blockN ?_
  refine GE.thenN ?_
  refine GC.region ?_
  refine GL.val (Ex.move rfl) (by decide) ?_
  refine GL.val (v := (.int .i64 2)) (Ex.add rfl rfl (Z := 2) (by decide)) (by decide) ?_
  refine GL.val (Ex.assign rfl) (by decide) ?_
  refine GL.nil ?_
  refine GE.thenN ?_
  refine GE.round ?_
  refine GC.seq ?_
  refine GC.seq ?_
  refine GC.region ?_
  refine GL.val (Ex.move rfl) (by decide) ?_
  refine GL.val (v := (.bool false)) (Ex.cast (Ex.lss rfl rfl) rfl) (by decide) ?_
  refine GL.nil ?_
  refine GE.thenN ?_
  refine GC.cond rfl (fun hq35 => by cases hq35) (fun _ => ?_)
  refine GC.exit ?_
  refine GE.thenE ?_
  refine GE.thenE ?_
  refine GE.blockE ?_
  refine GE.thenN ?_
  refine GC.seq ?_
  refine GC.region ?_
  refine GL.val (Ex.move rfl) (by decide) ?_
  refine GL.step (Stp.callR (vs := [(.pointer (some ⟨bq5, 0, none⟩))]) rfl rfl T.own18 (by decide) (fun wc hw => book_hold bq5 2 xq33.2.1 xq33.2.2.1 xq33.1.1 xq33.1.2.1 ([⟨(some ⟨xq14, 0, none⟩), W * H, 0⟩, ⟨(some ⟨xq25, 0, none⟩), W * H, 1⟩] : List It) xq33.2.2.2 xq33.1.2.2 wc rfl (by decide) (it_cons (it_blk (by have h' := (hok).2.2.2.2; omega) (hw.rdOf (i := 5) rfl 0)) (it_cons (it_blk (by have h' := (hok).2.2.2.2; omega) (hw.rdOf (i := 3) rfl 0)) it_all)) (Has.cons (hw.hasOf (i := 2) rfl) (Has.cons (hw.hasOf (i := 1) rfl) (Has.cons (hw.hasOf (i := 0) rfl) (Has.nil _)))))) (fun xq36 hq37 => ?_)
  refine GL.val (Ex.move rfl) (by decide) ?_
  refine GL.stepG (tj := 62) rfl rfl (Ex.wp (v := (.pointer (some ⟨bq6, 0, none⟩))) (Ex.move rfl) (by decide)) (fun _ _ => ?_)
  refine GL.stepG (tj := 62) rfl rfl (Stp.callR (vs := [(.pointer (some ⟨bq6, 0, none⟩))]) rfl rfl T.own24 (by decide) (fun wc hw => room_hold1 bq6 xq7.2.2.1.1 xq7.1.1 xq7.2.2.1.2.1 xq7.1.2.1 xq7.2.2.1.2.2 xq7.1.2.2 xq7.2.2.2 xq7.2.1.1 n xq7.2.1.2.1 xs xq7.2.1.2.2 wc ⟨hl.1, hb⟩ (Has.cons (hw.hasOf (i := 14) rfl) (Has.cons (hw.hasOf (i := 12) rfl) (Has.cons (hw.hasOf (i := 10) rfl) (Has.cons (hw.hasOf (i := 13) rfl) (Has.cons (hw.hasOf (i := 11) rfl) (Has.nil _)))))))) (fun xq38 hq39 => ?_)
  refine GL.val (v := (.bool true)) (Ex.pickT rfl rfl) (by decide) ?_
  refine GL.val (Ex.assign rfl) (by decide) ?_
  refine GL.nil ?_
  refine GE.thenN ?_
  refine GC.ret ?_
  refine GC.ret1 rfl (Rv.tmp rfl) (fun wN HN => ?_)
  exact HN.ret () trivial rfl (List.nil_sublist _) rfl

set_option maxRecDepth 100000 in
set_option maxHeartbeats 1000000 in
theorem bl_bad (W H : Int) (ad : Option Addr) (n cap : Nat) (k kd r : Int) (xs : List Int) (w : World) (hl : Lst w ad n xs) (hb : n ≤ 35184372087808) (hc : chk W H n ≠ 0) :
    Calls Try.prog 5 #[(.agg #[(.int .i64 W), (.int .i64 H), (.slice ad n cap)]), (.int .i64 kd), (.int .i64 r), (.int .i64 k)] w (Ret w (fun _ : Unit => True) (fun _ => .bool true) (fun _ => [])) := by
  refine enter (M := None) (L := []) (n := 66) (l := [(0, (.agg #[(.int .i64 W), (.int .i64 H), (.slice ad n cap)])), (1, (.int .i64 kd)), (2, (.int .i64 r)), (3, (.int .i64 k))]) Try.func5 rfl rfl (Args.cons rfl (Args.cons rfl (Args.cons rfl (Args.cons rfl (Args.nil _))))) (Hp.start _ _) ?_
  refine GC.seq ?_
  refine GC.region ?_
  refine GL.step (Stp.box (cs := [(.int .i64 W), (.int .i64 H), (.slice ad n cap)]) rfl rfl (by decide)) (fun bq1 _ => ?_)
  refine GL.val (Ex.assign rfl) (by decide) ?_
  refine GL.nil ?_
  refine GE.thenN ?_
  refine GC.seq ?_
  refine GC.seq ?_
  refine GC.region ?_
  refine GL.step (Stp.callR (vs := []) rfl rfl T.own12 (by decide) (fun wc hw => known wc)) (fun xq2 hq3 => ?_)
  refine GL.val (v := (.bool false)) (Ex.cast (Ex.not rfl) rfl) (by decide) ?_
  refine GL.nil ?_
  refine GE.thenN ?_
  refine GC.cond rfl (fun hq4 => by cases hq4) (fun _ => ?_)
  refine GC.skip ?_
  refine GE.thenN ?_
  refine GC.seq ?_
  refine GC.region ?_
  refine GL.val (v := (.agg #[(.slice none 0 0), (.slice none 0 0), (.slice none 0 0), (.slice none 0 0), (.slice none 0 0), (.slice none 0 0), (.slice none 0 0), (.slice none 0 0)])) (Ex.build (vs := []) rfl (by first | rfl | kernel_rfl)) (by decide) ?_
  refine GL.step (Stp.box (cs := [(.slice none 0 0), (.slice none 0 0), (.slice none 0 0), (.slice none 0 0), (.slice none 0 0), (.slice none 0 0), (.slice none 0 0), (.slice none 0 0)]) rfl rfl (by decide)) (fun bq5 _ => ?_)
  refine GL.val (Ex.assign rfl) (by decide) ?_
  refine GL.nil ?_
  refine GE.thenN ?_
  refine GC.seq ?_
  refine GC.region ?_
  refine GL.val (v := (.agg #[(.slice none 0 0), (.slice none 0 0), (.slice none 0 0), (.slice none 0 0), (.slice none 0 0), (.slice none 0 0), (.slice none 0 0), (.slice none 0 0)])) (Ex.build (vs := []) rfl (by first | rfl | kernel_rfl)) (by decide) ?_
  refine GL.step (Stp.box (cs := [(.slice none 0 0), (.slice none 0 0), (.slice none 0 0), (.slice none 0 0), (.slice none 0 0), (.slice none 0 0), (.slice none 0 0), (.slice none 0 0)]) rfl rfl (by decide)) (fun bq6 _ => ?_)
  refine GL.val (Ex.assign rfl) (by decide) ?_
  refine GL.nil ?_
  refine GE.thenN ?_
  refine GC.seq ?_
  refine GC.region ?_
  refine GL.val (Ex.move rfl) (by decide) ?_
  refine GL.val (v := (.agg #[(.int .i64 W), (.int .i64 H), (.slice ad n cap)])) (Ex.loadA rfl T.ag43 T.sz43 (i := 2) rfl (vs := [(.int .i64 W), (.int .i64 H), (.slice ad n cap)]) rfl rfl) (by decide) ?_
  refine GL.step (Stp.call (vs := [(.pointer (some ⟨bq6, 0, none⟩)), (.agg #[(.int .i64 W), (.int .i64 H), (.slice ad n cap)])]) rfl rfl T.own19 (by decide) (fun wc hw => room_p0 w _ W H bq6 n cap ad xs wc hl hb (hw.pick (idx := [0, 1, 2]) (by decide) rfl))) (fun xq7 hq8 => ?_)
  refine GL.step (Stp.alloc T.zr43 (by decide)) (fun bq9 _ => ?_)
  refine GL.step (Stp.st0 (cs' := [(.int .i64 W), (.int .i64 H), (.slice (some ⟨xq7.2.2.2, 0, none⟩) n (n + 5))]) rfl rfl rfl T.sz43 rfl rfl rfl) (fun _ _ => ?_)
  refine GL.nil ?_
  refine GE.thenN ?_
  refine GC.seq ?_
  refine GC.region ?_
  refine GL.val (v := (.agg #[(.int .i64 W), (.int .i64 H), (.slice ad n cap)])) (Ex.loadA rfl T.ag43 T.sz43 (i := 7) rfl (vs := [(.int .i64 W), (.int .i64 H), (.slice ad n cap)]) rfl rfl) (by decide) ?_
  refine GL.val (Ex.move rfl) (by decide) ?_
  refine GL.val (Ex.move rfl) (by decide) ?_
  refine GL.val (Ex.move rfl) (by decide) ?_
  refine GL.step (Stp.callR (vs := [(.agg #[(.int .i64 W), (.int .i64 H), (.slice ad n cap)]), (.int .i64 kd), (.int .i64 r), (.int .i64 k)]) rfl rfl T.own20 (by decide) (fun wc hw => ref_blur_bad W H ad n cap k kd r wc hc)) (fun xq10 hq11 => ?_)
  refine GL.val (Ex.move rfl) (by decide) ?_
  refine GL.val (Ex.extract rfl rfl) (by decide) ?_
  refine GL.val (Ex.extract rfl rfl) (by decide) ?_
  refine GL.step (Stp.alloc T.zr43 (by decide)) (fun bq12 _ => ?_)
  refine GL.step (Stp.st0 (cs' := [(.int .i64 0), (.int .i64 0), (.slice none 0 0)]) rfl rfl rfl T.sz43 rfl rfl rfl) (fun _ _ => ?_)
  refine GL.val (Ex.assign rfl) (by decide) ?_
  refine GL.nil ?_
  refine GE.thenN ?_
  refine GC.seq ?_
  refine GC.seq ?_
  refine GC.region ?_
  refine GL.val (Ex.assign rfl) (by decide) ?_
  refine GL.nil ?_
  refine GE.thenN ?_
  refine GC.block ?_
  refine GC.unroll 3 ?_
  refine GE.round ?_
  refine GC.seq ?_
  refine GC.seq ?_
  refine GC.region ?_
  refine GL.val (Ex.move rfl) (by decide) ?_
  refine GL.val (v := (.bool true)) (Ex.cast (Ex.lss rfl rfl) rfl) (by decide) ?_
  refine GL.nil ?_
  refine GE.thenN ?_
  refine GC.cond rfl (fun _ => ?_) (fun hq13 => by cases hq13)
  refine GC.skip ?_
  refine GE.thenN ?_
  refine GC.seq ?_
  refine GC.block ?_
  refine GC.seq ?_
  refine GC.region ?_
  refine GL.val (v := (.agg #[(.int .i64 W), (.int .i64 H), (.slice (some ⟨xq7.2.2.2, 0, none⟩) n (n + 5))])) (Ex.loadA rfl T.ag43 T.sz43 (i := 1) rfl (vs := [(.int .i64 W), (.int .i64 H), (.slice (some ⟨xq7.2.2.2, 0, none⟩) n (n + 5))]) rfl rfl) (by decide) ?_
  refine GL.val (Ex.move rfl) (by decide) ?_
  refine GL.val (Ex.move rfl) (by decide) ?_
  refine GL.val (Ex.move rfl) (by decide) ?_
  refine GL.step (Stp.callR (vs := [(.agg #[(.int .i64 W), (.int .i64 H), (.slice (some ⟨xq7.2.2.2, 0, none⟩) n (n + 5))]), (.int .i64 kd), (.int .i64 r), (.int .i64 k)]) rfl rfl T.own21 (by decide) (fun wc hw => blur_bad W H (some ⟨xq7.2.2.2, 0, none⟩) n (n + 5) k kd r wc hc)) (fun xq14 hq15 => ?_)
  refine GL.val (Ex.move rfl) (by decide) ?_
  refine GL.val (Ex.extract rfl rfl) (by decide) ?_
  refine GL.val (Ex.extract rfl rfl) (by decide) ?_
  refine GL.step (Stp.alloc T.zr43 (by decide)) (fun bq16 _ => ?_)
  refine GL.step (Stp.st0 (cs' := [(.int .i64 0), (.int .i64 0), (.slice none 0 0)]) rfl rfl rfl T.sz43 rfl rfl rfl) (fun _ _ => ?_)
  refine GL.val (Ex.assign rfl) (by decide) ?_
  refine GL.nil ?_
  refine GE.thenN ?_
  refine GC.seq ?_
  refine GC.seq ?_
  refine GC.region ?_
  refine GL.val (Ex.move rfl) (by decide) ?_
  refine GL.step (Stp.callR (vs := [(.int .i64 ((chk W H n)))]) rfl rfl T.own15 (by decide) (fun wc hw => num ((chk W H n)) wc)) (fun xq17 hq18 => ?_)
  refine GL.val (Ex.move rfl) (by decide) ?_
  refine GL.val (v := (.bool false)) (Ex.cast (Ex.neq rfl rfl) (congrArg Value.bool (decide_eq_false (by simp)))) (by decide) ?_
  refine GL.val (Ex.move rfl) (by decide) ?_
  refine GL.stepG (tj := 50) rfl rfl (Ex.wp (v := (.agg #[(.int .i64 0), (.int .i64 0), (.slice none 0 0)])) (Ex.loadA rfl T.ag43 T.sz43 (i := 0) rfl (vs := [(.int .i64 0), (.int .i64 0), (.slice none 0 0)]) rfl rfl) (by decide)) (fun _ _ => ?_)
  refine GL.stepG (tj := 50) rfl rfl (Ex.wp (v := (.agg #[(.int .i64 0), (.int .i64 0), (.slice none 0 0)])) (Ex.loadA rfl T.ag43 T.sz43 (i := 1) rfl (vs := [(.int .i64 0), (.int .i64 0), (.slice none 0 0)]) rfl rfl) (by decide)) (fun _ _ => ?_)
  refine GL.stepG (tj := 50) rfl rfl (Stp.callR (vs := [(.agg #[(.int .i64 0), (.int .i64 0), (.slice none 0 0)]), (.agg #[(.int .i64 0), (.int .i64 0), (.slice none 0 0)])]) rfl rfl T.own22 (by decide) (fun wc hw => help_nil wc)) (fun xq19 hq20 => ?_)
  refine GL.stepG (tj := 50) rfl rfl (Ex.wp (v := (.bool false)) (Ex.cast (Ex.not rfl) rfl) (by decide)) (fun _ _ => ?_)
  refine GL.val (v := (.bool false)) (Ex.pickF rfl rfl) (by decide) ?_
  refine GL.nil ?_
  refine GE.thenN ?_
  refine GC.cond rfl (fun hq21 => by cases hq21) (fun _ => ?_)
  refine GC.skip ?_
  refine GE.thenN ?_
  refine GC.region ?_
  refine GL.val (Ex.move rfl) (by decide) ?_
  refine GL.val (v := (.agg #[(.int .i64 0), (.int .i64 0), (.slice none 0 0)])) (Ex.loadA rfl T.ag43 T.sz43 (i := 0) rfl (vs := [(.int .i64 0), (.int .i64 0), (.slice none 0 0)]) rfl rfl) (by decide) ?_
  refine GL.val (Ex.move rfl) (by decide) ?_
  refine GL.step (Stp.call (vs := [(.pointer (some ⟨bq5, 0, none⟩)), (.agg #[(.int .i64 0), (.int .i64 0), (.slice none 0 0)]), (.int .i64 0)]) rfl rfl T.own23 (by decide) (fun wc hw => book_p00 w _ 0 0 bq5 0 wc (hw.pick (idx := [8, 0, 1, 2, 3, 4, 5, 6, 7, 9]) (by decide) rfl))) (fun xq22 hq23 => ?_)
  refine GL.nil ?_
  refine GE.blockN ?_
  refine GE.thenN ?_
  refine GC.region ?_
  refine GL.val (Ex.move rfl) (by decide) ?_
  refine GL.val (v := (.int .i64 1)) (Ex.add rfl rfl (Z := 1) (by decide)) (by decide) ?_
  refine GL.val (Ex.assign rfl) (by decide) ?_
  refine GL.nil ?_
  refine GE.thenN ?_
  refine GE.round ?_
  refine GC.seq ?_
  refine GC.seq ?_
  refine GC.region ?_
  refine GL.val (Ex.move rfl) (by decide) ?_
  refine GL.val (v := (.bool true)) (Ex.cast (Ex.lss rfl rfl) rfl) (by decide) ?_
  refine GL.nil ?_
  refine GE.thenN ?_
  refine GC.cond rfl (fun _ => ?_) (fun hq24 => by cases hq24)
  refine GC.skip ?_
  refine GE.thenN ?_
  refine GC.seq ?_
  refine GC.block ?_
  refine GC.seq ?_
  refine GC.region ?_
  refine GL.val (v := (.agg #[(.int .i64 W), (.int .i64 H), (.slice (some ⟨xq7.2.2.2, 0, none⟩) n (n + 5))])) (Ex.loadA rfl T.ag43 T.sz43 (i := 5) rfl (vs := [(.int .i64 W), (.int .i64 H), (.slice (some ⟨xq7.2.2.2, 0, none⟩) n (n + 5))]) rfl rfl) (by decide) ?_
  refine GL.val (Ex.move rfl) (by decide) ?_
  refine GL.val (Ex.move rfl) (by decide) ?_
  refine GL.val (Ex.move rfl) (by decide) ?_
  refine GL.step (Stp.callR (vs := [(.agg #[(.int .i64 W), (.int .i64 H), (.slice (some ⟨xq7.2.2.2, 0, none⟩) n (n + 5))]), (.int .i64 kd), (.int .i64 r), (.int .i64 k)]) rfl rfl T.own21 (by decide) (fun wc hw => blur_bad W H (some ⟨xq7.2.2.2, 0, none⟩) n (n + 5) k kd r wc hc)) (fun xq25 hq26 => ?_)
  refine GL.val (Ex.move rfl) (by decide) ?_
  refine GL.val (Ex.extract rfl rfl) (by decide) ?_
  refine GL.val (Ex.extract rfl rfl) (by decide) ?_
  refine GL.step (Stp.alloc T.zr43 (by decide)) (fun bq27 _ => ?_)
  refine GL.step (Stp.st0 (cs' := [(.int .i64 0), (.int .i64 0), (.slice none 0 0)]) rfl rfl rfl T.sz43 rfl rfl rfl) (fun _ _ => ?_)
  refine GL.val (Ex.assign rfl) (by decide) ?_
  refine GL.nil ?_
  refine GE.thenN ?_
  refine GC.seq ?_
  refine GC.seq ?_
  refine GC.region ?_
  refine GL.val (Ex.move rfl) (by decide) ?_
  refine GL.step (Stp.callR (vs := [(.int .i64 ((chk W H n)))]) rfl rfl T.own15 (by decide) (fun wc hw => num ((chk W H n)) wc)) (fun xq28 hq29 => ?_)
  refine GL.val (Ex.move rfl) (by decide) ?_
  refine GL.val (v := (.bool false)) (Ex.cast (Ex.neq rfl rfl) (congrArg Value.bool (decide_eq_false (by simp)))) (by decide) ?_
  refine GL.val (Ex.move rfl) (by decide) ?_
  refine GL.stepG (tj := 50) rfl rfl (Ex.wp (v := (.agg #[(.int .i64 0), (.int .i64 0), (.slice none 0 0)])) (Ex.loadA rfl T.ag43 T.sz43 (i := 0) rfl (vs := [(.int .i64 0), (.int .i64 0), (.slice none 0 0)]) rfl rfl) (by decide)) (fun _ _ => ?_)
  refine GL.stepG (tj := 50) rfl rfl (Ex.wp (v := (.agg #[(.int .i64 0), (.int .i64 0), (.slice none 0 0)])) (Ex.loadA rfl T.ag43 T.sz43 (i := 5) rfl (vs := [(.int .i64 0), (.int .i64 0), (.slice none 0 0)]) rfl rfl) (by decide)) (fun _ _ => ?_)
  refine GL.stepG (tj := 50) rfl rfl (Stp.callR (vs := [(.agg #[(.int .i64 0), (.int .i64 0), (.slice none 0 0)]), (.agg #[(.int .i64 0), (.int .i64 0), (.slice none 0 0)])]) rfl rfl T.own22 (by decide) (fun wc hw => help_nil wc)) (fun xq30 hq31 => ?_)
  refine GL.stepG (tj := 50) rfl rfl (Ex.wp (v := (.bool false)) (Ex.cast (Ex.not rfl) rfl) (by decide)) (fun _ _ => ?_)
  refine GL.val (v := (.bool false)) (Ex.pickF rfl rfl) (by decide) ?_
  refine GL.nil ?_
  refine GE.thenN ?_
  refine GC.cond rfl (fun hq32 => by cases hq32) (fun _ => ?_)
  refine GC.skip ?_
  refine GE.thenN ?_
  refine GC.region ?_
  refine GL.val (Ex.move rfl) (by decide) ?_
  refine GL.val (v := (.agg #[(.int .i64 0), (.int .i64 0), (.slice none 0 0)])) (Ex.loadA rfl T.ag43 T.sz43 (i := 0) rfl (vs := [(.int .i64 0), (.int .i64 0), (.slice none 0 0)]) rfl rfl) (by decide) ?_
  refine GL.val (Ex.move rfl) (by decide) ?_
  refine GL.step (Stp.call (vs := [(.pointer (some ⟨bq5, 0, none⟩)), (.agg #[(.int .i64 0), (.int .i64 0), (.slice none 0 0)]), (.int .i64 1)]) rfl rfl T.own23 (by decide) (fun wc hw => book_p10 w _ 0 0 bq5 1 1 xq22.2.1 xq22.2.2.1 xq22.1.1 xq22.1.2.1 ([(Value.slice none 0 0)]) xq22.2.2.2 ([(Value.int .i64 0)]) xq22.1.2.2 wc (by first | decide | omega) (by first | rfl | omega) (by first | rfl | omega) hq23.1 hq23.2 (hw.pick (idx := [3, 2, 1, 0, 4, 5, 6, 7, 8, 9, 10, 11, 12]) (by decide) rfl))) (fun xq33 hq34 => ?_)
  refine GL.nil ?_
  refine GE.blockN ?_
  refine GE.thenN ?_
  refine GC.region ?_
  refine GL.val (Ex.move rfl) (by decide) ?_
  refine GL.val (v := (.int .i64 2)) (Ex.add rfl rfl (Z := 2) (by decide)) (by decide) ?_
  refine GL.val (Ex.assign rfl) (by decide) ?_
  refine GL.nil ?_
  refine GE.thenN ?_
  refine GE.round ?_
  refine GC.seq ?_
  refine GC.seq ?_
  refine GC.region ?_
  refine GL.val (Ex.move rfl) (by decide) ?_
  refine GL.val (v := (.bool false)) (Ex.cast (Ex.lss rfl rfl) rfl) (by decide) ?_
  refine GL.nil ?_
  refine GE.thenN ?_
  refine GC.cond rfl (fun hq35 => by cases hq35) (fun _ => ?_)
  refine GC.exit ?_
  refine GE.thenE ?_
  refine GE.thenE ?_
  refine GE.blockE ?_
  refine GE.thenN ?_
  refine GC.seq ?_
  refine GC.region ?_
  refine GL.val (Ex.move rfl) (by decide) ?_
  refine GL.step (Stp.callR (vs := [(.pointer (some ⟨bq5, 0, none⟩))]) rfl rfl T.own18 (by decide) (fun wc hw => book_hold bq5 2 xq33.2.1 xq33.2.2.1 xq33.1.1 xq33.1.2.1 ([⟨none, 0, 0⟩, ⟨none, 0, 1⟩] : List It) xq33.2.2.2 xq33.1.2.2 wc rfl (by decide) (it_cons (it_nil _) (it_cons (it_nil _) it_all)) (Has.cons (hw.hasOf (i := 2) rfl) (Has.cons (hw.hasOf (i := 1) rfl) (Has.cons (hw.hasOf (i := 0) rfl) (Has.nil _)))))) (fun xq36 hq37 => ?_)
  refine GL.val (Ex.move rfl) (by decide) ?_
  refine GL.stepG (tj := 62) rfl rfl (Ex.wp (v := (.pointer (some ⟨bq6, 0, none⟩))) (Ex.move rfl) (by decide)) (fun _ _ => ?_)
  refine GL.stepG (tj := 62) rfl rfl (Stp.callR (vs := [(.pointer (some ⟨bq6, 0, none⟩))]) rfl rfl T.own24 (by decide) (fun wc hw => room_hold1 bq6 xq7.2.2.1.1 xq7.1.1 xq7.2.2.1.2.1 xq7.1.2.1 xq7.2.2.1.2.2 xq7.1.2.2 xq7.2.2.2 xq7.2.1.1 n xq7.2.1.2.1 xs xq7.2.1.2.2 wc ⟨hl.1, hb⟩ (Has.cons (hw.hasOf (i := 11) rfl) (Has.cons (hw.hasOf (i := 9) rfl) (Has.cons (hw.hasOf (i := 7) rfl) (Has.cons (hw.hasOf (i := 10) rfl) (Has.cons (hw.hasOf (i := 8) rfl) (Has.nil _)))))))) (fun xq38 hq39 => ?_)
  refine GL.val (v := (.bool true)) (Ex.pickT rfl rfl) (by decide) ?_
  refine GL.val (Ex.assign rfl) (by decide) ?_
  refine GL.nil ?_
  refine GE.thenN ?_
  refine GC.ret ?_
  refine GC.ret1 rfl (Rv.tmp rfl) (fun wN HN => ?_)
  exact HN.ret () trivial rfl (List.nil_sublist _) rfl

set_option maxRecDepth 100000 in
set_option maxHeartbeats 1000000 in
theorem bl_kern (W H : Int) (ad : Option Addr) (n cap : Nat) (k kd r : Int) (xs : List Int) (w : World) (hl : Lst w ad n xs) (hb : n ≤ 35184372087808) (hc : chk W H n = 0) (hnk : ¬ (0 ≤ r ∧ r ≤ 7 ∧ (kd = 1 ∨ kd = 2))) :
    Calls Try.prog 5 #[(.agg #[(.int .i64 W), (.int .i64 H), (.slice ad n cap)]), (.int .i64 kd), (.int .i64 r), (.int .i64 k)] w (Ret w (fun _ : Unit => True) (fun _ => .bool true) (fun _ => [])) := by
  refine enter (M := None) (L := []) (n := 66) (l := [(0, (.agg #[(.int .i64 W), (.int .i64 H), (.slice ad n cap)])), (1, (.int .i64 kd)), (2, (.int .i64 r)), (3, (.int .i64 k))]) Try.func5 rfl rfl (Args.cons rfl (Args.cons rfl (Args.cons rfl (Args.cons rfl (Args.nil _))))) (Hp.start _ _) ?_
  refine GC.seq ?_
  refine GC.region ?_
  refine GL.step (Stp.box (cs := [(.int .i64 W), (.int .i64 H), (.slice ad n cap)]) rfl rfl (by decide)) (fun bq1 _ => ?_)
  refine GL.val (Ex.assign rfl) (by decide) ?_
  refine GL.nil ?_
  refine GE.thenN ?_
  refine GC.seq ?_
  refine GC.seq ?_
  refine GC.region ?_
  refine GL.step (Stp.callR (vs := []) rfl rfl T.own12 (by decide) (fun wc hw => known wc)) (fun xq2 hq3 => ?_)
  refine GL.val (v := (.bool false)) (Ex.cast (Ex.not rfl) rfl) (by decide) ?_
  refine GL.nil ?_
  refine GE.thenN ?_
  refine GC.cond rfl (fun hq4 => by cases hq4) (fun _ => ?_)
  refine GC.skip ?_
  refine GE.thenN ?_
  refine GC.seq ?_
  refine GC.region ?_
  refine GL.val (v := (.agg #[(.slice none 0 0), (.slice none 0 0), (.slice none 0 0), (.slice none 0 0), (.slice none 0 0), (.slice none 0 0), (.slice none 0 0), (.slice none 0 0)])) (Ex.build (vs := []) rfl (by first | rfl | kernel_rfl)) (by decide) ?_
  refine GL.step (Stp.box (cs := [(.slice none 0 0), (.slice none 0 0), (.slice none 0 0), (.slice none 0 0), (.slice none 0 0), (.slice none 0 0), (.slice none 0 0), (.slice none 0 0)]) rfl rfl (by decide)) (fun bq5 _ => ?_)
  refine GL.val (Ex.assign rfl) (by decide) ?_
  refine GL.nil ?_
  refine GE.thenN ?_
  refine GC.seq ?_
  refine GC.region ?_
  refine GL.val (v := (.agg #[(.slice none 0 0), (.slice none 0 0), (.slice none 0 0), (.slice none 0 0), (.slice none 0 0), (.slice none 0 0), (.slice none 0 0), (.slice none 0 0)])) (Ex.build (vs := []) rfl (by first | rfl | kernel_rfl)) (by decide) ?_
  refine GL.step (Stp.box (cs := [(.slice none 0 0), (.slice none 0 0), (.slice none 0 0), (.slice none 0 0), (.slice none 0 0), (.slice none 0 0), (.slice none 0 0), (.slice none 0 0)]) rfl rfl (by decide)) (fun bq6 _ => ?_)
  refine GL.val (Ex.assign rfl) (by decide) ?_
  refine GL.nil ?_
  refine GE.thenN ?_
  refine GC.seq ?_
  refine GC.region ?_
  refine GL.val (Ex.move rfl) (by decide) ?_
  refine GL.val (v := (.agg #[(.int .i64 W), (.int .i64 H), (.slice ad n cap)])) (Ex.loadA rfl T.ag43 T.sz43 (i := 2) rfl (vs := [(.int .i64 W), (.int .i64 H), (.slice ad n cap)]) rfl rfl) (by decide) ?_
  refine GL.step (Stp.call (vs := [(.pointer (some ⟨bq6, 0, none⟩)), (.agg #[(.int .i64 W), (.int .i64 H), (.slice ad n cap)])]) rfl rfl T.own19 (by decide) (fun wc hw => room_p0 w _ W H bq6 n cap ad xs wc hl hb (hw.pick (idx := [0, 1, 2]) (by decide) rfl))) (fun xq7 hq8 => ?_)
  refine GL.step (Stp.alloc T.zr43 (by decide)) (fun bq9 _ => ?_)
  refine GL.step (Stp.st0 (cs' := [(.int .i64 W), (.int .i64 H), (.slice (some ⟨xq7.2.2.2, 0, none⟩) n (n + 5))]) rfl rfl rfl T.sz43 rfl rfl rfl) (fun _ _ => ?_)
  refine GL.nil ?_
  refine GE.thenN ?_
  refine GC.seq ?_
  refine GC.region ?_
  refine GL.val (v := (.agg #[(.int .i64 W), (.int .i64 H), (.slice ad n cap)])) (Ex.loadA rfl T.ag43 T.sz43 (i := 7) rfl (vs := [(.int .i64 W), (.int .i64 H), (.slice ad n cap)]) rfl rfl) (by decide) ?_
  refine GL.val (Ex.move rfl) (by decide) ?_
  refine GL.val (Ex.move rfl) (by decide) ?_
  refine GL.val (Ex.move rfl) (by decide) ?_
  refine GL.step (Stp.callR (vs := [(.agg #[(.int .i64 W), (.int .i64 H), (.slice ad n cap)]), (.int .i64 kd), (.int .i64 r), (.int .i64 k)]) rfl rfl T.own20 (by decide) (fun wc hw => ref_blur_kern W H ad n cap k kd r wc hc hnk)) (fun xq10 hq11 => ?_)
  refine GL.val (Ex.move rfl) (by decide) ?_
  refine GL.val (Ex.extract rfl rfl) (by decide) ?_
  refine GL.val (Ex.extract rfl rfl) (by decide) ?_
  refine GL.step (Stp.alloc T.zr43 (by decide)) (fun bq12 _ => ?_)
  refine GL.step (Stp.st0 (cs' := [(.int .i64 0), (.int .i64 0), (.slice none 0 0)]) rfl rfl rfl T.sz43 rfl rfl rfl) (fun _ _ => ?_)
  refine GL.val (Ex.assign rfl) (by decide) ?_
  refine GL.nil ?_
  refine GE.thenN ?_
  refine GC.seq ?_
  refine GC.seq ?_
  refine GC.region ?_
  refine GL.val (Ex.assign rfl) (by decide) ?_
  refine GL.nil ?_
  refine GE.thenN ?_
  refine GC.block ?_
  refine GC.unroll 3 ?_
  refine GE.round ?_
  refine GC.seq ?_
  refine GC.seq ?_
  refine GC.region ?_
  refine GL.val (Ex.move rfl) (by decide) ?_
  refine GL.val (v := (.bool true)) (Ex.cast (Ex.lss rfl rfl) rfl) (by decide) ?_
  refine GL.nil ?_
  refine GE.thenN ?_
  refine GC.cond rfl (fun _ => ?_) (fun hq13 => by cases hq13)
  refine GC.skip ?_
  refine GE.thenN ?_
  refine GC.seq ?_
  refine GC.block ?_
  refine GC.seq ?_
  refine GC.region ?_
  refine GL.val (v := (.agg #[(.int .i64 W), (.int .i64 H), (.slice (some ⟨xq7.2.2.2, 0, none⟩) n (n + 5))])) (Ex.loadA rfl T.ag43 T.sz43 (i := 1) rfl (vs := [(.int .i64 W), (.int .i64 H), (.slice (some ⟨xq7.2.2.2, 0, none⟩) n (n + 5))]) rfl rfl) (by decide) ?_
  refine GL.val (Ex.move rfl) (by decide) ?_
  refine GL.val (Ex.move rfl) (by decide) ?_
  refine GL.val (Ex.move rfl) (by decide) ?_
  refine GL.step (Stp.callR (vs := [(.agg #[(.int .i64 W), (.int .i64 H), (.slice (some ⟨xq7.2.2.2, 0, none⟩) n (n + 5))]), (.int .i64 kd), (.int .i64 r), (.int .i64 k)]) rfl rfl T.own21 (by decide) (fun wc hw => blur_kern W H (some ⟨xq7.2.2.2, 0, none⟩) n (n + 5) k kd r wc hc hnk)) (fun xq14 hq15 => ?_)
  refine GL.val (Ex.move rfl) (by decide) ?_
  refine GL.val (Ex.extract rfl rfl) (by decide) ?_
  refine GL.val (Ex.extract rfl rfl) (by decide) ?_
  refine GL.step (Stp.alloc T.zr43 (by decide)) (fun bq16 _ => ?_)
  refine GL.step (Stp.st0 (cs' := [(.int .i64 0), (.int .i64 0), (.slice none 0 0)]) rfl rfl rfl T.sz43 rfl rfl rfl) (fun _ _ => ?_)
  refine GL.val (Ex.assign rfl) (by decide) ?_
  refine GL.nil ?_
  refine GE.thenN ?_
  refine GC.seq ?_
  refine GC.seq ?_
  refine GC.region ?_
  refine GL.val (Ex.move rfl) (by decide) ?_
  refine GL.step (Stp.callR (vs := [(.int .i64 110)]) rfl rfl T.own15 (by decide) (fun wc hw => num 110 wc)) (fun xq17 hq18 => ?_)
  refine GL.val (Ex.move rfl) (by decide) ?_
  refine GL.val (v := (.bool false)) (Ex.cast (Ex.neq rfl rfl) rfl) (by decide) ?_
  refine GL.val (Ex.move rfl) (by decide) ?_
  refine GL.stepG (tj := 50) rfl rfl (Ex.wp (v := (.agg #[(.int .i64 0), (.int .i64 0), (.slice none 0 0)])) (Ex.loadA rfl T.ag43 T.sz43 (i := 0) rfl (vs := [(.int .i64 0), (.int .i64 0), (.slice none 0 0)]) rfl rfl) (by decide)) (fun _ _ => ?_)
  refine GL.stepG (tj := 50) rfl rfl (Ex.wp (v := (.agg #[(.int .i64 0), (.int .i64 0), (.slice none 0 0)])) (Ex.loadA rfl T.ag43 T.sz43 (i := 1) rfl (vs := [(.int .i64 0), (.int .i64 0), (.slice none 0 0)]) rfl rfl) (by decide)) (fun _ _ => ?_)
  refine GL.stepG (tj := 50) rfl rfl (Stp.callR (vs := [(.agg #[(.int .i64 0), (.int .i64 0), (.slice none 0 0)]), (.agg #[(.int .i64 0), (.int .i64 0), (.slice none 0 0)])]) rfl rfl T.own22 (by decide) (fun wc hw => help_nil wc)) (fun xq19 hq20 => ?_)
  refine GL.stepG (tj := 50) rfl rfl (Ex.wp (v := (.bool false)) (Ex.cast (Ex.not rfl) rfl) (by decide)) (fun _ _ => ?_)
  refine GL.val (v := (.bool false)) (Ex.pickF rfl rfl) (by decide) ?_
  refine GL.nil ?_
  refine GE.thenN ?_
  refine GC.cond rfl (fun hq21 => by cases hq21) (fun _ => ?_)
  refine GC.skip ?_
  refine GE.thenN ?_
  refine GC.region ?_
  refine GL.val (Ex.move rfl) (by decide) ?_
  refine GL.val (v := (.agg #[(.int .i64 0), (.int .i64 0), (.slice none 0 0)])) (Ex.loadA rfl T.ag43 T.sz43 (i := 0) rfl (vs := [(.int .i64 0), (.int .i64 0), (.slice none 0 0)]) rfl rfl) (by decide) ?_
  refine GL.val (Ex.move rfl) (by decide) ?_
  refine GL.step (Stp.call (vs := [(.pointer (some ⟨bq5, 0, none⟩)), (.agg #[(.int .i64 0), (.int .i64 0), (.slice none 0 0)]), (.int .i64 0)]) rfl rfl T.own23 (by decide) (fun wc hw => book_p00 w _ 0 0 bq5 0 wc (hw.pick (idx := [8, 0, 1, 2, 3, 4, 5, 6, 7, 9]) (by decide) rfl))) (fun xq22 hq23 => ?_)
  refine GL.nil ?_
  refine GE.blockN ?_
  refine GE.thenN ?_
  refine GC.region ?_
  refine GL.val (Ex.move rfl) (by decide) ?_
  refine GL.val (v := (.int .i64 1)) (Ex.add rfl rfl (Z := 1) (by decide)) (by decide) ?_
  refine GL.val (Ex.assign rfl) (by decide) ?_
  refine GL.nil ?_
  refine GE.thenN ?_
  refine GE.round ?_
  refine GC.seq ?_
  refine GC.seq ?_
  refine GC.region ?_
  refine GL.val (Ex.move rfl) (by decide) ?_
  refine GL.val (v := (.bool true)) (Ex.cast (Ex.lss rfl rfl) rfl) (by decide) ?_
  refine GL.nil ?_
  refine GE.thenN ?_
  refine GC.cond rfl (fun _ => ?_) (fun hq24 => by cases hq24)
  refine GC.skip ?_
  refine GE.thenN ?_
  refine GC.seq ?_
  refine GC.block ?_
  refine GC.seq ?_
  refine GC.region ?_
  refine GL.val (v := (.agg #[(.int .i64 W), (.int .i64 H), (.slice (some ⟨xq7.2.2.2, 0, none⟩) n (n + 5))])) (Ex.loadA rfl T.ag43 T.sz43 (i := 5) rfl (vs := [(.int .i64 W), (.int .i64 H), (.slice (some ⟨xq7.2.2.2, 0, none⟩) n (n + 5))]) rfl rfl) (by decide) ?_
  refine GL.val (Ex.move rfl) (by decide) ?_
  refine GL.val (Ex.move rfl) (by decide) ?_
  refine GL.val (Ex.move rfl) (by decide) ?_
  refine GL.step (Stp.callR (vs := [(.agg #[(.int .i64 W), (.int .i64 H), (.slice (some ⟨xq7.2.2.2, 0, none⟩) n (n + 5))]), (.int .i64 kd), (.int .i64 r), (.int .i64 k)]) rfl rfl T.own21 (by decide) (fun wc hw => blur_kern W H (some ⟨xq7.2.2.2, 0, none⟩) n (n + 5) k kd r wc hc hnk)) (fun xq25 hq26 => ?_)
  refine GL.val (Ex.move rfl) (by decide) ?_
  refine GL.val (Ex.extract rfl rfl) (by decide) ?_
  refine GL.val (Ex.extract rfl rfl) (by decide) ?_
  refine GL.step (Stp.alloc T.zr43 (by decide)) (fun bq27 _ => ?_)
  refine GL.step (Stp.st0 (cs' := [(.int .i64 0), (.int .i64 0), (.slice none 0 0)]) rfl rfl rfl T.sz43 rfl rfl rfl) (fun _ _ => ?_)
  refine GL.val (Ex.assign rfl) (by decide) ?_
  refine GL.nil ?_
  refine GE.thenN ?_
  refine GC.seq ?_
  refine GC.seq ?_
  refine GC.region ?_
  refine GL.val (Ex.move rfl) (by decide) ?_
  refine GL.step (Stp.callR (vs := [(.int .i64 110)]) rfl rfl T.own15 (by decide) (fun wc hw => num 110 wc)) (fun xq28 hq29 => ?_)
  refine GL.val (Ex.move rfl) (by decide) ?_
  refine GL.val (v := (.bool false)) (Ex.cast (Ex.neq rfl rfl) rfl) (by decide) ?_
  refine GL.val (Ex.move rfl) (by decide) ?_
  refine GL.stepG (tj := 50) rfl rfl (Ex.wp (v := (.agg #[(.int .i64 0), (.int .i64 0), (.slice none 0 0)])) (Ex.loadA rfl T.ag43 T.sz43 (i := 0) rfl (vs := [(.int .i64 0), (.int .i64 0), (.slice none 0 0)]) rfl rfl) (by decide)) (fun _ _ => ?_)
  refine GL.stepG (tj := 50) rfl rfl (Ex.wp (v := (.agg #[(.int .i64 0), (.int .i64 0), (.slice none 0 0)])) (Ex.loadA rfl T.ag43 T.sz43 (i := 5) rfl (vs := [(.int .i64 0), (.int .i64 0), (.slice none 0 0)]) rfl rfl) (by decide)) (fun _ _ => ?_)
  refine GL.stepG (tj := 50) rfl rfl (Stp.callR (vs := [(.agg #[(.int .i64 0), (.int .i64 0), (.slice none 0 0)]), (.agg #[(.int .i64 0), (.int .i64 0), (.slice none 0 0)])]) rfl rfl T.own22 (by decide) (fun wc hw => help_nil wc)) (fun xq30 hq31 => ?_)
  refine GL.stepG (tj := 50) rfl rfl (Ex.wp (v := (.bool false)) (Ex.cast (Ex.not rfl) rfl) (by decide)) (fun _ _ => ?_)
  refine GL.val (v := (.bool false)) (Ex.pickF rfl rfl) (by decide) ?_
  refine GL.nil ?_
  refine GE.thenN ?_
  refine GC.cond rfl (fun hq32 => by cases hq32) (fun _ => ?_)
  refine GC.skip ?_
  refine GE.thenN ?_
  refine GC.region ?_
  refine GL.val (Ex.move rfl) (by decide) ?_
  refine GL.val (v := (.agg #[(.int .i64 0), (.int .i64 0), (.slice none 0 0)])) (Ex.loadA rfl T.ag43 T.sz43 (i := 0) rfl (vs := [(.int .i64 0), (.int .i64 0), (.slice none 0 0)]) rfl rfl) (by decide) ?_
  refine GL.val (Ex.move rfl) (by decide) ?_
  refine GL.step (Stp.call (vs := [(.pointer (some ⟨bq5, 0, none⟩)), (.agg #[(.int .i64 0), (.int .i64 0), (.slice none 0 0)]), (.int .i64 1)]) rfl rfl T.own23 (by decide) (fun wc hw => book_p10 w _ 0 0 bq5 1 1 xq22.2.1 xq22.2.2.1 xq22.1.1 xq22.1.2.1 ([(Value.slice none 0 0)]) xq22.2.2.2 ([(Value.int .i64 0)]) xq22.1.2.2 wc (by first | decide | omega) (by first | rfl | omega) (by first | rfl | omega) hq23.1 hq23.2 (hw.pick (idx := [3, 2, 1, 0, 4, 5, 6, 7, 8, 9, 10, 11, 12]) (by decide) rfl))) (fun xq33 hq34 => ?_)
  refine GL.nil ?_
  refine GE.blockN ?_
  refine GE.thenN ?_
  refine GC.region ?_
  refine GL.val (Ex.move rfl) (by decide) ?_
  refine GL.val (v := (.int .i64 2)) (Ex.add rfl rfl (Z := 2) (by decide)) (by decide) ?_
  refine GL.val (Ex.assign rfl) (by decide) ?_
  refine GL.nil ?_
  refine GE.thenN ?_
  refine GE.round ?_
  refine GC.seq ?_
  refine GC.seq ?_
  refine GC.region ?_
  refine GL.val (Ex.move rfl) (by decide) ?_
  refine GL.val (v := (.bool false)) (Ex.cast (Ex.lss rfl rfl) rfl) (by decide) ?_
  refine GL.nil ?_
  refine GE.thenN ?_
  refine GC.cond rfl (fun hq35 => by cases hq35) (fun _ => ?_)
  refine GC.exit ?_
  refine GE.thenE ?_
  refine GE.thenE ?_
  refine GE.blockE ?_
  refine GE.thenN ?_
  refine GC.seq ?_
  refine GC.region ?_
  refine GL.val (Ex.move rfl) (by decide) ?_
  refine GL.step (Stp.callR (vs := [(.pointer (some ⟨bq5, 0, none⟩))]) rfl rfl T.own18 (by decide) (fun wc hw => book_hold bq5 2 xq33.2.1 xq33.2.2.1 xq33.1.1 xq33.1.2.1 ([⟨none, 0, 0⟩, ⟨none, 0, 1⟩] : List It) xq33.2.2.2 xq33.1.2.2 wc rfl (by decide) (it_cons (it_nil _) (it_cons (it_nil _) it_all)) (Has.cons (hw.hasOf (i := 2) rfl) (Has.cons (hw.hasOf (i := 1) rfl) (Has.cons (hw.hasOf (i := 0) rfl) (Has.nil _)))))) (fun xq36 hq37 => ?_)
  refine GL.val (Ex.move rfl) (by decide) ?_
  refine GL.stepG (tj := 62) rfl rfl (Ex.wp (v := (.pointer (some ⟨bq6, 0, none⟩))) (Ex.move rfl) (by decide)) (fun _ _ => ?_)
  refine GL.stepG (tj := 62) rfl rfl (Stp.callR (vs := [(.pointer (some ⟨bq6, 0, none⟩))]) rfl rfl T.own24 (by decide) (fun wc hw => room_hold1 bq6 xq7.2.2.1.1 xq7.1.1 xq7.2.2.1.2.1 xq7.1.2.1 xq7.2.2.1.2.2 xq7.1.2.2 xq7.2.2.2 xq7.2.1.1 n xq7.2.1.2.1 xs xq7.2.1.2.2 wc ⟨hl.1, hb⟩ (Has.cons (hw.hasOf (i := 11) rfl) (Has.cons (hw.hasOf (i := 9) rfl) (Has.cons (hw.hasOf (i := 7) rfl) (Has.cons (hw.hasOf (i := 10) rfl) (Has.cons (hw.hasOf (i := 8) rfl) (Has.nil _)))))))) (fun xq38 hq39 => ?_)
  refine GL.val (v := (.bool true)) (Ex.pickT rfl rfl) (by decide) ?_
  refine GL.val (Ex.assign rfl) (by decide) ?_
  refine GL.nil ?_
  refine GE.thenN ?_
  refine GC.ret ?_
  refine GC.ret1 rfl (Rv.tmp rfl) (fun wN HN => ?_)
  exact HN.ret () trivial rfl (List.nil_sublist _) rfl

set_option maxRecDepth 100000 in
set_option maxHeartbeats 1000000 in
theorem bl_k (W H : Int) (ad : Option Addr) (n cap : Nat) (k kd : Int) (r : Nat) (xs : List Int) (w : World) (hl : Lst w ad n xs) (hb : n ≤ 35184372087808) (hc : chk W H n = 0) (hk : (bord k 1 0).2 ≠ 0) (hkd : kd = 1 ∨ kd = 2) (hrr : r ≤ 7) :
    Calls Try.prog 5 #[(.agg #[(.int .i64 W), (.int .i64 H), (.slice ad n cap)]), (.int .i64 kd), (.int .i64 (((r : Nat) : Int))), (.int .i64 k)] w (Ret w (fun _ : Unit => True) (fun _ => .bool true) (fun _ => [])) := by
  refine enter (M := None) (L := []) (n := 66) (l := [(0, (.agg #[(.int .i64 W), (.int .i64 H), (.slice ad n cap)])), (1, (.int .i64 kd)), (2, (.int .i64 (((r : Nat) : Int)))), (3, (.int .i64 k))]) Try.func5 rfl rfl (Args.cons rfl (Args.cons rfl (Args.cons rfl (Args.cons rfl (Args.nil _))))) (Hp.start _ _) ?_
  refine GC.seq ?_
  refine GC.region ?_
  refine GL.step (Stp.box (cs := [(.int .i64 W), (.int .i64 H), (.slice ad n cap)]) rfl rfl (by decide)) (fun bq1 _ => ?_)
  refine GL.val (Ex.assign rfl) (by decide) ?_
  refine GL.nil ?_
  refine GE.thenN ?_
  refine GC.seq ?_
  refine GC.seq ?_
  refine GC.region ?_
  refine GL.step (Stp.callR (vs := []) rfl rfl T.own12 (by decide) (fun wc hw => known wc)) (fun xq2 hq3 => ?_)
  refine GL.val (v := (.bool false)) (Ex.cast (Ex.not rfl) rfl) (by decide) ?_
  refine GL.nil ?_
  refine GE.thenN ?_
  refine GC.cond rfl (fun hq4 => by cases hq4) (fun _ => ?_)
  refine GC.skip ?_
  refine GE.thenN ?_
  refine GC.seq ?_
  refine GC.region ?_
  refine GL.val (v := (.agg #[(.slice none 0 0), (.slice none 0 0), (.slice none 0 0), (.slice none 0 0), (.slice none 0 0), (.slice none 0 0), (.slice none 0 0), (.slice none 0 0)])) (Ex.build (vs := []) rfl (by first | rfl | kernel_rfl)) (by decide) ?_
  refine GL.step (Stp.box (cs := [(.slice none 0 0), (.slice none 0 0), (.slice none 0 0), (.slice none 0 0), (.slice none 0 0), (.slice none 0 0), (.slice none 0 0), (.slice none 0 0)]) rfl rfl (by decide)) (fun bq5 _ => ?_)
  refine GL.val (Ex.assign rfl) (by decide) ?_
  refine GL.nil ?_
  refine GE.thenN ?_
  refine GC.seq ?_
  refine GC.region ?_
  refine GL.val (v := (.agg #[(.slice none 0 0), (.slice none 0 0), (.slice none 0 0), (.slice none 0 0), (.slice none 0 0), (.slice none 0 0), (.slice none 0 0), (.slice none 0 0)])) (Ex.build (vs := []) rfl (by first | rfl | kernel_rfl)) (by decide) ?_
  refine GL.step (Stp.box (cs := [(.slice none 0 0), (.slice none 0 0), (.slice none 0 0), (.slice none 0 0), (.slice none 0 0), (.slice none 0 0), (.slice none 0 0), (.slice none 0 0)]) rfl rfl (by decide)) (fun bq6 _ => ?_)
  refine GL.val (Ex.assign rfl) (by decide) ?_
  refine GL.nil ?_
  refine GE.thenN ?_
  refine GC.seq ?_
  refine GC.region ?_
  refine GL.val (Ex.move rfl) (by decide) ?_
  refine GL.val (v := (.agg #[(.int .i64 W), (.int .i64 H), (.slice ad n cap)])) (Ex.loadA rfl T.ag43 T.sz43 (i := 2) rfl (vs := [(.int .i64 W), (.int .i64 H), (.slice ad n cap)]) rfl rfl) (by decide) ?_
  refine GL.step (Stp.call (vs := [(.pointer (some ⟨bq6, 0, none⟩)), (.agg #[(.int .i64 W), (.int .i64 H), (.slice ad n cap)])]) rfl rfl T.own19 (by decide) (fun wc hw => room_p0 w _ W H bq6 n cap ad xs wc hl hb (hw.pick (idx := [0, 1, 2]) (by decide) rfl))) (fun xq7 hq8 => ?_)
  refine GL.step (Stp.alloc T.zr43 (by decide)) (fun bq9 _ => ?_)
  refine GL.step (Stp.st0 (cs' := [(.int .i64 W), (.int .i64 H), (.slice (some ⟨xq7.2.2.2, 0, none⟩) n (n + 5))]) rfl rfl rfl T.sz43 rfl rfl rfl) (fun _ _ => ?_)
  refine GL.nil ?_
  refine GE.thenN ?_
  refine GC.seq ?_
  refine GC.region ?_
  refine GL.val (v := (.agg #[(.int .i64 W), (.int .i64 H), (.slice ad n cap)])) (Ex.loadA rfl T.ag43 T.sz43 (i := 7) rfl (vs := [(.int .i64 W), (.int .i64 H), (.slice ad n cap)]) rfl rfl) (by decide) ?_
  refine GL.val (Ex.move rfl) (by decide) ?_
  refine GL.val (Ex.move rfl) (by decide) ?_
  refine GL.val (Ex.move rfl) (by decide) ?_
  refine GL.step (Stp.callR (vs := [(.agg #[(.int .i64 W), (.int .i64 H), (.slice ad n cap)]), (.int .i64 kd), (.int .i64 (((r : Nat) : Int))), (.int .i64 k)]) rfl rfl T.own20 (by decide) (fun wc hw => ref_blur_k W H ad n cap k kd r wc hc hk hkd hrr)) (fun xq10 hq11 => ?_)
  refine GL.val (Ex.move rfl) (by decide) ?_
  refine GL.val (Ex.extract rfl rfl) (by decide) ?_
  refine GL.val (Ex.extract rfl rfl) (by decide) ?_
  refine GL.step (Stp.alloc T.zr43 (by decide)) (fun bq12 _ => ?_)
  refine GL.step (Stp.st0 (cs' := [(.int .i64 0), (.int .i64 0), (.slice none 0 0)]) rfl rfl rfl T.sz43 rfl rfl rfl) (fun _ _ => ?_)
  refine GL.val (Ex.assign rfl) (by decide) ?_
  refine GL.nil ?_
  refine GE.thenN ?_
  refine GC.seq ?_
  refine GC.seq ?_
  refine GC.region ?_
  refine GL.val (Ex.assign rfl) (by decide) ?_
  refine GL.nil ?_
  refine GE.thenN ?_
  refine GC.block ?_
  refine GC.unroll 3 ?_
  refine GE.round ?_
  refine GC.seq ?_
  refine GC.seq ?_
  refine GC.region ?_
  refine GL.val (Ex.move rfl) (by decide) ?_
  refine GL.val (v := (.bool true)) (Ex.cast (Ex.lss rfl rfl) rfl) (by decide) ?_
  refine GL.nil ?_
  refine GE.thenN ?_
  refine GC.cond rfl (fun _ => ?_) (fun hq13 => by cases hq13)
  refine GC.skip ?_
  refine GE.thenN ?_
  refine GC.seq ?_
  refine GC.block ?_
  refine GC.seq ?_
  refine GC.region ?_
  refine GL.val (v := (.agg #[(.int .i64 W), (.int .i64 H), (.slice (some ⟨xq7.2.2.2, 0, none⟩) n (n + 5))])) (Ex.loadA rfl T.ag43 T.sz43 (i := 1) rfl (vs := [(.int .i64 W), (.int .i64 H), (.slice (some ⟨xq7.2.2.2, 0, none⟩) n (n + 5))]) rfl rfl) (by decide) ?_
  refine GL.val (Ex.move rfl) (by decide) ?_
  refine GL.val (Ex.move rfl) (by decide) ?_
  refine GL.val (Ex.move rfl) (by decide) ?_
  refine GL.step (Stp.callR (vs := [(.agg #[(.int .i64 W), (.int .i64 H), (.slice (some ⟨xq7.2.2.2, 0, none⟩) n (n + 5))]), (.int .i64 kd), (.int .i64 (((r : Nat) : Int))), (.int .i64 k)]) rfl rfl T.own21 (by decide) (fun wc hw => blur_k W H (some ⟨xq7.2.2.2, 0, none⟩) n (n + 5) k kd r wc hc hk hkd hrr)) (fun xq14 hq15 => ?_)
  refine GL.val (Ex.move rfl) (by decide) ?_
  refine GL.val (Ex.extract rfl rfl) (by decide) ?_
  refine GL.val (Ex.extract rfl rfl) (by decide) ?_
  refine GL.step (Stp.alloc T.zr43 (by decide)) (fun bq16 _ => ?_)
  refine GL.step (Stp.st0 (cs' := [(.int .i64 0), (.int .i64 0), (.slice none 0 0)]) rfl rfl rfl T.sz43 rfl rfl rfl) (fun _ _ => ?_)
  refine GL.val (Ex.assign rfl) (by decide) ?_
  refine GL.nil ?_
  refine GE.thenN ?_
  refine GC.seq ?_
  refine GC.seq ?_
  refine GC.region ?_
  refine GL.val (Ex.move rfl) (by decide) ?_
  refine GL.step (Stp.callR (vs := [(.int .i64 ((bord k 1 0).2))]) rfl rfl T.own15 (by decide) (fun wc hw => num ((bord k 1 0).2) wc)) (fun xq17 hq18 => ?_)
  refine GL.val (Ex.move rfl) (by decide) ?_
  refine GL.val (v := (.bool false)) (Ex.cast (Ex.neq rfl rfl) (congrArg Value.bool (decide_eq_false (by simp)))) (by decide) ?_
  refine GL.val (Ex.move rfl) (by decide) ?_
  refine GL.stepG (tj := 50) rfl rfl (Ex.wp (v := (.agg #[(.int .i64 0), (.int .i64 0), (.slice none 0 0)])) (Ex.loadA rfl T.ag43 T.sz43 (i := 0) rfl (vs := [(.int .i64 0), (.int .i64 0), (.slice none 0 0)]) rfl rfl) (by decide)) (fun _ _ => ?_)
  refine GL.stepG (tj := 50) rfl rfl (Ex.wp (v := (.agg #[(.int .i64 0), (.int .i64 0), (.slice none 0 0)])) (Ex.loadA rfl T.ag43 T.sz43 (i := 1) rfl (vs := [(.int .i64 0), (.int .i64 0), (.slice none 0 0)]) rfl rfl) (by decide)) (fun _ _ => ?_)
  refine GL.stepG (tj := 50) rfl rfl (Stp.callR (vs := [(.agg #[(.int .i64 0), (.int .i64 0), (.slice none 0 0)]), (.agg #[(.int .i64 0), (.int .i64 0), (.slice none 0 0)])]) rfl rfl T.own22 (by decide) (fun wc hw => help_nil wc)) (fun xq19 hq20 => ?_)
  refine GL.stepG (tj := 50) rfl rfl (Ex.wp (v := (.bool false)) (Ex.cast (Ex.not rfl) rfl) (by decide)) (fun _ _ => ?_)
  refine GL.val (v := (.bool false)) (Ex.pickF rfl rfl) (by decide) ?_
  refine GL.nil ?_
  refine GE.thenN ?_
  refine GC.cond rfl (fun hq21 => by cases hq21) (fun _ => ?_)
  refine GC.skip ?_
  refine GE.thenN ?_
  refine GC.region ?_
  refine GL.val (Ex.move rfl) (by decide) ?_
  refine GL.val (v := (.agg #[(.int .i64 0), (.int .i64 0), (.slice none 0 0)])) (Ex.loadA rfl T.ag43 T.sz43 (i := 0) rfl (vs := [(.int .i64 0), (.int .i64 0), (.slice none 0 0)]) rfl rfl) (by decide) ?_
  refine GL.val (Ex.move rfl) (by decide) ?_
  refine GL.step (Stp.call (vs := [(.pointer (some ⟨bq5, 0, none⟩)), (.agg #[(.int .i64 0), (.int .i64 0), (.slice none 0 0)]), (.int .i64 0)]) rfl rfl T.own23 (by decide) (fun wc hw => book_p00 w _ 0 0 bq5 0 wc (hw.pick (idx := [8, 0, 1, 2, 3, 4, 5, 6, 7, 9]) (by decide) rfl))) (fun xq22 hq23 => ?_)
  refine GL.nil ?_
  refine GE.blockN ?_
  refine GE.thenN ?_
  refine GC.region ?_
  refine GL.val (Ex.move rfl) (by decide) ?_
  refine GL.val (v := (.int .i64 1)) (Ex.add rfl rfl (Z := 1) (by decide)) (by decide) ?_
  refine GL.val (Ex.assign rfl) (by decide) ?_
  refine GL.nil ?_
  refine GE.thenN ?_
  refine GE.round ?_
  refine GC.seq ?_
  refine GC.seq ?_
  refine GC.region ?_
  refine GL.val (Ex.move rfl) (by decide) ?_
  refine GL.val (v := (.bool true)) (Ex.cast (Ex.lss rfl rfl) rfl) (by decide) ?_
  refine GL.nil ?_
  refine GE.thenN ?_
  refine GC.cond rfl (fun _ => ?_) (fun hq24 => by cases hq24)
  refine GC.skip ?_
  refine GE.thenN ?_
  refine GC.seq ?_
  refine GC.block ?_
  refine GC.seq ?_
  refine GC.region ?_
  refine GL.val (v := (.agg #[(.int .i64 W), (.int .i64 H), (.slice (some ⟨xq7.2.2.2, 0, none⟩) n (n + 5))])) (Ex.loadA rfl T.ag43 T.sz43 (i := 5) rfl (vs := [(.int .i64 W), (.int .i64 H), (.slice (some ⟨xq7.2.2.2, 0, none⟩) n (n + 5))]) rfl rfl) (by decide) ?_
  refine GL.val (Ex.move rfl) (by decide) ?_
  refine GL.val (Ex.move rfl) (by decide) ?_
  refine GL.val (Ex.move rfl) (by decide) ?_
  refine GL.step (Stp.callR (vs := [(.agg #[(.int .i64 W), (.int .i64 H), (.slice (some ⟨xq7.2.2.2, 0, none⟩) n (n + 5))]), (.int .i64 kd), (.int .i64 (((r : Nat) : Int))), (.int .i64 k)]) rfl rfl T.own21 (by decide) (fun wc hw => blur_k W H (some ⟨xq7.2.2.2, 0, none⟩) n (n + 5) k kd r wc hc hk hkd hrr)) (fun xq25 hq26 => ?_)
  refine GL.val (Ex.move rfl) (by decide) ?_
  refine GL.val (Ex.extract rfl rfl) (by decide) ?_
  refine GL.val (Ex.extract rfl rfl) (by decide) ?_
  refine GL.step (Stp.alloc T.zr43 (by decide)) (fun bq27 _ => ?_)
  refine GL.step (Stp.st0 (cs' := [(.int .i64 0), (.int .i64 0), (.slice none 0 0)]) rfl rfl rfl T.sz43 rfl rfl rfl) (fun _ _ => ?_)
  refine GL.val (Ex.assign rfl) (by decide) ?_
  refine GL.nil ?_
  refine GE.thenN ?_
  refine GC.seq ?_
  refine GC.seq ?_
  refine GC.region ?_
  refine GL.val (Ex.move rfl) (by decide) ?_
  refine GL.step (Stp.callR (vs := [(.int .i64 ((bord k 1 0).2))]) rfl rfl T.own15 (by decide) (fun wc hw => num ((bord k 1 0).2) wc)) (fun xq28 hq29 => ?_)
  refine GL.val (Ex.move rfl) (by decide) ?_
  refine GL.val (v := (.bool false)) (Ex.cast (Ex.neq rfl rfl) (congrArg Value.bool (decide_eq_false (by simp)))) (by decide) ?_
  refine GL.val (Ex.move rfl) (by decide) ?_
  refine GL.stepG (tj := 50) rfl rfl (Ex.wp (v := (.agg #[(.int .i64 0), (.int .i64 0), (.slice none 0 0)])) (Ex.loadA rfl T.ag43 T.sz43 (i := 0) rfl (vs := [(.int .i64 0), (.int .i64 0), (.slice none 0 0)]) rfl rfl) (by decide)) (fun _ _ => ?_)
  refine GL.stepG (tj := 50) rfl rfl (Ex.wp (v := (.agg #[(.int .i64 0), (.int .i64 0), (.slice none 0 0)])) (Ex.loadA rfl T.ag43 T.sz43 (i := 5) rfl (vs := [(.int .i64 0), (.int .i64 0), (.slice none 0 0)]) rfl rfl) (by decide)) (fun _ _ => ?_)
  refine GL.stepG (tj := 50) rfl rfl (Stp.callR (vs := [(.agg #[(.int .i64 0), (.int .i64 0), (.slice none 0 0)]), (.agg #[(.int .i64 0), (.int .i64 0), (.slice none 0 0)])]) rfl rfl T.own22 (by decide) (fun wc hw => help_nil wc)) (fun xq30 hq31 => ?_)
  refine GL.stepG (tj := 50) rfl rfl (Ex.wp (v := (.bool false)) (Ex.cast (Ex.not rfl) rfl) (by decide)) (fun _ _ => ?_)
  refine GL.val (v := (.bool false)) (Ex.pickF rfl rfl) (by decide) ?_
  refine GL.nil ?_
  refine GE.thenN ?_
  refine GC.cond rfl (fun hq32 => by cases hq32) (fun _ => ?_)
  refine GC.skip ?_
  refine GE.thenN ?_
  refine GC.region ?_
  refine GL.val (Ex.move rfl) (by decide) ?_
  refine GL.val (v := (.agg #[(.int .i64 0), (.int .i64 0), (.slice none 0 0)])) (Ex.loadA rfl T.ag43 T.sz43 (i := 0) rfl (vs := [(.int .i64 0), (.int .i64 0), (.slice none 0 0)]) rfl rfl) (by decide) ?_
  refine GL.val (Ex.move rfl) (by decide) ?_
  refine GL.step (Stp.call (vs := [(.pointer (some ⟨bq5, 0, none⟩)), (.agg #[(.int .i64 0), (.int .i64 0), (.slice none 0 0)]), (.int .i64 1)]) rfl rfl T.own23 (by decide) (fun wc hw => book_p10 w _ 0 0 bq5 1 1 xq22.2.1 xq22.2.2.1 xq22.1.1 xq22.1.2.1 ([(Value.slice none 0 0)]) xq22.2.2.2 ([(Value.int .i64 0)]) xq22.1.2.2 wc (by first | decide | omega) (by first | rfl | omega) (by first | rfl | omega) hq23.1 hq23.2 (hw.pick (idx := [3, 2, 1, 0, 4, 5, 6, 7, 8, 9, 10, 11, 12]) (by decide) rfl))) (fun xq33 hq34 => ?_)
  refine GL.nil ?_
  refine GE.blockN ?_
  refine GE.thenN ?_
  refine GC.region ?_
  refine GL.val (Ex.move rfl) (by decide) ?_
  refine GL.val (v := (.int .i64 2)) (Ex.add rfl rfl (Z := 2) (by decide)) (by decide) ?_
  refine GL.val (Ex.assign rfl) (by decide) ?_
  refine GL.nil ?_
  refine GE.thenN ?_
  refine GE.round ?_
  refine GC.seq ?_
  refine GC.seq ?_
  refine GC.region ?_
  refine GL.val (Ex.move rfl) (by decide) ?_
  refine GL.val (v := (.bool false)) (Ex.cast (Ex.lss rfl rfl) rfl) (by decide) ?_
  refine GL.nil ?_
  refine GE.thenN ?_
  refine GC.cond rfl (fun hq35 => by cases hq35) (fun _ => ?_)
  refine GC.exit ?_
  refine GE.thenE ?_
  refine GE.thenE ?_
  refine GE.blockE ?_
  refine GE.thenN ?_
  refine GC.seq ?_
  refine GC.region ?_
  refine GL.val (Ex.move rfl) (by decide) ?_
  refine GL.step (Stp.callR (vs := [(.pointer (some ⟨bq5, 0, none⟩))]) rfl rfl T.own18 (by decide) (fun wc hw => book_hold bq5 2 xq33.2.1 xq33.2.2.1 xq33.1.1 xq33.1.2.1 ([⟨none, 0, 0⟩, ⟨none, 0, 1⟩] : List It) xq33.2.2.2 xq33.1.2.2 wc rfl (by decide) (it_cons (it_nil _) (it_cons (it_nil _) it_all)) (Has.cons (hw.hasOf (i := 2) rfl) (Has.cons (hw.hasOf (i := 1) rfl) (Has.cons (hw.hasOf (i := 0) rfl) (Has.nil _)))))) (fun xq36 hq37 => ?_)
  refine GL.val (Ex.move rfl) (by decide) ?_
  refine GL.stepG (tj := 62) rfl rfl (Ex.wp (v := (.pointer (some ⟨bq6, 0, none⟩))) (Ex.move rfl) (by decide)) (fun _ _ => ?_)
  refine GL.stepG (tj := 62) rfl rfl (Stp.callR (vs := [(.pointer (some ⟨bq6, 0, none⟩))]) rfl rfl T.own24 (by decide) (fun wc hw => room_hold1 bq6 xq7.2.2.1.1 xq7.1.1 xq7.2.2.1.2.1 xq7.1.2.1 xq7.2.2.1.2.2 xq7.1.2.2 xq7.2.2.2 xq7.2.1.1 n xq7.2.1.2.1 xs xq7.2.1.2.2 wc ⟨hl.1, hb⟩ (Has.cons (hw.hasOf (i := 11) rfl) (Has.cons (hw.hasOf (i := 9) rfl) (Has.cons (hw.hasOf (i := 7) rfl) (Has.cons (hw.hasOf (i := 10) rfl) (Has.cons (hw.hasOf (i := 8) rfl) (Has.nil _)))))))) (fun xq38 hq39 => ?_)
  refine GL.val (v := (.bool true)) (Ex.pickT rfl rfl) (by decide) ?_
  refine GL.val (Ex.assign rfl) (by decide) ?_
  refine GL.nil ?_
  refine GE.thenN ?_
  refine GC.ret ?_
  refine GC.ret1 rfl (Rv.tmp rfl) (fun wN HN => ?_)
  exact HN.ret () trivial rfl (List.nil_sublist _) rfl

theorem lawBlurs (W H : Int) (ad : Option Addr) (n cap : Nat) (kd r k : Int) (xs : List Int) (w : World) (hl : Lst w ad n xs) (hb : n ≤ 35184372087808) :
    Calls Try.prog 5 #[.agg #[.int .i64 W, .int .i64 H, .slice ad n cap], .int .i64 kd, .int .i64 r, .int .i64 k] w (Ret w (fun _ : Unit => True) (fun _ => .bool true) (fun _ => [])) := by
  by_cases hc : chk W H n = 0
  · by_cases hk2 : 0 ≤ r ∧ r ≤ 7 ∧ (kd = 1 ∨ kd = 2)
    · obtain ⟨h1, h2, hkd⟩ := hk2
      obtain ⟨m, rfl⟩ := Int.eq_ofNat_of_zero_le h1
      by_cases hk : (bord k 1 0).2 = 0
      · obtain ⟨w', h', rfl, rfl, hok, hn⟩ := chk_zero hc
        have g1 := hl
        obtain ⟨_, _, _, q⟩ := g1
        rcases q with q | ⟨b, o, rfl, hr⟩
        · exfalso; have h5 := Nat.mul_pos (show 0 < w' from hok.1) (show 0 < h' from hok.2.1); omega
        · exact bl_ok w' h' n cap b o k kd m xs w (bord_kind hk) hok hn hl hr hb hkd (by omega)
      · exact bl_k W H ad n cap k kd m xs w hl hb hc hk hkd (by omega)
    · exact bl_kern W H ad n cap k kd r xs w hl hb hc hk2
  · exact bl_bad W H ad n cap k kd r xs w hl hb hc

end Go.Proofs.Ytjbpdhofhhinhaa.C
