/- BlurBlurs: what its code does, walked. -/
import Derived.Test.YtjbpdhofhhinhaaKBlurs1
namespace Go.Proofs.Ytjbpdhofhhinhaa.C
open Go Go.RowKit Sx
set_option linter.unusedVariables false
set_option maxRecDepth 100000 in
set_option maxHeartbeats 1000000 in
theorem help_eq (W H : Int) (b1 o1 b2 o2 n c1 c2 : Nat) (xs : List Int) (w : World) (hx : xs.length = n) (hb : n ≤ 65536) (hr1 : Rd w b1 o1 (xs.map u32)) (hr2 : Rd w b2 o2 (xs.map u32)) :
    Calls Try.prog 22 #[(.agg #[(.int .i64 W), (.int .i64 H), (.slice (some ⟨b1, o1, none⟩) n c1)]), (.agg #[(.int .i64 W), (.int .i64 H), (.slice (some ⟨b2, o2, none⟩) n c2)])] w (Ret w (fun _ : Unit => True) (fun _ => .bool true) (fun _ => [])) := by
  refine enter (M := None) (L := []) (n := 24) (l := [(0, (.agg #[(.int .i64 W), (.int .i64 H), (.slice (some ⟨b1, o1, none⟩) n c1)])), (1, (.agg #[(.int .i64 W), (.int .i64 H), (.slice (some ⟨b2, o2, none⟩) n c2)]))]) Try.func22 rfl rfl (Args.cons rfl (Args.cons rfl (Args.nil _))) (Hp.start _ _) ?_
  refine GC.seq ?_
  refine GC.region ?_
  refine GL.step (Stp.box (cs := [(.int .i64 W), (.int .i64 H), (.slice (some ⟨b1, o1, none⟩) n c1)]) rfl rfl (by decide)) (fun bq1 _ => ?_)
  refine GL.step (Stp.box (cs := [(.int .i64 W), (.int .i64 H), (.slice (some ⟨b2, o2, none⟩) n c2)]) rfl rfl (by decide)) (fun bq2 _ => ?_)
  refine GL.val (Ex.assign rfl) (by decide) ?_
  refine GL.nil ?_
  refine GE.thenN ?_
  refine GC.seq ?_
  refine GC.region ?_
  refine GL.val (v := (.pointer (some ⟨bq1, 0, none⟩))) (Ex.cast (Ex.fieldAddr rfl Try.underlying43 rfl T.sz3 (by decide)) rfl) (by decide) ?_
  refine GL.val (Ex.load rfl T.ag3 (i := 1) rfl rfl) (by decide) ?_
  refine GL.val (v := (.pointer (some ⟨bq2, 0, none⟩))) (Ex.cast (Ex.fieldAddr rfl Try.underlying43 rfl T.sz3 (by decide)) rfl) (by decide) ?_
  refine GL.val (Ex.load rfl T.ag3 (i := 0) rfl rfl) (by decide) ?_
  refine GL.val (v := (.bool true)) (Ex.cast (Ex.eql rfl rfl) (congrArg Value.bool (decide_eq_true (by simp)))) (by decide) ?_
  refine GL.val (Ex.move rfl) (by decide) ?_
  refine GL.stepG (tj := 10) rfl rfl (Ex.wp (v := (.pointer (some ⟨bq1, 1, none⟩))) (Ex.cast (Ex.fieldAddr rfl Try.underlying43 rfl T.sz3 (by decide)) rfl) (by decide)) (fun _ _ => ?_)
  refine GL.stepG (tj := 10) rfl rfl (Ex.wp (v := (.int .i64 H)) (Ex.load rfl T.ag3 (i := 1) rfl rfl) (by decide)) (fun _ _ => ?_)
  refine GL.stepG (tj := 10) rfl rfl (Ex.wp (v := (.pointer (some ⟨bq2, 1, none⟩))) (Ex.cast (Ex.fieldAddr rfl Try.underlying43 rfl T.sz3 (by decide)) rfl) (by decide)) (fun _ _ => ?_)
  refine GL.stepG (tj := 10) rfl rfl (Ex.wp (v := (.int .i64 H)) (Ex.load rfl T.ag3 (i := 0) rfl rfl) (by decide)) (fun _ _ => ?_)
  refine GL.stepG (tj := 10) rfl rfl (Ex.wp (v := (.bool true)) (Ex.cast (Ex.eql rfl rfl) (congrArg Value.bool (decide_eq_true (by simp)))) (by decide)) (fun _ _ => ?_)
  refine GL.val (v := (.bool true)) (Ex.pickT rfl rfl) (by decide) ?_
  refine GL.val (Ex.move rfl) (by decide) ?_
  refine GL.stepG (tj := 17) rfl rfl (Ex.wp (v := (.pointer (some ⟨bq1, 2, none⟩))) (Ex.cast (Ex.fieldAddr rfl Try.underlying43 rfl T.sz41 (by decide)) rfl) (by decide)) (fun _ _ => ?_)
  refine GL.stepG (tj := 17) rfl rfl (Ex.wp (v := (.slice (some ⟨b1, o1, none⟩) n c1)) (Ex.load rfl T.ag41 (i := 1) rfl rfl) (by decide)) (fun _ _ => ?_)
  refine GL.stepG (tj := 17) rfl rfl (Ex.wp (v := (.pointer (some ⟨bq2, 2, none⟩))) (Ex.cast (Ex.fieldAddr rfl Try.underlying43 rfl T.sz41 (by decide)) rfl) (by decide)) (fun _ _ => ?_)
  refine GL.stepG (tj := 17) rfl rfl (Ex.wp (v := (.slice (some ⟨b2, o2, none⟩) n c2)) (Ex.load rfl T.ag41 (i := 0) rfl rfl) (by decide)) (fun _ _ => ?_)
  refine GL.stepG (tj := 17) rfl rfl (Stp.callR (vs := [(.slice (some ⟨b1, o1, none⟩) n c1), (.slice (some ⟨b2, o2, none⟩) n c2)]) rfl rfl T.own50 (by decide) (fun wc hw => words_eq b1 o1 b2 o2 n c1 c2 xs wc hx hb (hw.rd hr1 (fun x => x)) (hw.rd hr2 (fun x => x)))) (fun xq3 hq4 => ?_)
  refine GL.val (v := (.bool true)) (Ex.pickT rfl rfl) (by decide) ?_
  refine GL.val (Ex.assign rfl) (by decide) ?_
  refine GL.nil ?_
  refine GE.thenN ?_
  refine GC.ret ?_
  refine GC.ret1 rfl (Rv.tmp rfl) (fun wN HN => ?_)
  exact HN.ret () trivial rfl (List.nil_sublist _) rfl

set_option maxRecDepth 100000 in
set_option maxHeartbeats 1000000 in
theorem help_nil (w : World) :
    Calls Try.prog 22 #[(.agg #[(.int .i64 0), (.int .i64 0), (.slice none 0 0)]), (.agg #[(.int .i64 0), (.int .i64 0), (.slice none 0 0)])] w (Ret w (fun _ : Unit => True) (fun _ => .bool true) (fun _ => [])) := by
  refine enter (M := None) (L := []) (n := 24) (l := [(0, (.agg #[(.int .i64 0), (.int .i64 0), (.slice none 0 0)])), (1, (.agg #[(.int .i64 0), (.int .i64 0), (.slice none 0 0)]))]) Try.func22 rfl rfl (Args.cons rfl (Args.cons rfl (Args.nil _))) (Hp.start _ _) ?_
  refine GC.seq ?_
  refine GC.region ?_
  refine GL.step (Stp.box (cs := [(.int .i64 0), (.int .i64 0), (.slice none 0 0)]) rfl rfl (by decide)) (fun bq1 _ => ?_)
  refine GL.step (Stp.box (cs := [(.int .i64 0), (.int .i64 0), (.slice none 0 0)]) rfl rfl (by decide)) (fun bq2 _ => ?_)
  refine GL.val (Ex.assign rfl) (by decide) ?_
  refine GL.nil ?_
  refine GE.thenN ?_
  refine GC.seq ?_
  refine GC.region ?_
  refine GL.val (v := (.pointer (some ⟨bq1, 0, none⟩))) (Ex.cast (Ex.fieldAddr rfl Try.underlying43 rfl T.sz3 (by decide)) rfl) (by decide) ?_
  refine GL.val (Ex.load rfl T.ag3 (i := 1) rfl rfl) (by decide) ?_
  refine GL.val (v := (.pointer (some ⟨bq2, 0, none⟩))) (Ex.cast (Ex.fieldAddr rfl Try.underlying43 rfl T.sz3 (by decide)) rfl) (by decide) ?_
  refine GL.val (Ex.load rfl T.ag3 (i := 0) rfl rfl) (by decide) ?_
  refine GL.val (v := (.bool true)) (Ex.cast (Ex.eql rfl rfl) rfl) (by decide) ?_
  refine GL.val (Ex.move rfl) (by decide) ?_
  refine GL.stepG (tj := 10) rfl rfl (Ex.wp (v := (.pointer (some ⟨bq1, 1, none⟩))) (Ex.cast (Ex.fieldAddr rfl Try.underlying43 rfl T.sz3 (by decide)) rfl) (by decide)) (fun _ _ => ?_)
  refine GL.stepG (tj := 10) rfl rfl (Ex.wp (v := (.int .i64 0)) (Ex.load rfl T.ag3 (i := 1) rfl rfl) (by decide)) (fun _ _ => ?_)
  refine GL.stepG (tj := 10) rfl rfl (Ex.wp (v := (.pointer (some ⟨bq2, 1, none⟩))) (Ex.cast (Ex.fieldAddr rfl Try.underlying43 rfl T.sz3 (by decide)) rfl) (by decide)) (fun _ _ => ?_)
  refine GL.stepG (tj := 10) rfl rfl (Ex.wp (v := (.int .i64 0)) (Ex.load rfl T.ag3 (i := 0) rfl rfl) (by decide)) (fun _ _ => ?_)
  refine GL.stepG (tj := 10) rfl rfl (Ex.wp (v := (.bool true)) (Ex.cast (Ex.eql rfl rfl) rfl) (by decide)) (fun _ _ => ?_)
  refine GL.val (v := (.bool true)) (Ex.pickT rfl rfl) (by decide) ?_
  refine GL.val (Ex.move rfl) (by decide) ?_
  refine GL.stepG (tj := 17) rfl rfl (Ex.wp (v := (.pointer (some ⟨bq1, 2, none⟩))) (Ex.cast (Ex.fieldAddr rfl Try.underlying43 rfl T.sz41 (by decide)) rfl) (by decide)) (fun _ _ => ?_)
  refine GL.stepG (tj := 17) rfl rfl (Ex.wp (v := (.slice none 0 0)) (Ex.load rfl T.ag41 (i := 1) rfl rfl) (by decide)) (fun _ _ => ?_)
  refine GL.stepG (tj := 17) rfl rfl (Ex.wp (v := (.pointer (some ⟨bq2, 2, none⟩))) (Ex.cast (Ex.fieldAddr rfl Try.underlying43 rfl T.sz41 (by decide)) rfl) (by decide)) (fun _ _ => ?_)
  refine GL.stepG (tj := 17) rfl rfl (Ex.wp (v := (.slice none 0 0)) (Ex.load rfl T.ag41 (i := 0) rfl rfl) (by decide)) (fun _ _ => ?_)
  refine GL.stepG (tj := 17) rfl rfl (Stp.callR (vs := [(.slice none 0 0), (.slice none 0 0)]) rfl rfl T.own50 (by decide) (fun wc hw => words_nil wc)) (fun xq3 hq4 => ?_)
  refine GL.val (v := (.bool true)) (Ex.pickT rfl rfl) (by decide) ?_
  refine GL.val (Ex.assign rfl) (by decide) ?_
  refine GL.nil ?_
  refine GE.thenN ?_
  refine GC.ret ?_
  refine GC.ret1 rfl (Rv.tmp rfl) (fun wN HN => ?_)
  exact HN.ret () trivial rfl (List.nil_sublist _) rfl

set_option maxRecDepth 100000 in
set_option maxHeartbeats 1000000 in
theorem weigh_x (W H n cap b o : Nat) (k : Int) (xs : List Int) (x y : Nat) (bw cw : Nat) (g : Nat → Int) (r : Nat) (w : World) (hk : 1 ≤ k ∧ k ≤ 3) (hok : okP W H) (hn : n = W * H) (hx0 : xs.length = n) (hu : ∀ v ∈ xs, 0 ≤ v ∧ v < 4294967296) (hr : Rd w b o (xs.map u32)) (hx : x < W) (hy : y < H) (hrr : r ≤ 7) (hg : ∀ i, i < 2 * r + 1 → 1 ≤ g i ∧ g i ≤ 16384) (hh : Has w [⟨bw, wl (2 * r + 1) g, 3, false⟩]) :
    Calls Try.prog 49 #[(.iface 108 (.agg #[(.int .i64 (((W : Nat) : Int))), (.int .i64 (((H : Nat) : Int))), (.slice (some ⟨b, o, none⟩) n cap), (.int .i64 k), (.int .i64 (((x : Nat) : Int))), (.int .i64 (((y : Nat) : Int))), (.bool false)])), (.slice (some ⟨bw, 0, none⟩) (2 * r + 1) cw)] w (Ret w (fun _ : Unit => True) (fun _ => (.int .u32 ((Bg.blx g r xs W k x y)))) (fun _ => [])) := by
  have hW1 := hok.1
  have hH1 := hok.2.1
  have hW2 := hok.2.2.1
  have hH2 := hok.2.2.2.1
  have hA := hok.2.2.2.2
  have ha0 : Fv.Is .f64 0 (Bl.acc g (fun i => Fv.V (Bg.nx xs W k x y (((i : Nat) : Int) - ((r : Nat) : Int)))) 0) := (show Fv.Is .f64 0 (some 0) from ⟨rfl, by decide +kernel⟩)
  refine enter (M := None) (L := [⟨bw, wl (2 * r + 1) g, 3, false⟩]) (n := 43) (l := [(0, (.iface 108 (.agg #[(.int .i64 (((W : Nat) : Int))), (.int .i64 (((H : Nat) : Int))), (.slice (some ⟨b, o, none⟩) n cap), (.int .i64 k), (.int .i64 (((x : Nat) : Int))), (.int .i64 (((y : Nat) : Int))), (.bool false)]))), (1, (.slice (some ⟨bw, 0, none⟩) (2 * r + 1) cw))]) Try.func49 rfl rfl (Args.cons rfl (Args.cons rfl (Args.nil _))) (Hp.reads hh rfl) ?_
  refine GC.seq ?_
  refine GC.region ?_
  refine GL.val (Ex.assign rfl) (by decide) ?_
  refine GL.nil ?_
  refine GE.thenN ?_
  refine GC.seq ?_
  refine GC.region ?_
  refine GL.val (Ex.assign rfl) (by decide) ?_
  refine GL.val (Ex.assign rfl) (by decide) ?_
  refine GL.nil ?_
  refine GE.thenN ?_
  refine GC.seq ?_
  refine GC.seq ?_
  refine GC.region ?_
  refine GL.val (Ex.move rfl) (by decide) ?_
  refine GL.val (v := (.int .i64 (((2 * r + 1) : Int)))) (Ex.len rfl Try.underlying28) (by decide) ?_
  refine GL.val (Ex.move rfl) (by decide) ?_
  refine GL.nil ?_
  refine GE.thenN ?_
  refine GC.block ?_
  refine GC.loop (σ := Nat × Nat) (fun q => (q.1) ≤ 2 * r + 1 ∧ Fv.Is .f64 (q.2) (Bl.acc g (fun i => Fv.V (Bg.nx xs W k x y (((i : Nat) : Int) - ((r : Nat) : Int)))) ((q.1)))) (fun q => [(0, (.iface 108 (.agg #[(.int .i64 (((W : Nat) : Int))), (.int .i64 (((H : Nat) : Int))), (.slice (some ⟨b, o, none⟩) n cap), (.int .i64 k), (.int .i64 (((x : Nat) : Int))), (.int .i64 (((y : Nat) : Int))), (.bool false)]))), (1, (.slice (some ⟨bw, 0, none⟩) (2 * r + 1) cw)), (5, (.float .f64 ((q.2)))), (6, (.int .i64 ((Bl.sm g ((q.1)))))), (10, (.slice (some ⟨bw, 0, none⟩) (2 * r + 1) cw)), (11, (.int .i64 (((2 * r + 1 : Nat) : Int)))), (12, (.int .i64 ((((q.1) : Nat) : Int))))]) (fun q => [⟨bw, wl (2 * r + 1) g, 3, false⟩]) (fun q => 2 * r + 1 - (q.1)) ((0, 0)) ⟨Nat.zero_le _, ha0⟩ ((sub_cons rfl ((sub_cons rfl ((sub_cons rfl ((sub_cons rfl ((sub_cons rfl ((sub_cons rfl ((sub_cons rfl ((sub_nil _)))))))))))))))) (ulC ulN) (fun q hp => ?_)
  obtain ⟨k', z⟩ := q
  have hp : k' ≤ 2 * r + 1 ∧ Fv.Is .f64 z (Bl.acc g (fun i => Fv.V (Bg.nx xs W k x y (((i : Nat) : Int) - ((r : Nat) : Int)))) k') := hp
  refine GC.seq ?_
  refine GC.region ?_
  refine GL.val (v := (.bool (decide ((((k' : Nat) : Int)) < (((2 * r + 1 : Nat) : Int)))))) (Ex.lss rfl rfl) (by decide) ?_
  refine GL.nil ?_
  refine GE.thenN ?_
  refine GC.seq ?_
  refine GC.cond rfl (fun hq1 => ?_) (fun hq1 => ?_)
  · replace hq1 := of_decide_eq_true hq1
    refine GC.skip ?_
    refine GE.thenN ?_
    refine GC.seq ?_
    refine GC.block ?_
    refine GC.seq ?_
    refine GC.region ?_
    refine GL.val (Ex.move rfl) (by decide) ?_
    refine GL.val (v := (.pointer (some ⟨bw, (((k' : Nat) : Int)).toNat, none⟩))) (Ex.cast (Ex.indexAddr rfl rfl Try.underlying28 T.sz3 (by omega) (by omega)) (by simp)) (by decide) ?_
    refine GL.val (Ex.load rfl T.ag3 (i := 0) rfl (wl_at (by omega))) (by decide) ?_
    refine GL.val (Ex.assign rfl) (by decide) ?_
    refine GL.val (Ex.assign rfl) (by decide) ?_
    refine GL.nil ?_
    refine GE.thenN ?_
    refine GC.seq ?_
    refine GC.region ?_
    refine GL.val (Ex.move rfl) (by decide) ?_
    refine GL.val (v := (.float .f64 ((floatOfInt .f64 ((g k')))))) (Ex.cif rfl Try.underlying3 Try.underlying61) (by decide) ?_
    refine GL.val (Ex.move rfl) (by decide) ?_
    refine GL.val (Ex.move rfl) (by decide) ?_
    refine GL.val (Ex.move rfl) (by decide) ?_
    refine GL.val (v := (.int .i64 (((2 * r + 1) : Int)))) (Ex.len rfl Try.underlying28) (by decide) ?_
    refine GL.val (v := (.int .i64 (((r : Nat) : Int)))) (Ex.quo rfl rfl (Z := ((r : Nat) : Int)) (by omega) (Bg.quo_half r hrr)) (by decide) ?_
    refine GL.val (v := (.int .i64 ((((k' : Nat) : Int) - ((r : Nat) : Int))))) (Ex.sub' rfl rfl (Z := (((k' : Nat) : Int) - ((r : Nat) : Int))) (w64 (by omega))) (by decide) ?_
    refine GL.step (Stp.invokeR (σ := Unit) (p := fun rz => True) (v := fun rz => (.int .u32 ((smp xs W (bord k W (x + ((((k' : Nat) : Int) - ((r : Nat) : Int))))).1.toNat y)))) (N := fun rz => []) (vs := [(.int .i64 ((((k' : Nat) : Int) - ((r : Nat) : Int))))]) rfl rfl (fun w => T.mth88 _ _ w) (by decide) (fun wc hw => at_x W n cap b o y xs k ((((k' : Nat) : Int) - ((r : Nat) : Int))) H x wc hk (by omega) (by omega) (Bg.at_lt hok hn (by first | exact Bg.bX hk hok | assumption) hy) (by omega) hx0 (hw.rd hr (fun x => x)))) (fun xq2 hq3 => ?_)
    refine GL.step (Stp.callR (vs := [(.int .u32 ((smp xs W (bord k W (x + ((((k' : Nat) : Int) - ((r : Nat) : Int))))).1.toNat y)))]) rfl rfl T.own58 (by decide) (fun wc hw => value_p ((smp xs W (bord k W (x + ((((k' : Nat) : Int) - ((r : Nat) : Int))))).1.toNat y)) wc)) (fun xq4 hq5 => ?_)
    refine GL.step (Stp.fop (fx := (some (floatOfInt .f64 ((g k'))))) (fy := (Fv.V ((smp xs W (bord k W (x + ((((k' : Nat) : Int) - ((r : Nat) : Int))))).1.toNat y)))) rfl rfl rfl ⟨rfl, Fv.ofInt_ne _ _⟩ hq5 (by decide)) (fun xq6 hq7 => ?_)
    refine GL.val (Ex.assign rfl) (by decide) ?_
    refine GL.nil ?_
    refine GE.thenN ?_
    refine GC.seq ?_
    refine GC.region ?_
    refine GL.val (Ex.move rfl) (by decide) ?_
    refine GL.val (Ex.move rfl) (by decide) ?_
    refine GL.val (v := (.int .i64 ((Bl.sm g (k' + 1))))) (Ex.add rfl rfl (Z := (Bl.sm g (k' + 1))) (Bl.sm_add (by omega) (fun i hi => hg i (by omega)))) (by decide) ?_
    refine GL.val (Ex.assign rfl) (by decide) ?_
    refine GL.nil ?_
    refine GE.thenN ?_
    refine GC.seq ?_
    refine GC.seq ?_
    refine GC.region ?_
    refine GL.val (Ex.move rfl) (by decide) ?_
    refine GL.val (v := (.bool (decide ((((k' : Nat) : Int)) = 0)))) (Ex.eql rfl rfl) (by decide) ?_
    refine GL.nil ?_
    refine GE.thenN ?_
    refine GC.cond rfl (fun hq8 => ?_) (fun hq8 => ?_)
    · replace hq8 := of_decide_eq_true hq8
      refine GC.seq ?_
      refine GC.region ?_
      refine GL.val (Ex.move rfl) (by decide) ?_
      refine GL.val (Ex.assign rfl) (by decide) ?_
      refine GL.nil ?_
      refine GE.thenN ?_
      refine GC.exit ?_
      refine GE.thenE ?_
      refine GE.blockE ?_
      refine GE.thenN ?_
      refine GC.region ?_
      refine GL.val (v := (.int .i64 (((k' + 1 : Nat) : Int)))) (Ex.add rfl rfl (Z := ((k' + 1 : Nat) : Int)) (addN (b := 1) (by omega))) (by decide) ?_
      refine GL.val (Ex.move rfl) (by decide) ?_
      refine GL.nil ?_
      refine GE.thenN ?_
      exact Head.mk ((k' + 1, xq6)) ⟨(by show k' + 1 ≤ 2 * r + 1; omega), (by show Fv.Is .f64 xq6 (Bl.acc g (fun i => Fv.V (Bg.nx xs W k x y (((i : Nat) : Int) - ((r : Nat) : Int)))) (k' + 1)); rw [Bl.acc_first (by omega)]; exact hq7)⟩ (by show 2 * r + 1 - (k' + 1) < 2 * r + 1 - k'; omega) ((sub_cons rfl ((sub_cons rfl ((sub_cons rfl ((sub_cons rfl ((sub_cons rfl ((sub_cons rfl ((sub_cons rfl ((sub_nil _)))))))))))))))) (ulC ulN)
    · replace hq8 := of_decide_eq_false hq8
      refine GC.skip ?_
      refine GE.thenN ?_
      refine GC.region ?_
      refine GL.val (Ex.move rfl) (by decide) ?_
      refine GL.val (Ex.move rfl) (by decide) ?_
      refine GL.step (Stp.fop (fx := (Bl.acc g (fun i => Fv.V (Bg.nx xs W k x y (((i : Nat) : Int) - ((r : Nat) : Int)))) k')) (fy := (Fv.op .mul .f64 (some (floatOfInt .f64 ((g k')))) (Fv.V ((smp xs W (bord k W (x + ((((k' : Nat) : Int) - ((r : Nat) : Int))))).1.toNat y))))) rfl rfl rfl hp.2 hq7 (by decide)) (fun xq9 hq10 => ?_)
      refine GL.val (Ex.assign rfl) (by decide) ?_
      refine GL.nil ?_
      refine GE.blockN ?_
      refine GE.thenN ?_
      refine GC.region ?_
      refine GL.val (v := (.int .i64 (((k' + 1 : Nat) : Int)))) (Ex.add rfl rfl (Z := ((k' + 1 : Nat) : Int)) (addN (b := 1) (by omega))) (by decide) ?_
      refine GL.val (Ex.move rfl) (by decide) ?_
      refine GL.nil ?_
      refine GE.thenN ?_
      exact Head.mk ((k' + 1, xq9)) ⟨(by show k' + 1 ≤ 2 * r + 1; omega), (by show Fv.Is .f64 xq9 (Bl.acc g (fun i => Fv.V (Bg.nx xs W k x y (((i : Nat) : Int) - ((r : Nat) : Int)))) (k' + 1)); rw [Bl.acc_next (by omega)]; exact hq10)⟩ (by show 2 * r + 1 - (k' + 1) < 2 * r + 1 - k'; omega) ((sub_cons rfl ((sub_cons rfl ((sub_cons rfl ((sub_cons rfl ((sub_cons rfl ((sub_cons rfl ((sub_cons rfl ((sub_nil _)))))))))))))))) (ulC ulN)
  · replace hq1 := of_decide_eq_false hq1
    have ek : k' = 2 * r + 1 := by omega
    refine GC.exit ?_
    refine GE.thenE ?_
    refine GE.thenE ?_
    refine GE.blockE ?_
    refine GE.thenN ?_
    refine GC.seq ?_
    refine GC.region ?_
    refine GL.val (Ex.move rfl) (by decide) ?_
    refine GL.val (Ex.move rfl) (by decide) ?_
    refine GL.val (v := (.float .f64 ((floatOfInt .f64 ((Bl.sm g k')))))) (Ex.cif rfl Try.underlying3 Try.underlying61) (by decide) ?_
    refine GL.step (Stp.fop (fx := (Bl.acc g (fun i => Fv.V (Bg.nx xs W k x y (((i : Nat) : Int) - ((r : Nat) : Int)))) k')) (fy := (some (floatOfInt .f64 ((Bl.sm g k'))))) rfl rfl rfl hp.2 ⟨rfl, Fv.ofInt_ne _ _⟩ (by decide)) (fun xq11 hq12 => ?_)
    refine GL.step (Stp.callR (vs := [(.float .f64 xq11)]) rfl rfl T.own59 (by decide) (fun wc hw => told_p xq11 (Fv.op .quo .f64 (Bl.acc g (fun i => Fv.V (Bg.nx xs W k x y (((i : Nat) : Int) - ((r : Nat) : Int)))) k') (some (floatOfInt .f64 ((Bl.sm g k'))))) wc hq12 (by rw [ek]; exact Bl.wq_holds (g := g) (l := (fun i => Bg.nx xs W k x y (((i : Nat) : Int) - ((r : Nat) : Int)))) (m := 2 * r + 1) (by omega) (by omega) hg (fun i hi => Bg.smp_bd hu W _ _)))) (fun xq13 hq14 => ?_)
    refine GL.val (Ex.assign rfl) (by decide) ?_
    refine GL.nil ?_
    refine GE.thenN ?_
    refine GC.ret ?_
    refine GC.ret1 rfl (Rv.tmp rfl) (fun wN HN => ?_)
    exact HN.ret () trivial (by rw [ek]; rfl) (List.nil_sublist _) rfl

set_option maxRecDepth 100000 in
set_option maxHeartbeats 1000000 in
theorem weigh_y (W H n cap b o : Nat) (k : Int) (xs : List Int) (x y : Nat) (bw cw : Nat) (g : Nat → Int) (r : Nat) (w : World) (hk : 1 ≤ k ∧ k ≤ 3) (hok : okP W H) (hn : n = W * H) (hx0 : xs.length = n) (hu : ∀ v ∈ xs, 0 ≤ v ∧ v < 4294967296) (hr : Rd w b o (xs.map u32)) (hx : x < W) (hy : y < H) (hrr : r ≤ 7) (hg : ∀ i, i < 2 * r + 1 → 1 ≤ g i ∧ g i ≤ 16384) (hh : Has w [⟨bw, wl (2 * r + 1) g, 3, false⟩]) :
    Calls Try.prog 49 #[(.iface 108 (.agg #[(.int .i64 (((W : Nat) : Int))), (.int .i64 (((H : Nat) : Int))), (.slice (some ⟨b, o, none⟩) n cap), (.int .i64 k), (.int .i64 (((x : Nat) : Int))), (.int .i64 (((y : Nat) : Int))), (.bool true)])), (.slice (some ⟨bw, 0, none⟩) (2 * r + 1) cw)] w (Ret w (fun _ : Unit => True) (fun _ => (.int .u32 ((Bg.bly g r xs W H k x y)))) (fun _ => [])) := by
  have hW1 := hok.1
  have hH1 := hok.2.1
  have hW2 := hok.2.2.1
  have hH2 := hok.2.2.2.1
  have hA := hok.2.2.2.2
  have ha0 : Fv.Is .f64 0 (Bl.acc g (fun i => Fv.V (Bg.ny xs W H k x y (((i : Nat) : Int) - ((r : Nat) : Int)))) 0) := (show Fv.Is .f64 0 (some 0) from ⟨rfl, by decide +kernel⟩)
  refine enter (M := None) (L := [⟨bw, wl (2 * r + 1) g, 3, false⟩]) (n := 43) (l := [(0, (.iface 108 (.agg #[(.int .i64 (((W : Nat) : Int))), (.int .i64 (((H : Nat) : Int))), (.slice (some ⟨b, o, none⟩) n cap), (.int .i64 k), (.int .i64 (((x : Nat) : Int))), (.int .i64 (((y : Nat) : Int))), (.bool true)]))), (1, (.slice (some ⟨bw, 0, none⟩) (2 * r + 1) cw))]) Try.func49 rfl rfl (Args.cons rfl (Args.cons rfl (Args.nil _))) (Hp.reads hh rfl) ?_
  refine GC.seq ?_
  refine GC.region ?_
  refine GL.val (Ex.assign rfl) (by decide) ?_
  refine GL.nil ?_
  refine GE.thenN ?_
  refine GC.seq ?_
  refine GC.region ?_
  refine GL.val (Ex.assign rfl) (by decide) ?_
  refine GL.val (Ex.assign rfl) (by decide) ?_
  refine GL.nil ?_
  refine GE.thenN ?_
  refine GC.seq ?_
  refine GC.seq ?_
  refine GC.region ?_
  refine GL.val (Ex.move rfl) (by decide) ?_
  refine GL.val (v := (.int .i64 (((2 * r + 1) : Int)))) (Ex.len rfl Try.underlying28) (by decide) ?_
  refine GL.val (Ex.move rfl) (by decide) ?_
  refine GL.nil ?_
  refine GE.thenN ?_
  refine GC.block ?_
  refine GC.loop (σ := Nat × Nat) (fun q => (q.1) ≤ 2 * r + 1 ∧ Fv.Is .f64 (q.2) (Bl.acc g (fun i => Fv.V (Bg.ny xs W H k x y (((i : Nat) : Int) - ((r : Nat) : Int)))) ((q.1)))) (fun q => [(0, (.iface 108 (.agg #[(.int .i64 (((W : Nat) : Int))), (.int .i64 (((H : Nat) : Int))), (.slice (some ⟨b, o, none⟩) n cap), (.int .i64 k), (.int .i64 (((x : Nat) : Int))), (.int .i64 (((y : Nat) : Int))), (.bool true)]))), (1, (.slice (some ⟨bw, 0, none⟩) (2 * r + 1) cw)), (5, (.float .f64 ((q.2)))), (6, (.int .i64 ((Bl.sm g ((q.1)))))), (10, (.slice (some ⟨bw, 0, none⟩) (2 * r + 1) cw)), (11, (.int .i64 (((2 * r + 1 : Nat) : Int)))), (12, (.int .i64 ((((q.1) : Nat) : Int))))]) (fun q => [⟨bw, wl (2 * r + 1) g, 3, false⟩]) (fun q => 2 * r + 1 - (q.1)) ((0, 0)) ⟨Nat.zero_le _, ha0⟩ ((sub_cons rfl ((sub_cons rfl ((sub_cons rfl ((sub_cons rfl ((sub_cons rfl ((sub_cons rfl ((sub_cons rfl ((sub_nil _)))))))))))))))) (ulC ulN) (fun q hp => ?_)
  obtain ⟨k', z⟩ := q
  have hp : k' ≤ 2 * r + 1 ∧ Fv.Is .f64 z (Bl.acc g (fun i => Fv.V (Bg.ny xs W H k x y (((i : Nat) : Int) - ((r : Nat) : Int)))) k') := hp
  refine GC.seq ?_
  refine GC.region ?_
  refine GL.val (v := (.bool (decide ((((k' : Nat) : Int)) < (((2 * r + 1 : Nat) : Int)))))) (Ex.lss rfl rfl) (by decide) ?_
  refine GL.nil ?_
  refine GE.thenN ?_
  refine GC.seq ?_
  refine GC.cond rfl (fun hq1 => ?_) (fun hq1 => ?_)
  · replace hq1 := of_decide_eq_true hq1
    refine GC.skip ?_
    refine GE.thenN ?_
    refine GC.seq ?_
    refine GC.block ?_
    refine GC.seq ?_
    refine GC.region ?_
    refine GL.val (Ex.move rfl) (by decide) ?_
    refine GL.val (v := (.pointer (some ⟨bw, (((k' : Nat) : Int)).toNat, none⟩))) (Ex.cast (Ex.indexAddr rfl rfl Try.underlying28 T.sz3 (by omega) (by omega)) (by simp)) (by decide) ?_
    refine GL.val (Ex.load rfl T.ag3 (i := 0) rfl (wl_at (by omega))) (by decide) ?_
    refine GL.val (Ex.assign rfl) (by decide) ?_
    refine GL.val (Ex.assign rfl) (by decide) ?_
    refine GL.nil ?_
    refine GE.thenN ?_
    refine GC.seq ?_
    refine GC.region ?_
    refine GL.val (Ex.move rfl) (by decide) ?_
    refine GL.val (v := (.float .f64 ((floatOfInt .f64 ((g k')))))) (Ex.cif rfl Try.underlying3 Try.underlying61) (by decide) ?_
    refine GL.val (Ex.move rfl) (by decide) ?_
    refine GL.val (Ex.move rfl) (by decide) ?_
    refine GL.val (Ex.move rfl) (by decide) ?_
    refine GL.val (v := (.int .i64 (((2 * r + 1) : Int)))) (Ex.len rfl Try.underlying28) (by decide) ?_
    refine GL.val (v := (.int .i64 (((r : Nat) : Int)))) (Ex.quo rfl rfl (Z := ((r : Nat) : Int)) (by omega) (Bg.quo_half r hrr)) (by decide) ?_
    refine GL.val (v := (.int .i64 ((((k' : Nat) : Int) - ((r : Nat) : Int))))) (Ex.sub' rfl rfl (Z := (((k' : Nat) : Int) - ((r : Nat) : Int))) (w64 (by omega))) (by decide) ?_
    refine GL.step (Stp.invokeR (σ := Unit) (p := fun rz => True) (v := fun rz => (.int .u32 ((smp xs W x (bord k H (y + ((((k' : Nat) : Int) - ((r : Nat) : Int))))).1.toNat)))) (N := fun rz => []) (vs := [(.int .i64 ((((k' : Nat) : Int) - ((r : Nat) : Int))))]) rfl rfl (fun w => T.mth88 _ _ w) (by decide) (fun wc hw => at_y W n cap b o H x xs k ((((k' : Nat) : Int) - ((r : Nat) : Int))) y wc hk (by omega) (by omega) (Bg.at_lt hok hn hx (by first | exact Bg.bY hk hok | assumption)) (by omega) hx0 (hw.rd hr (fun x => x)))) (fun xq2 hq3 => ?_)
    refine GL.step (Stp.callR (vs := [(.int .u32 ((smp xs W x (bord k H (y + ((((k' : Nat) : Int) - ((r : Nat) : Int))))).1.toNat)))]) rfl rfl T.own58 (by decide) (fun wc hw => value_p ((smp xs W x (bord k H (y + ((((k' : Nat) : Int) - ((r : Nat) : Int))))).1.toNat)) wc)) (fun xq4 hq5 => ?_)
    refine GL.step (Stp.fop (fx := (some (floatOfInt .f64 ((g k'))))) (fy := (Fv.V ((smp xs W x (bord k H (y + ((((k' : Nat) : Int) - ((r : Nat) : Int))))).1.toNat)))) rfl rfl rfl ⟨rfl, Fv.ofInt_ne _ _⟩ hq5 (by decide)) (fun xq6 hq7 => ?_)
    refine GL.val (Ex.assign rfl) (by decide) ?_
    refine GL.nil ?_
    refine GE.thenN ?_
    refine GC.seq ?_
    refine GC.region ?_
    refine GL.val (Ex.move rfl) (by decide) ?_
    refine GL.val (Ex.move rfl) (by decide) ?_
    refine GL.val (v := (.int .i64 ((Bl.sm g (k' + 1))))) (Ex.add rfl rfl (Z := (Bl.sm g (k' + 1))) (Bl.sm_add (by omega) (fun i hi => hg i (by omega)))) (by decide) ?_
    refine GL.val (Ex.assign rfl) (by decide) ?_
    refine GL.nil ?_
    refine GE.thenN ?_
    refine GC.seq ?_
    refine GC.seq ?_
    refine GC.region ?_
    refine GL.val (Ex.move rfl) (by decide) ?_
    refine GL.val (v := (.bool (decide ((((k' : Nat) : Int)) = 0)))) (Ex.eql rfl rfl) (by decide) ?_
    refine GL.nil ?_
    refine GE.thenN ?_
    refine GC.cond rfl (fun hq8 => ?_) (fun hq8 => ?_)
    · replace hq8 := of_decide_eq_true hq8
      refine GC.seq ?_
      refine GC.region ?_
      refine GL.val (Ex.move rfl) (by decide) ?_
      refine GL.val (Ex.assign rfl) (by decide) ?_
      refine GL.nil ?_
      refine GE.thenN ?_
      refine GC.exit ?_
      refine GE.thenE ?_
      refine GE.blockE ?_
      refine GE.thenN ?_
      refine GC.region ?_
      refine GL.val (v := (.int .i64 (((k' + 1 : Nat) : Int)))) (Ex.add rfl rfl (Z := ((k' + 1 : Nat) : Int)) (addN (b := 1) (by omega))) (by decide) ?_
      refine GL.val (Ex.move rfl) (by decide) ?_
      refine GL.nil ?_
      refine GE.thenN ?_
      exact Head.mk ((k' + 1, xq6)) ⟨(by show k' + 1 ≤ 2 * r + 1; omega), (by show Fv.Is .f64 xq6 (Bl.acc g (fun i => Fv.V (Bg.ny xs W H k x y (((i : Nat) : Int) - ((r : Nat) : Int)))) (k' + 1)); rw [Bl.acc_first (by omega)]; exact hq7)⟩ (by show 2 * r + 1 - (k' + 1) < 2 * r + 1 - k'; omega) ((sub_cons rfl ((sub_cons rfl ((sub_cons rfl ((sub_cons rfl ((sub_cons rfl ((sub_cons rfl ((sub_cons rfl ((sub_nil _)))))))))))))))) (ulC ulN)
    · replace hq8 := of_decide_eq_false hq8
      refine GC.skip ?_
      refine GE.thenN ?_
      refine GC.region ?_
      refine GL.val (Ex.move rfl) (by decide) ?_
      refine GL.val (Ex.move rfl) (by decide) ?_
      refine GL.step (Stp.fop (fx := (Bl.acc g (fun i => Fv.V (Bg.ny xs W H k x y (((i : Nat) : Int) - ((r : Nat) : Int)))) k')) (fy := (Fv.op .mul .f64 (some (floatOfInt .f64 ((g k')))) (Fv.V ((smp xs W x (bord k H (y + ((((k' : Nat) : Int) - ((r : Nat) : Int))))).1.toNat))))) rfl rfl rfl hp.2 hq7 (by decide)) (fun xq9 hq10 => ?_)
      refine GL.val (Ex.assign rfl) (by decide) ?_
      refine GL.nil ?_
      refine GE.blockN ?_
      refine GE.thenN ?_
      refine GC.region ?_
      refine GL.val (v := (.int .i64 (((k' + 1 : Nat) : Int)))) (Ex.add rfl rfl (Z := ((k' + 1 : Nat) : Int)) (addN (b := 1) (by omega))) (by decide) ?_
      refine GL.val (Ex.move rfl) (by decide) ?_
      refine GL.nil ?_
      refine GE.thenN ?_
      exact Head.mk ((k' + 1, xq9)) ⟨(by show k' + 1 ≤ 2 * r + 1; omega), (by show Fv.Is .f64 xq9 (Bl.acc g (fun i => Fv.V (Bg.ny xs W H k x y (((i : Nat) : Int) - ((r : Nat) : Int)))) (k' + 1)); rw [Bl.acc_next (by omega)]; exact hq10)⟩ (by show 2 * r + 1 - (k' + 1) < 2 * r + 1 - k'; omega) ((sub_cons rfl ((sub_cons rfl ((sub_cons rfl ((sub_cons rfl ((sub_cons rfl ((sub_cons rfl ((sub_cons rfl ((sub_nil _)))))))))))))))) (ulC ulN)
  · replace hq1 := of_decide_eq_false hq1
    have ek : k' = 2 * r + 1 := by omega
    refine GC.exit ?_
    refine GE.thenE ?_
    refine GE.thenE ?_
    refine GE.blockE ?_
    refine GE.thenN ?_
    refine GC.seq ?_
    refine GC.region ?_
    refine GL.val (Ex.move rfl) (by decide) ?_
    refine GL.val (Ex.move rfl) (by decide) ?_
    refine GL.val (v := (.float .f64 ((floatOfInt .f64 ((Bl.sm g k')))))) (Ex.cif rfl Try.underlying3 Try.underlying61) (by decide) ?_
    refine GL.step (Stp.fop (fx := (Bl.acc g (fun i => Fv.V (Bg.ny xs W H k x y (((i : Nat) : Int) - ((r : Nat) : Int)))) k')) (fy := (some (floatOfInt .f64 ((Bl.sm g k'))))) rfl rfl rfl hp.2 ⟨rfl, Fv.ofInt_ne _ _⟩ (by decide)) (fun xq11 hq12 => ?_)
    refine GL.step (Stp.callR (vs := [(.float .f64 xq11)]) rfl rfl T.own59 (by decide) (fun wc hw => told_p xq11 (Fv.op .quo .f64 (Bl.acc g (fun i => Fv.V (Bg.ny xs W H k x y (((i : Nat) : Int) - ((r : Nat) : Int)))) k') (some (floatOfInt .f64 ((Bl.sm g k'))))) wc hq12 (by rw [ek]; exact Bl.wq_holds (g := g) (l := (fun i => Bg.ny xs W H k x y (((i : Nat) : Int) - ((r : Nat) : Int)))) (m := 2 * r + 1) (by omega) (by omega) hg (fun i hi => Bg.smp_bd hu W _ _)))) (fun xq13 hq14 => ?_)
    refine GL.val (Ex.assign rfl) (by decide) ?_
    refine GL.nil ?_
    refine GE.thenN ?_
    refine GC.ret ?_
    refine GC.ret1 rfl (Rv.tmp rfl) (fun wN HN => ?_)
    exact HN.ret () trivial (by rw [ek]; rfl) (List.nil_sublist _) rfl

set_option maxRecDepth 100000 in
set_option maxHeartbeats 1000000 in
theorem ref_weigh (bl cl bw cw : Nat) (ls : List Int) (sp : List Value) (g : Nat → Int) (r : Nat) (w : World) (hl : ls.length = 2 * r + 1) (hu : ∀ v ∈ ls, 0 ≤ v ∧ v < 4294967296) (hr : Rd w bl 0 (ls.map u32)) (hrr : r ≤ 7) (hg : ∀ i, i < 2 * r + 1 → 1 ≤ g i ∧ g i ≤ 16384) (hh : Has w [⟨bw, wl (2 * r + 1) g ++ sp, 3, false⟩]) :
    Calls Try.prog 45 #[(.slice (some ⟨bl, 0, none⟩) (2 * r + 1) cl), (.slice (some ⟨bw, 0, none⟩) (2 * r + 1) cw)] w (Ret w (fun _ : Unit => True) (fun _ => (.int .u32 ((Bl.wgh g (fun i => ls.getD i 0) (2 * r + 1))))) (fun _ => [])) := by
  have ha0 : Fv.Is .f64 0 (Bl.acc g (fun i => Fv.V (ls.getD i 0)) 0) := (show Fv.Is .f64 0 (some 0) from ⟨rfl, by decide +kernel⟩)
  refine enter (M := None) (L := [⟨bw, wl (2 * r + 1) g ++ sp, 3, false⟩]) (n := 43) (l := [(0, (.slice (some ⟨bl, 0, none⟩) (2 * r + 1) cl)), (1, (.slice (some ⟨bw, 0, none⟩) (2 * r + 1) cw))]) Try.func45 rfl rfl (Args.cons rfl (Args.cons rfl (Args.nil _))) (Hp.reads hh rfl) ?_
  refine GC.seq ?_
  refine GC.region ?_
  refine GL.val (Ex.assign rfl) (by decide) ?_
  refine GL.nil ?_
  refine GE.thenN ?_
  refine GC.seq ?_
  refine GC.region ?_
  refine GL.val (Ex.assign rfl) (by decide) ?_
  refine GL.nil ?_
  refine GE.thenN ?_
  refine GC.seq ?_
  refine GC.region ?_
  refine GL.val (Ex.assign rfl) (by decide) ?_
  refine GL.nil ?_
  refine GE.thenN ?_
  refine GC.seq ?_
  refine GC.seq ?_
  refine GC.region ?_
  refine GL.val (Ex.assign rfl) (by decide) ?_
  refine GL.nil ?_
  refine GE.thenN ?_
  refine GC.block ?_
  refine GC.loop (σ := Nat × Nat) (fun q => (q.1) ≤ 2 * r + 1 ∧ Fv.Is .f64 (q.2) (Bl.acc g (fun i => Fv.V (ls.getD i 0)) ((q.1)))) (fun q => [(0, (.slice (some ⟨bl, 0, none⟩) (2 * r + 1) cl)), (1, (.slice (some ⟨bw, 0, none⟩) (2 * r + 1) cw)), (5, (.int .i64 ((Bl.sm g ((q.1)))))), (6, (.float .f64 ((q.2)))), (7, (.int .i64 ((((q.1) : Nat) : Int))))]) (fun q => [⟨bw, wl (2 * r + 1) g ++ sp, 3, false⟩]) (fun q => 2 * r + 1 - (q.1)) ((0, 0)) ⟨Nat.zero_le _, ha0⟩ ((sub_cons rfl ((sub_cons rfl ((sub_cons rfl ((sub_cons rfl ((sub_cons rfl ((sub_nil _)))))))))))) (ulC ulN) (fun q hp => ?_)
  obtain ⟨k', z⟩ := q
  have hp : k' ≤ 2 * r + 1 ∧ Fv.Is .f64 z (Bl.acc g (fun i => Fv.V (ls.getD i 0)) k') := hp
  refine GC.seq ?_
  refine GC.seq ?_
  refine GC.region ?_
  refine GL.val (Ex.move rfl) (by decide) ?_
  refine GL.val (Ex.move rfl) (by decide) ?_
  refine GL.val (v := (.int .i64 (((2 * r + 1) : Int)))) (Ex.len rfl Try.underlying28) (by decide) ?_
  refine GL.val (v := (.bool (decide ((((k' : Nat) : Int)) < (((2 * r + 1) : Int)))))) (Ex.lss rfl rfl) (by decide) ?_
  refine GL.nil ?_
  refine GE.thenN ?_
  refine GC.cond rfl (fun hq1 => ?_) (fun hq1 => ?_)
  · replace hq1 := of_decide_eq_true hq1
    refine GC.skip ?_
    refine GE.thenN ?_
    refine GC.seq ?_
    refine GC.block ?_
    refine GC.seq ?_
    refine GC.drawP [⟨bw, wl (2 * r + 1) g ++ sp, 3, false⟩] T.mixed (by kernel_rfl) (by kernel_rfl) (fuel := 11) rfl rfl ?_
    refine GH.take 0 (v := (.slice (some ⟨bw, 0, none⟩) (2 * r + 1) cw)) rfl (by kernel_rfl) (by kernel_rfl) (by kernel_rfl) (fun _ _ _ h => h) (Ex.move rfl) (ulC ulN) (by decide) ?_
    refine GH.take 1 (v := (.int .i64 (((k' : Nat) : Int)))) rfl (by kernel_rfl) (by kernel_rfl) (by kernel_rfl) (fun _ _ _ h => h) (Ex.move rfl) (ulC ulN) (by decide) ?_
    refine GH.take 2 (v := (.pointer (some ⟨bw, (((k' : Nat) : Int)).toNat, none⟩))) rfl (by kernel_rfl) (by kernel_rfl) (by kernel_rfl) (fun _ _ _ h => h) (Ex.cast (Ex.indexAddr rfl rfl Try.underlying28 T.sz3 (by omega) (by omega)) (by simp)) (ulC ulN) (by decide) ?_
    refine GH.take 3 (v := (.int .i64 ((g k')))) rfl (by kernel_rfl) (by kernel_rfl) (by kernel_rfl) (fun _ _ _ h => h) (Ex.load rfl T.ag3 (i := 0) rfl (wl_at' sp (by omega))) (ulC ulN) (by decide) ?_
    refine GH.take 4 (v := (.float .f64 ((floatOfInt .f64 ((g k')))))) rfl (by kernel_rfl) (by kernel_rfl) (by kernel_rfl) (fun _ _ _ h => h) (Ex.cif rfl Try.underlying3 Try.underlying61) (ulC ulN) (by decide) ?_
    refine GH.take 5 (v := (.slice (some ⟨bl, 0, none⟩) (2 * r + 1) cl)) rfl (by kernel_rfl) (by kernel_rfl) (by kernel_rfl) (fun _ _ _ h => h) (Ex.move rfl) (ulC ulN) (by decide) ?_
    refine GH.take 6 (v := (.int .i64 (((k' : Nat) : Int)))) rfl (by kernel_rfl) (by kernel_rfl) (by kernel_rfl) (fun _ _ _ h => h) (Ex.move rfl) (ulC ulN) (by decide) ?_
    refine GH.take 7 (v := (.pointer (some ⟨bl, 0 + k', none⟩))) rfl (by kernel_rfl) (by kernel_rfl) (by kernel_rfl) (fun _ _ _ h => h) (Ex.cast (Ex.indexAddr rfl rfl Try.underlying41 T.sz63 (by omega) (by omega)) (by simp)) (ulC ulN) (by decide) ?_
    refine GH.take 8 (v := (.int .u32 ((ls.getD k' 0)))) rfl (by kernel_rfl) (by kernel_rfl) (by kernel_rfl) (fun _ _ _ h => h) (Ex.loadO rfl T.ag63 (Rd.at hr (by omega)) (fun x => x)) (ulC ulN) (by decide) ?_
    refine GH.one 9 rfl (by kernel_rfl) (Stp.callR (vs := [(.int .u32 ((ls.getD k' 0)))]) rfl rfl T.own56 (by decide) (fun wc hw => value_r ((ls.getD k' 0)) wc)) (fun _ => (ulC ulN)) (fun xq2 hq3 => ?_)
    refine GH.one 10 rfl (by kernel_rfl) (Stp.fop (fx := (some (floatOfInt .f64 ((g k'))))) (fy := (Fv.V ((ls.getD k' 0)))) rfl rfl rfl ⟨rfl, Fv.ofInt_ne _ _⟩ hq3 (by decide)) (fun _ => (ulC ulN)) (fun xq6 hq7 => ?_)
    refine GH.done (by kernel_rfl) ?_
    refine GE.thenN ?_
    refine GE.tail rfl (Ex.wp (v := (.float .f64 xq6)) (Ex.assign rfl) (by decide)) (fun _ _ => ?_)
    refine GE.thenN ?_
    refine GC.seq ?_
    refine GC.seq ?_
    refine GC.region ?_
    refine GL.val (Ex.move rfl) (by decide) ?_
    refine GL.val (v := (.bool (decide ((((k' : Nat) : Int)) = 0)))) (Ex.eql rfl rfl) (by decide) ?_
    refine GL.nil ?_
    refine GE.thenN ?_
    refine GC.cond rfl (fun hq8 => ?_) (fun hq8 => ?_)
    · replace hq8 := of_decide_eq_true hq8
      refine GC.region ?_
      refine GL.val (Ex.move rfl) (by decide) ?_
      refine GL.val (Ex.assign rfl) (by decide) ?_
      refine GL.nil ?_
      refine GE.thenN ?_
      refine GC.region ?_
      refine GL.val (Ex.move rfl) (by decide) ?_
      refine GL.val (Ex.move rfl) (by decide) ?_
      refine GL.val (Ex.move rfl) (by decide) ?_
      refine GL.val (v := (.pointer (some ⟨bw, (((k' : Nat) : Int)).toNat, none⟩))) (Ex.cast (Ex.indexAddr rfl rfl Try.underlying28 T.sz3 (by omega) (by omega)) (by simp)) (by decide) ?_
      refine GL.val (Ex.load rfl T.ag3 (i := 0) rfl (wl_at' sp (by omega))) (by decide) ?_
      refine GL.val (v := (.int .i64 ((Bl.sm g (k' + 1))))) (Ex.add rfl rfl (Z := (Bl.sm g (k' + 1))) (Bl.sm_add (by omega) (fun i hi => hg i (by omega)))) (by decide) ?_
      refine GL.val (Ex.assign rfl) (by decide) ?_
      refine GL.nil ?_
      refine GE.blockN ?_
      refine GE.thenN ?_
      refine GC.region ?_
      refine GL.val (Ex.move rfl) (by decide) ?_
      refine GL.val (v := (.int .i64 (((k' + 1 : Nat) : Int)))) (Ex.add rfl rfl (Z := ((k' + 1 : Nat) : Int)) (addN (b := 1) (by omega))) (by decide) ?_
      refine GL.val (Ex.assign rfl) (by decide) ?_
      refine GL.nil ?_
      refine GE.thenN ?_
      exact Head.mk ((k' + 1, xq6)) ⟨(by show k' + 1 ≤ 2 * r + 1; omega), (by show Fv.Is .f64 xq6 (Bl.acc g (fun i => Fv.V (ls.getD i 0)) (k' + 1)); rw [Bl.acc_first (by omega)]; exact hq7)⟩ (by show 2 * r + 1 - (k' + 1) < 2 * r + 1 - k'; omega) ((sub_cons rfl ((sub_cons rfl ((sub_cons rfl ((sub_cons rfl ((sub_cons rfl ((sub_nil _)))))))))))) (ulC ulN)
    · replace hq8 := of_decide_eq_false hq8
      refine GC.region ?_
      refine GL.val (Ex.move rfl) (by decide) ?_
      refine GL.val (Ex.move rfl) (by decide) ?_
      refine GL.step (Stp.fop (fx := (Bl.acc g (fun i => Fv.V (ls.getD i 0)) k')) (fy := (Fv.op .mul .f64 (some (floatOfInt .f64 ((g k')))) (Fv.V ((ls.getD k' 0))))) rfl rfl rfl hp.2 hq7 (by decide)) (fun xq9 hq10 => ?_)
      refine GL.val (Ex.assign rfl) (by decide) ?_
      refine GL.nil ?_
      refine GE.thenN ?_
      refine GC.region ?_
      refine GL.val (Ex.move rfl) (by decide) ?_
      refine GL.val (Ex.move rfl) (by decide) ?_
      refine GL.val (Ex.move rfl) (by decide) ?_
      refine GL.val (v := (.pointer (some ⟨bw, (((k' : Nat) : Int)).toNat, none⟩))) (Ex.cast (Ex.indexAddr rfl rfl Try.underlying28 T.sz3 (by omega) (by omega)) (by simp)) (by decide) ?_
      refine GL.val (Ex.load rfl T.ag3 (i := 0) rfl (wl_at' sp (by omega))) (by decide) ?_
      refine GL.val (v := (.int .i64 ((Bl.sm g (k' + 1))))) (Ex.add rfl rfl (Z := (Bl.sm g (k' + 1))) (Bl.sm_add (by omega) (fun i hi => hg i (by omega)))) (by decide) ?_
      refine GL.val (Ex.assign rfl) (by decide) ?_
      refine GL.nil ?_
      refine GE.blockN ?_
      refine GE.thenN ?_
      refine GC.region ?_
      refine GL.val (Ex.move rfl) (by decide) ?_
      refine GL.val (v := (.int .i64 (((k' + 1 : Nat) : Int)))) (Ex.add rfl rfl (Z := ((k' + 1 : Nat) : Int)) (addN (b := 1) (by omega))) (by decide) ?_
      refine GL.val (Ex.assign rfl) (by decide) ?_
      refine GL.nil ?_
      refine GE.thenN ?_
      exact Head.mk ((k' + 1, xq9)) ⟨(by show k' + 1 ≤ 2 * r + 1; omega), (by show Fv.Is .f64 xq9 (Bl.acc g (fun i => Fv.V (ls.getD i 0)) (k' + 1)); rw [Bl.acc_next (by omega)]; exact hq10)⟩ (by show 2 * r + 1 - (k' + 1) < 2 * r + 1 - k'; omega) ((sub_cons rfl ((sub_cons rfl ((sub_cons rfl ((sub_cons rfl ((sub_cons rfl ((sub_nil _)))))))))))) (ulC ulN)
  · replace hq1 := of_decide_eq_false hq1
    have ek : k' = 2 * r + 1 := by omega
    refine GC.exit ?_
    refine GE.thenE ?_
    refine GE.thenE ?_
    refine GE.blockE ?_
    refine GE.thenN ?_
    refine GC.seq ?_
    refine GC.region ?_
    refine GL.val (Ex.move rfl) (by decide) ?_
    refine GL.val (Ex.move rfl) (by decide) ?_
    refine GL.val (v := (.float .f64 ((floatOfInt .f64 ((Bl.sm g k')))))) (Ex.cif rfl Try.underlying3 Try.underlying61) (by decide) ?_
    refine GL.step (Stp.fop (fx := (Bl.acc g (fun i => Fv.V (ls.getD i 0)) k')) (fy := (some (floatOfInt .f64 ((Bl.sm g k'))))) rfl rfl rfl hp.2 ⟨rfl, Fv.ofInt_ne _ _⟩ (by decide)) (fun xq11 hq12 => ?_)
    refine GL.step (Stp.callR (vs := [(.float .f64 xq11)]) rfl rfl T.own57 (by decide) (fun wc hw => sample_r xq11 (Fv.op .quo .f64 (Bl.acc g (fun i => Fv.V (ls.getD i 0)) k') (some (floatOfInt .f64 ((Bl.sm g k'))))) wc hq12 (by rw [ek]; exact Bl.wq_holds (g := g) (l := fun i => ls.getD i 0) (m := 2 * r + 1) (by omega) (by omega) hg (fun i hi => Bg.get_bd hu i)))) (fun xq13 hq14 => ?_)
    refine GL.val (Ex.assign rfl) (by decide) ?_
    refine GL.nil ?_
    refine GE.thenN ?_
    refine GC.ret ?_
    refine GC.ret1 rfl (Rv.tmp rfl) (fun wN HN => ?_)
    exact HN.ret () trivial (by rw [ek]; rfl) (List.nil_sublist _) rfl

theorem weights_any (kd : Int) (r : Nat) (w : World) (hr : r ≤ 7) (hkd : kd = 1 ∨ kd = 2) : Calls Try.prog 14 #[.int .i64 kd, .int .i64 ((r : Nat) : Int)] w (Ret w (fun _ : Nat => True) (fun b => .tuple #[.slice (some ⟨b, 0, none⟩) (2 * r + 1) (2 * r + 1), .int .i64 0]) (fun b => [⟨b, wl (2 * r + 1) (Bg.gk kd r), 3, true⟩])) := by
  rcases hkd with rfl | rfl
  · rw [show Bg.gk 1 r = pv (2 * r) from if_pos rfl]; exact weights1 r w hr
  · rw [show Bg.gk 2 r = fun _ => 1 from if_neg (by decide)]; exact weights2 r w hr

theorem ref_weights_any (kd : Int) (r : Nat) (w : World) (hr : r ≤ 7) (hkd : kd = 1 ∨ kd = 2) : Calls Try.prog 13 #[.int .i64 kd, .int .i64 ((r : Nat) : Int)] w (Ret w (fun _ : Nat × Nat × List Value => True) (fun x => .tuple #[.slice (some ⟨x.1, 0, none⟩) (2 * r + 1) x.2.1, .int .i64 0]) (fun x => [⟨x.1, wl (2 * r + 1) (Bg.gk kd r) ++ x.2.2, 3, true⟩])) := by
  rcases hkd with rfl | rfl
  · rw [show Bg.gk 1 r = pv (2 * r) from if_pos rfl]; exact ref_weights1 r w hr
  · rw [show Bg.gk 2 r = fun _ => 1 from if_neg (by decide)]; exact ref_weights2 r w hr

set_option maxRecDepth 100000 in
set_option maxHeartbeats 1000000 in
theorem blur_ok (W H n cap b o : Nat) (k kd : Int) (r : Nat) (xs : List Int) (w : World) (hk : 1 ≤ k ∧ k ≤ 3) (hok : okP W H) (hn : n = W * H) (hx0 : xs.length = n) (hu : ∀ v ∈ xs, 0 ≤ v ∧ v < 4294967296) (hr : Rd w b o (xs.map u32)) (hkd : kd = 1 ∨ kd = 2) (hrr : r ≤ 7) :
    Calls Try.prog 21 #[(.agg #[(.int .i64 (((W : Nat) : Int))), (.int .i64 (((H : Nat) : Int))), (.slice (some ⟨b, o, none⟩) n cap)]), (.int .i64 kd), (.int .i64 (((r : Nat) : Int))), (.int .i64 k)] w (Ret w (fun _ : Nat => True) (fun p => .tuple #[(.agg #[(.int .i64 (((W : Nat) : Int))), (.int .i64 (((H : Nat) : Int))), (.slice (some ⟨p, 0, none⟩) (W * H) (W * H))]), .int .i64 0]) (fun p => [⟨p, (tab W (Bg.blr (Bg.gk kd r) r xs W H k) (W * H)).map u32, 63, true⟩])) := by
  have hW1 := hok.1
  have hH1 := hok.2.1
  have hW2 := hok.2.2.1
  have hH2 := hok.2.2.2.1
  have hA := hok.2.2.2.2
  refine enter (M := None) (L := []) (n := 45) (l := [(0, (.agg #[(.int .i64 (((W : Nat) : Int))), (.int .i64 (((H : Nat) : Int))), (.slice (some ⟨b, o, none⟩) n cap)])), (1, (.int .i64 kd)), (2, (.int .i64 (((r : Nat) : Int)))), (3, (.int .i64 k))]) Try.func21 rfl rfl (Args.cons rfl (Args.cons rfl (Args.cons rfl (Args.cons rfl (Args.nil _))))) (Hp.start _ _) ?_
  refine GC.seq ?_
  refine GC.region ?_
  refine GL.step (Stp.box (cs := [(.int .i64 (((W : Nat) : Int))), (.int .i64 (((H : Nat) : Int))), (.slice (some ⟨b, o, none⟩) n cap)]) rfl rfl (by decide)) (fun bq1 _ => ?_)
  refine GL.step (Stp.alloc T.zr43 (by decide)) (fun bq2 _ => ?_)
  refine GL.val (Ex.assign rfl) (by decide) ?_
  refine GL.nil ?_
  refine GE.thenN ?_
  refine GC.seq ?_
  refine GC.seq ?_
  refine GC.region ?_
  refine GL.val (v := (.agg #[(.int .i64 (((W : Nat) : Int))), (.int .i64 (((H : Nat) : Int))), (.slice (some ⟨b, o, none⟩) n cap)])) (Ex.loadA rfl T.ag43 T.sz43 (i := 1) rfl (vs := [(.int .i64 (((W : Nat) : Int))), (.int .i64 (((H : Nat) : Int))), (.slice (some ⟨b, o, none⟩) n cap)]) rfl rfl) (by decide) ?_
  refine GL.step (Stp.callR (σ := Unit) (p := fun rz => True) (v := fun rz => (.int .i64 0)) (N := fun rz => []) (vs := [(.agg #[(.int .i64 (((W : Nat) : Int))), (.int .i64 (((H : Nat) : Int))), (.slice (some ⟨b, o, none⟩) n cap)])]) rfl rfl T.own46 (by decide) (fun wc hw => (by have h := check (((W : Nat) : Int)) (((H : Nat) : Int)) (some ⟨b, o, none⟩) n cap wc; rw [show chk (((W : Nat) : Int)) (((H : Nat) : Int)) (n) = 0 from (by rw [hn]; exact chk_ok hok)] at h; exact h))) (fun xq3 hq4 => ?_)
  refine GL.val (Ex.assign rfl) (by decide) ?_
  refine GL.nil ?_
  refine GE.thenN ?_
  refine GC.seq ?_
  refine GC.region ?_
  refine GL.val (Ex.move rfl) (by decide) ?_
  refine GL.val (v := (.bool false)) (Ex.cast (Ex.neq rfl rfl) rfl) (by decide) ?_
  refine GL.nil ?_
  refine GE.thenN ?_
  refine GC.cond rfl (fun hq5 => by cases hq5) (fun _ => ?_)
  refine GC.skip ?_
  refine GE.thenN ?_
  refine GC.seq ?_
  refine GC.region ?_
  refine GL.val (Ex.move rfl) (by decide) ?_
  refine GL.val (Ex.move rfl) (by decide) ?_
  refine GL.step (Stp.callR (vs := [(.int .i64 kd), (.int .i64 (((r : Nat) : Int)))]) rfl rfl T.own14 (by decide) (fun wc hw => weights_any kd r wc hrr hkd)) (fun xq6 hq7 => ?_)
  refine GL.val (Ex.move rfl) (by decide) ?_
  refine GL.val (Ex.extract rfl rfl) (by decide) ?_
  refine GL.val (Ex.extract rfl rfl) (by decide) ?_
  refine GL.val (Ex.assign rfl) (by decide) ?_
  refine GL.val (Ex.assign rfl) (by decide) ?_
  refine GL.nil ?_
  refine GE.thenN ?_
  refine GC.seq ?_
  refine GC.seq ?_
  refine GC.region ?_
  refine GL.val (Ex.move rfl) (by decide) ?_
  refine GL.val (v := (.bool false)) (Ex.cast (Ex.neq rfl rfl) rfl) (by decide) ?_
  refine GL.nil ?_
  refine GE.thenN ?_
  refine GC.cond rfl (fun hq8 => by cases hq8) (fun _ => ?_)
  refine GC.skip ?_
  refine GE.thenN ?_
  refine GC.seq ?_
  refine GC.seq ?_
  refine GC.region ?_
  refine GL.val (Ex.move rfl) (by decide) ?_
  refine GL.step (Stp.callR (vs := [(.int .i64 k)]) rfl rfl T.own47 (by decide) (fun wc hw => borders_p k wc)) (fun xq9 hq10 => ?_)
  refine GL.val (Ex.assign rfl) (by decide) ?_
  refine GL.nil ?_
  refine GE.thenN ?_
  refine GC.seq ?_
  refine GC.region ?_
  refine GL.val (Ex.move rfl) (by decide) ?_
  refine GL.val (v := (.bool false)) (Ex.cast (Ex.neq rfl rfl) (congrArg Value.bool (decide_eq_false (by rw [(bord_ok (i := 0) hk.1 hk.2 (show (1 : Int) ≤ 1 by decide) (by decide)).1]; decide)))) (by decide) ?_
  refine GL.nil ?_
  refine GE.thenN ?_
  refine GC.cond rfl (fun hq11 => by cases hq11) (fun _ => ?_)
  refine GC.skip ?_
  refine GE.thenN ?_
  refine GC.seq ?_
  refine GC.region ?_
  refine GL.val (v := (.agg #[(.int .i64 (((W : Nat) : Int))), (.int .i64 (((H : Nat) : Int))), (.slice (some ⟨b, o, none⟩) n cap)])) (Ex.loadA rfl T.ag43 T.sz43 (i := 2) rfl (vs := [(.int .i64 (((W : Nat) : Int))), (.int .i64 (((H : Nat) : Int))), (.slice (some ⟨b, o, none⟩) n cap)]) rfl rfl) (by decide) ?_
  refine GL.val (Ex.move rfl) (by decide) ?_
  refine GL.val (Ex.move rfl) (by decide) ?_
  refine GL.step (Stp.callR (vs := [(.agg #[(.int .i64 (((W : Nat) : Int))), (.int .i64 (((H : Nat) : Int))), (.slice (some ⟨b, o, none⟩) n cap)]), (.int .i64 k), (.bool false), (.slice (some ⟨xq6, 0, none⟩) (2 * r + 1) (2 * r + 1)), (.func (.func 49) #[] #[])]) rfl rfl T.own48 (by decide) (fun wc hw => sweepW W H n cap (some ⟨b, o, none⟩) k false 49 (.slice (some ⟨xq6, 0, none⟩) (2 * r + 1) (2 * r + 1)) (Bg.blx (Bg.gk kd r) r xs W k) wc hn ⟨T.own49, fun x y w' hx hy hkp => weigh_x W H n cap b o k xs x y xq6 (2 * r + 1) (Bg.gk kd r) r w' hk hok hn hx0 hu ((hw.rd hr (fun x => x)).later hkp) hx hy hrr (Bg.gk_bd hrr) ((Has.cons (hw.hasOf (i := 0) rfl) (Has.nil _)).later hkp)⟩ hW2 hH2 hA)) (fun xq12 hq13 => ?_)
  refine GL.step (Stp.alloc T.zr43 (by decide)) (fun bq14 _ => ?_)
  refine GL.step (Stp.st0 (cs' := [(.int .i64 (((W : Nat) : Int))), (.int .i64 (((H : Nat) : Int))), (.slice (some ⟨xq12, 0, none⟩) (W * H) (W * H))]) rfl rfl rfl T.sz43 rfl rfl rfl) (fun _ _ => ?_)
  refine GL.nil ?_
  refine GE.thenN ?_
  refine GC.seq ?_
  refine GC.region ?_
  refine GL.val (v := (.agg #[(.int .i64 (((W : Nat) : Int))), (.int .i64 (((H : Nat) : Int))), (.slice (some ⟨xq12, 0, none⟩) (W * H) (W * H))])) (Ex.loadA rfl T.ag43 T.sz43 (i := 0) rfl (vs := [(.int .i64 (((W : Nat) : Int))), (.int .i64 (((H : Nat) : Int))), (.slice (some ⟨xq12, 0, none⟩) (W * H) (W * H))]) rfl rfl) (by decide) ?_
  refine GL.val (Ex.move rfl) (by decide) ?_
  refine GL.val (Ex.move rfl) (by decide) ?_
  refine GL.step (Stp.callR (vs := [(.agg #[(.int .i64 (((W : Nat) : Int))), (.int .i64 (((H : Nat) : Int))), (.slice (some ⟨xq12, 0, none⟩) (W * H) (W * H))]), (.int .i64 k), (.bool true), (.slice (some ⟨xq6, 0, none⟩) (2 * r + 1) (2 * r + 1)), (.func (.func 49) #[] #[])]) rfl rfl T.own48 (by decide) (fun wc hw => sweepW W H (W * H) (W * H) (some ⟨xq12, 0, none⟩) k true 49 (.slice (some ⟨xq6, 0, none⟩) (2 * r + 1) (2 * r + 1)) (Bg.blr (Bg.gk kd r) r xs W H k) wc rfl ⟨T.own49, fun x y w' hx hy hkp => weigh_y W H (W * H) (W * H) xq12 0 k (tab W (Bg.blx (Bg.gk kd r) r xs W k) (W * H)) x y xq6 (2 * r + 1) (Bg.gk kd r) r w' hk hok rfl (tab_len _ _ _) (Bg.tab_bd (fun x y => Bg.blx_bd x y)) ((hw.rdOf (i := 1) rfl 0).later hkp) hx hy hrr (Bg.gk_bd hrr) ((Has.cons (hw.hasOf (i := 2) rfl) (Has.nil _)).later hkp)⟩ hW2 hH2 hA)) (fun xq15 hq16 => ?_)
  refine GL.step (Stp.st4 (cs' := [(.int .i64 (((W : Nat) : Int))), (.int .i64 (((H : Nat) : Int))), (.slice (some ⟨xq15, 0, none⟩) (W * H) (W * H))]) rfl rfl rfl T.sz43 rfl rfl rfl) (fun _ _ => ?_)
  refine GL.val (Ex.assign rfl) (by decide) ?_
  refine GL.nil ?_
  refine GE.thenN ?_
  refine GC.ret ?_
  refine GC.ret2 rfl (Rv.cellA rfl T.ag43 T.sz43 (L := _) (i := 4) rfl (vs := [(.int .i64 (((W : Nat) : Int))), (.int .i64 (((H : Nat) : Int))), (.slice (some ⟨xq15, 0, none⟩) (W * H) (W * H))]) rfl rfl) (Rv.tmp rfl) (fun wN HN => ?_)
  exact HN.ret xq15 trivial rfl (ulC (ulS (ulS (ulS (ulS (ulS ulN)))))) rfl

set_option maxRecDepth 100000 in
set_option maxHeartbeats 1000000 in
theorem blur_bad (W H : Int) (ad : Option Addr) (n cap : Nat) (k kd r : Int) (w : World) (hc : chk W H n ≠ 0) :
    Calls Try.prog 21 #[(.agg #[(.int .i64 W), (.int .i64 H), (.slice ad n cap)]), (.int .i64 kd), (.int .i64 r), (.int .i64 k)] w (Ret w (fun _ : Unit => True) (fun _ => .tuple #[(.agg #[(.int .i64 0), (.int .i64 0), (.slice none 0 0)]), .int .i64 (chk W H n)]) (fun _ => [])) := by
  refine enter (M := None) (L := []) (n := 45) (l := [(0, (.agg #[(.int .i64 W), (.int .i64 H), (.slice ad n cap)])), (1, (.int .i64 kd)), (2, (.int .i64 r)), (3, (.int .i64 k))]) Try.func21 rfl rfl (Args.cons rfl (Args.cons rfl (Args.cons rfl (Args.cons rfl (Args.nil _))))) (Hp.start _ _) ?_
  refine GC.seq ?_
  refine GC.region ?_
  refine GL.step (Stp.box (cs := [(.int .i64 W), (.int .i64 H), (.slice ad n cap)]) rfl rfl (by decide)) (fun bq1 _ => ?_)
  refine GL.step (Stp.alloc T.zr43 (by decide)) (fun bq2 _ => ?_)
  refine GL.val (Ex.assign rfl) (by decide) ?_
  refine GL.nil ?_
  refine GE.thenN ?_
  refine GC.seq ?_
  refine GC.seq ?_
  refine GC.region ?_
  refine GL.val (v := (.agg #[(.int .i64 W), (.int .i64 H), (.slice ad n cap)])) (Ex.loadA rfl T.ag43 T.sz43 (i := 1) rfl (vs := [(.int .i64 W), (.int .i64 H), (.slice ad n cap)]) rfl rfl) (by decide) ?_
  refine GL.step (Stp.callR (vs := [(.agg #[(.int .i64 W), (.int .i64 H), (.slice ad n cap)])]) rfl rfl T.own46 (by decide) (fun wc hw => check W H ad n cap wc)) (fun xq3 hq4 => ?_)
  refine GL.val (Ex.assign rfl) (by decide) ?_
  refine GL.nil ?_
  refine GE.thenN ?_
  refine GC.seq ?_
  refine GC.region ?_
  refine GL.val (Ex.move rfl) (by decide) ?_
  refine GL.val (v := (.bool true)) (Ex.cast (Ex.neq rfl rfl) (congrArg Value.bool (decide_eq_true (by exact hc)))) (by decide) ?_
  refine GL.nil ?_
  refine GE.thenN ?_
  refine GC.cond rfl (fun _ => ?_) (fun hq5 => by cases hq5)
  refine GC.seq ?_
  refine GC.region ?_
  refine GL.val (v := (.agg #[(.int .i64 0), (.int .i64 0), (.slice none 0 0)])) (Ex.build (vs := []) rfl (by first | rfl | kernel_rfl)) (by decide) ?_
  refine GL.val (Ex.move rfl) (by decide) ?_
  refine GL.step (Stp.st0 (cs' := [(.int .i64 0), (.int .i64 0), (.slice none 0 0)]) rfl rfl rfl T.sz43 rfl rfl rfl) (fun _ _ => ?_)
  refine GL.val (Ex.assign rfl) (by decide) ?_
  refine GL.nil ?_
  refine GE.thenN ?_
  refine GC.ret ?_
  refine GE.thenR ?_
  refine GC.ret2 rfl (Rv.cellA rfl T.ag43 T.sz43 (L := _) (i := 0) rfl (vs := [(.int .i64 0), (.int .i64 0), (.slice none 0 0)]) rfl rfl) (Rv.tmp rfl) (fun wN HN => ?_)
  exact HN.ret () trivial rfl (List.nil_sublist _) rfl

set_option maxRecDepth 100000 in
set_option maxHeartbeats 1000000 in
theorem blur_kern (W H : Int) (ad : Option Addr) (n cap : Nat) (k kd r : Int) (w : World) (hc : chk W H n = 0) (hb : ¬ (0 ≤ r ∧ r ≤ 7 ∧ (kd = 1 ∨ kd = 2))) :
    Calls Try.prog 21 #[(.agg #[(.int .i64 W), (.int .i64 H), (.slice ad n cap)]), (.int .i64 kd), (.int .i64 r), (.int .i64 k)] w (Ret w (fun _ : Unit => True) (fun _ => .tuple #[(.agg #[(.int .i64 0), (.int .i64 0), (.slice none 0 0)]), .int .i64 110]) (fun _ => [])) := by
  refine enter (M := None) (L := []) (n := 45) (l := [(0, (.agg #[(.int .i64 W), (.int .i64 H), (.slice ad n cap)])), (1, (.int .i64 kd)), (2, (.int .i64 r)), (3, (.int .i64 k))]) Try.func21 rfl rfl (Args.cons rfl (Args.cons rfl (Args.cons rfl (Args.cons rfl (Args.nil _))))) (Hp.start _ _) ?_
  refine GC.seq ?_
  refine GC.region ?_
  refine GL.step (Stp.box (cs := [(.int .i64 W), (.int .i64 H), (.slice ad n cap)]) rfl rfl (by decide)) (fun bq1 _ => ?_)
  refine GL.step (Stp.alloc T.zr43 (by decide)) (fun bq2 _ => ?_)
  refine GL.val (Ex.assign rfl) (by decide) ?_
  refine GL.nil ?_
  refine GE.thenN ?_
  refine GC.seq ?_
  refine GC.seq ?_
  refine GC.region ?_
  refine GL.val (v := (.agg #[(.int .i64 W), (.int .i64 H), (.slice ad n cap)])) (Ex.loadA rfl T.ag43 T.sz43 (i := 1) rfl (vs := [(.int .i64 W), (.int .i64 H), (.slice ad n cap)]) rfl rfl) (by decide) ?_
  refine GL.step (Stp.callR (vs := [(.agg #[(.int .i64 W), (.int .i64 H), (.slice ad n cap)])]) rfl rfl T.own46 (by decide) (fun wc hw => check W H ad n cap wc)) (fun xq3 hq4 => ?_)
  refine GL.val (Ex.assign rfl) (by decide) ?_
  refine GL.nil ?_
  refine GE.thenN ?_
  refine GC.seq ?_
  refine GC.region ?_
  refine GL.val (Ex.move rfl) (by decide) ?_
  refine GL.val (v := (.bool false)) (Ex.cast (Ex.neq rfl rfl) (congrArg Value.bool (decide_eq_false (by exact fun h => h hc)))) (by decide) ?_
  refine GL.nil ?_
  refine GE.thenN ?_
  refine GC.cond rfl (fun hq5 => by cases hq5) (fun _ => ?_)
  refine GC.skip ?_
  refine GE.thenN ?_
  refine GC.seq ?_
  refine GC.region ?_
  refine GL.val (Ex.move rfl) (by decide) ?_
  refine GL.val (Ex.move rfl) (by decide) ?_
  refine GL.step (Stp.callR (vs := [(.int .i64 kd), (.int .i64 r)]) rfl rfl T.own14 (by decide) (fun wc hw => weights_bad kd r wc hb)) (fun xq6 hq7 => ?_)
  refine GL.val (Ex.move rfl) (by decide) ?_
  refine GL.val (Ex.extract rfl rfl) (by decide) ?_
  refine GL.val (Ex.extract rfl rfl) (by decide) ?_
  refine GL.val (Ex.assign rfl) (by decide) ?_
  refine GL.val (Ex.assign rfl) (by decide) ?_
  refine GL.nil ?_
  refine GE.thenN ?_
  refine GC.seq ?_
  refine GC.seq ?_
  refine GC.region ?_
  refine GL.val (Ex.move rfl) (by decide) ?_
  refine GL.val (v := (.bool true)) (Ex.cast (Ex.neq rfl rfl) rfl) (by decide) ?_
  refine GL.nil ?_
  refine GE.thenN ?_
  refine GC.cond rfl (fun _ => ?_) (fun hq8 => by cases hq8)
  refine GC.seq ?_
  refine GC.region ?_
  refine GL.val (v := (.agg #[(.int .i64 0), (.int .i64 0), (.slice none 0 0)])) (Ex.build (vs := []) rfl (by first | rfl | kernel_rfl)) (by decide) ?_
  refine GL.val (Ex.move rfl) (by decide) ?_
  refine GL.step (Stp.st0 (cs' := [(.int .i64 0), (.int .i64 0), (.slice none 0 0)]) rfl rfl rfl T.sz43 rfl rfl rfl) (fun _ _ => ?_)
  refine GL.val (Ex.assign rfl) (by decide) ?_
  refine GL.nil ?_
  refine GE.thenN ?_
  refine GC.ret ?_
  refine GE.thenR ?_
  refine GC.ret2 rfl (Rv.cellA rfl T.ag43 T.sz43 (L := _) (i := 0) rfl (vs := [(.int .i64 0), (.int .i64 0), (.slice none 0 0)]) rfl rfl) (Rv.tmp rfl) (fun wN HN => ?_)
  exact HN.ret () trivial rfl (List.nil_sublist _) rfl

set_option maxRecDepth 100000 in
set_option maxHeartbeats 1000000 in
theorem blur_k (W H : Int) (ad : Option Addr) (n cap : Nat) (k kd : Int) (r : Nat) (w : World) (hc : chk W H n = 0) (hk : (bord k 1 0).2 ≠ 0) (hkd : kd = 1 ∨ kd = 2) (hrr : r ≤ 7) :
    Calls Try.prog 21 #[(.agg #[(.int .i64 W), (.int .i64 H), (.slice ad n cap)]), (.int .i64 kd), (.int .i64 (((r : Nat) : Int))), (.int .i64 k)] w (Ret w (fun _ : Unit => True) (fun _ => .tuple #[(.agg #[(.int .i64 0), (.int .i64 0), (.slice none 0 0)]), .int .i64 ((bord k 1 0).2)]) (fun _ => [])) := by
  refine enter (M := None) (L := []) (n := 45) (l := [(0, (.agg #[(.int .i64 W), (.int .i64 H), (.slice ad n cap)])), (1, (.int .i64 kd)), (2, (.int .i64 (((r : Nat) : Int)))), (3, (.int .i64 k))]) Try.func21 rfl rfl (Args.cons rfl (Args.cons rfl (Args.cons rfl (Args.cons rfl (Args.nil _))))) (Hp.start _ _) ?_
  refine GC.seq ?_
  refine GC.region ?_
  refine GL.step (Stp.box (cs := [(.int .i64 W), (.int .i64 H), (.slice ad n cap)]) rfl rfl (by decide)) (fun bq1 _ => ?_)
  refine GL.step (Stp.alloc T.zr43 (by decide)) (fun bq2 _ => ?_)
  refine GL.val (Ex.assign rfl) (by decide) ?_
  refine GL.nil ?_
  refine GE.thenN ?_
  refine GC.seq ?_
  refine GC.seq ?_
  refine GC.region ?_
  refine GL.val (v := (.agg #[(.int .i64 W), (.int .i64 H), (.slice ad n cap)])) (Ex.loadA rfl T.ag43 T.sz43 (i := 1) rfl (vs := [(.int .i64 W), (.int .i64 H), (.slice ad n cap)]) rfl rfl) (by decide) ?_
  refine GL.step (Stp.callR (vs := [(.agg #[(.int .i64 W), (.int .i64 H), (.slice ad n cap)])]) rfl rfl T.own46 (by decide) (fun wc hw => check W H ad n cap wc)) (fun xq3 hq4 => ?_)
  refine GL.val (Ex.assign rfl) (by decide) ?_
  refine GL.nil ?_
  refine GE.thenN ?_
  refine GC.seq ?_
  refine GC.region ?_
  refine GL.val (Ex.move rfl) (by decide) ?_
  refine GL.val (v := (.bool false)) (Ex.cast (Ex.neq rfl rfl) (congrArg Value.bool (decide_eq_false (by exact fun h => h hc)))) (by decide) ?_
  refine GL.nil ?_
  refine GE.thenN ?_
  refine GC.cond rfl (fun hq5 => by cases hq5) (fun _ => ?_)
  refine GC.skip ?_
  refine GE.thenN ?_
  refine GC.seq ?_
  refine GC.region ?_
  refine GL.val (Ex.move rfl) (by decide) ?_
  refine GL.val (Ex.move rfl) (by decide) ?_
  refine GL.step (Stp.callR (vs := [(.int .i64 kd), (.int .i64 (((r : Nat) : Int)))]) rfl rfl T.own14 (by decide) (fun wc hw => weights_any kd r wc hrr hkd)) (fun xq6 hq7 => ?_)
  refine GL.val (Ex.move rfl) (by decide) ?_
  refine GL.val (Ex.extract rfl rfl) (by decide) ?_
  refine GL.val (Ex.extract rfl rfl) (by decide) ?_
  refine GL.val (Ex.assign rfl) (by decide) ?_
  refine GL.val (Ex.assign rfl) (by decide) ?_
  refine GL.nil ?_
  refine GE.thenN ?_
  refine GC.seq ?_
  refine GC.seq ?_
  refine GC.region ?_
  refine GL.val (Ex.move rfl) (by decide) ?_
  refine GL.val (v := (.bool false)) (Ex.cast (Ex.neq rfl rfl) rfl) (by decide) ?_
  refine GL.nil ?_
  refine GE.thenN ?_
  refine GC.cond rfl (fun hq8 => by cases hq8) (fun _ => ?_)
  refine GC.skip ?_
  refine GE.thenN ?_
  refine GC.seq ?_
  refine GC.seq ?_
  refine GC.region ?_
  refine GL.val (Ex.move rfl) (by decide) ?_
  refine GL.step (Stp.callR (vs := [(.int .i64 k)]) rfl rfl T.own47 (by decide) (fun wc hw => borders_p k wc)) (fun xq9 hq10 => ?_)
  refine GL.val (Ex.assign rfl) (by decide) ?_
  refine GL.nil ?_
  refine GE.thenN ?_
  refine GC.seq ?_
  refine GC.region ?_
  refine GL.val (Ex.move rfl) (by decide) ?_
  refine GL.val (v := (.bool true)) (Ex.cast (Ex.neq rfl rfl) (congrArg Value.bool (decide_eq_true (by exact hk)))) (by decide) ?_
  refine GL.nil ?_
  refine GE.thenN ?_
  refine GC.cond rfl (fun _ => ?_) (fun hq11 => by cases hq11)
  refine GC.seq ?_
  refine GC.region ?_
  refine GL.val (v := (.agg #[(.int .i64 0), (.int .i64 0), (.slice none 0 0)])) (Ex.build (vs := []) rfl (by first | rfl | kernel_rfl)) (by decide) ?_
  refine GL.val (Ex.move rfl) (by decide) ?_
  refine GL.step (Stp.st1 (cs' := [(.int .i64 0), (.int .i64 0), (.slice none 0 0)]) rfl rfl rfl T.sz43 rfl rfl rfl) (fun _ _ => ?_)
  refine GL.val (Ex.assign rfl) (by decide) ?_
  refine GL.nil ?_
  refine GE.thenN ?_
  refine GC.ret ?_
  refine GE.thenR ?_
  refine GC.ret2 rfl (Rv.cellA rfl T.ag43 T.sz43 (L := _) (i := 1) rfl (vs := [(.int .i64 0), (.int .i64 0), (.slice none 0 0)]) rfl rfl) (Rv.tmp rfl) (fun wN HN => ?_)
  exact HN.ret () trivial rfl (List.nil_sublist _) rfl

set_option maxRecDepth 100000 in
set_option maxHeartbeats 1000000 in
theorem ref_blur_bad_g (W H : Int) (ad : Option Addr) (n cap : Nat) (k kd : Int) (r : Nat) (w : World) (hc : chk W H n ≠ 0) (hkd : kd = 1 ∨ kd = 2) (hrr : r ≤ 7) :
    Calls Try.prog 20 #[(.agg #[(.int .i64 W), (.int .i64 H), (.slice ad n cap)]), (.int .i64 kd), (.int .i64 (((r : Nat) : Int))), (.int .i64 k)] w (Ret w (fun _ : Unit => True) (fun _ => .tuple #[(.agg #[(.int .i64 0), (.int .i64 0), (.slice none 0 0)]), .int .i64 (chk W H n)]) (fun _ => [])) := by
  refine enter (M := None) (L := []) (n := 129) (l := [(0, (.agg #[(.int .i64 W), (.int .i64 H), (.slice ad n cap)])), (1, (.int .i64 kd)), (2, (.int .i64 (((r : Nat) : Int)))), (3, (.int .i64 k))]) Try.func20 rfl rfl (Args.cons rfl (Args.cons rfl (Args.cons rfl (Args.cons rfl (Args.nil _))))) (Hp.start _ _) ?_
  refine GC.seq ?_
  refine GC.region ?_
  refine GL.step (Stp.box (cs := [(.int .i64 W), (.int .i64 H), (.slice ad n cap)]) rfl rfl (by decide)) (fun bq1 _ => ?_)
  refine GL.step (Stp.alloc T.zr43 (by decide)) (fun bq2 _ => ?_)
  refine GL.val (Ex.assign rfl) (by decide) ?_
  refine GL.nil ?_
  refine GE.thenN ?_
  refine GC.seq ?_
  refine GC.region ?_
  refine GL.val (Ex.move rfl) (by decide) ?_
  refine GL.val (Ex.move rfl) (by decide) ?_
  refine GL.step (Stp.callR (vs := [(.int .i64 kd), (.int .i64 (((r : Nat) : Int)))]) rfl rfl T.own13 (by decide) (fun wc hw => ref_weights_any kd r wc hrr hkd)) (fun xq3 hq4 => ?_)
  refine GL.val (Ex.move rfl) (by decide) ?_
  refine GL.val (Ex.extract rfl rfl) (by decide) ?_
  refine GL.val (Ex.extract rfl rfl) (by decide) ?_
  refine GL.val (Ex.assign rfl) (by decide) ?_
  refine GL.val (Ex.assign rfl) (by decide) ?_
  refine GL.nil ?_
  refine GE.thenN ?_
  refine GC.seq ?_
  refine GC.region ?_
  refine GL.val (v := (.agg #[(.int .i64 W), (.int .i64 H), (.slice ad n cap)])) (Ex.loadA rfl T.ag43 T.sz43 (i := 2) rfl (vs := [(.int .i64 W), (.int .i64 H), (.slice ad n cap)]) rfl rfl) (by decide) ?_
  refine GL.val (Ex.move rfl) (by decide) ?_
  refine GL.val (Ex.move rfl) (by decide) ?_
  refine GL.step (Stp.callR (σ := Unit) (p := fun rz => True) (v := fun rz => (.int .i64 ((chk W H n)))) (N := fun rz => []) (vs := [(.agg #[(.int .i64 W), (.int .i64 H), (.slice ad n cap)]), (.int .i64 0), (.int .i64 k)]) rfl rfl T.own41 (by decide) (fun wc hw => (by have h := wrong_r W H ad n cap 0 k wc; rw [if_pos hc] at h; exact h))) (fun xq5 hq6 => ?_)
  refine GL.val (Ex.assign rfl) (by decide) ?_
  refine GL.nil ?_
  refine GE.thenN ?_
  refine GC.seq ?_
  refine GC.seq ?_
  refine GC.region ?_
  refine GL.val (Ex.move rfl) (by decide) ?_
  refine GL.val (v := (.bool true)) (Ex.cast (Ex.neq rfl rfl) (congrArg Value.bool (decide_eq_true (by exact hc)))) (by decide) ?_
  refine GL.nil ?_
  refine GE.thenN ?_
  refine GC.cond rfl (fun _ => ?_) (fun hq7 => by cases hq7)
  refine GC.seq ?_
  refine GC.region ?_
  refine GL.val (v := (.agg #[(.int .i64 0), (.int .i64 0), (.slice none 0 0)])) (Ex.build (vs := []) rfl (by first | rfl | kernel_rfl)) (by decide) ?_
  refine GL.val (Ex.move rfl) (by decide) ?_
  refine GL.step (Stp.st1 (cs' := [(.int .i64 0), (.int .i64 0), (.slice none 0 0)]) rfl rfl rfl T.sz43 rfl rfl rfl) (fun _ _ => ?_)
  refine GL.val (Ex.assign rfl) (by decide) ?_
  refine GL.nil ?_
  refine GE.thenN ?_
  refine GC.ret ?_
  refine GE.thenR ?_
  refine GC.ret2 rfl (Rv.cellA rfl T.ag43 T.sz43 (L := _) (i := 1) rfl (vs := [(.int .i64 0), (.int .i64 0), (.slice none 0 0)]) rfl rfl) (Rv.tmp rfl) (fun wN HN => ?_)
  exact HN.ret () trivial rfl (List.nil_sublist _) rfl

set_option maxRecDepth 100000 in
set_option maxHeartbeats 1000000 in
theorem ref_blur_bad_b (W H : Int) (ad : Option Addr) (n cap : Nat) (k kd r : Int) (w : World) (hc : chk W H n ≠ 0) (hb : ¬ (0 ≤ r ∧ r ≤ 7 ∧ (kd = 1 ∨ kd = 2))) :
    Calls Try.prog 20 #[(.agg #[(.int .i64 W), (.int .i64 H), (.slice ad n cap)]), (.int .i64 kd), (.int .i64 r), (.int .i64 k)] w (Ret w (fun _ : Unit => True) (fun _ => .tuple #[(.agg #[(.int .i64 0), (.int .i64 0), (.slice none 0 0)]), .int .i64 (chk W H n)]) (fun _ => [])) := by
  refine enter (M := None) (L := []) (n := 129) (l := [(0, (.agg #[(.int .i64 W), (.int .i64 H), (.slice ad n cap)])), (1, (.int .i64 kd)), (2, (.int .i64 r)), (3, (.int .i64 k))]) Try.func20 rfl rfl (Args.cons rfl (Args.cons rfl (Args.cons rfl (Args.cons rfl (Args.nil _))))) (Hp.start _ _) ?_
  refine GC.seq ?_
  refine GC.region ?_
  refine GL.step (Stp.box (cs := [(.int .i64 W), (.int .i64 H), (.slice ad n cap)]) rfl rfl (by decide)) (fun bq1 _ => ?_)
  refine GL.step (Stp.alloc T.zr43 (by decide)) (fun bq2 _ => ?_)
  refine GL.val (Ex.assign rfl) (by decide) ?_
  refine GL.nil ?_
  refine GE.thenN ?_
  refine GC.seq ?_
  refine GC.region ?_
  refine GL.val (Ex.move rfl) (by decide) ?_
  refine GL.val (Ex.move rfl) (by decide) ?_
  refine GL.step (Stp.callR (vs := [(.int .i64 kd), (.int .i64 r)]) rfl rfl T.own13 (by decide) (fun wc hw => ref_weights_bad kd r wc hb)) (fun xq3 hq4 => ?_)
  refine GL.val (Ex.move rfl) (by decide) ?_
  refine GL.val (Ex.extract rfl rfl) (by decide) ?_
  refine GL.val (Ex.extract rfl rfl) (by decide) ?_
  refine GL.val (Ex.assign rfl) (by decide) ?_
  refine GL.val (Ex.assign rfl) (by decide) ?_
  refine GL.nil ?_
  refine GE.thenN ?_
  refine GC.seq ?_
  refine GC.region ?_
  refine GL.val (v := (.agg #[(.int .i64 W), (.int .i64 H), (.slice ad n cap)])) (Ex.loadA rfl T.ag43 T.sz43 (i := 1) rfl (vs := [(.int .i64 W), (.int .i64 H), (.slice ad n cap)]) rfl rfl) (by decide) ?_
  refine GL.val (Ex.move rfl) (by decide) ?_
  refine GL.val (Ex.move rfl) (by decide) ?_
  refine GL.step (Stp.callR (σ := Unit) (p := fun rz => True) (v := fun rz => (.int .i64 ((chk W H n)))) (N := fun rz => []) (vs := [(.agg #[(.int .i64 W), (.int .i64 H), (.slice ad n cap)]), (.int .i64 110), (.int .i64 k)]) rfl rfl T.own41 (by decide) (fun wc hw => (by have h := wrong_r W H ad n cap 110 k wc; rw [if_pos hc] at h; exact h))) (fun xq5 hq6 => ?_)
  refine GL.val (Ex.assign rfl) (by decide) ?_
  refine GL.nil ?_
  refine GE.thenN ?_
  refine GC.seq ?_
  refine GC.seq ?_
  refine GC.region ?_
  refine GL.val (Ex.move rfl) (by decide) ?_
  refine GL.val (v := (.bool true)) (Ex.cast (Ex.neq rfl rfl) (congrArg Value.bool (decide_eq_true (by exact hc)))) (by decide) ?_
  refine GL.nil ?_
  refine GE.thenN ?_
  refine GC.cond rfl (fun _ => ?_) (fun hq7 => by cases hq7)
  refine GC.seq ?_
  refine GC.region ?_
  refine GL.val (v := (.agg #[(.int .i64 0), (.int .i64 0), (.slice none 0 0)])) (Ex.build (vs := []) rfl (by first | rfl | kernel_rfl)) (by decide) ?_
  refine GL.val (Ex.move rfl) (by decide) ?_
  refine GL.step (Stp.st0 (cs' := [(.int .i64 0), (.int .i64 0), (.slice none 0 0)]) rfl rfl rfl T.sz43 rfl rfl rfl) (fun _ _ => ?_)
  refine GL.val (Ex.assign rfl) (by decide) ?_
  refine GL.nil ?_
  refine GE.thenN ?_
  refine GC.ret ?_
  refine GE.thenR ?_
  refine GC.ret2 rfl (Rv.cellA rfl T.ag43 T.sz43 (L := _) (i := 0) rfl (vs := [(.int .i64 0), (.int .i64 0), (.slice none 0 0)]) rfl rfl) (Rv.tmp rfl) (fun wN HN => ?_)
  exact HN.ret () trivial rfl (List.nil_sublist _) rfl

set_option maxRecDepth 100000 in
set_option maxHeartbeats 1000000 in
theorem ref_blur_kern (W H : Int) (ad : Option Addr) (n cap : Nat) (k kd r : Int) (w : World) (hc : chk W H n = 0) (hb : ¬ (0 ≤ r ∧ r ≤ 7 ∧ (kd = 1 ∨ kd = 2))) :
    Calls Try.prog 20 #[(.agg #[(.int .i64 W), (.int .i64 H), (.slice ad n cap)]), (.int .i64 kd), (.int .i64 r), (.int .i64 k)] w (Ret w (fun _ : Unit => True) (fun _ => .tuple #[(.agg #[(.int .i64 0), (.int .i64 0), (.slice none 0 0)]), .int .i64 110]) (fun _ => [])) := by
  refine enter (M := None) (L := []) (n := 129) (l := [(0, (.agg #[(.int .i64 W), (.int .i64 H), (.slice ad n cap)])), (1, (.int .i64 kd)), (2, (.int .i64 r)), (3, (.int .i64 k))]) Try.func20 rfl rfl (Args.cons rfl (Args.cons rfl (Args.cons rfl (Args.cons rfl (Args.nil _))))) (Hp.start _ _) ?_
  refine GC.seq ?_
  refine GC.region ?_
  refine GL.step (Stp.box (cs := [(.int .i64 W), (.int .i64 H), (.slice ad n cap)]) rfl rfl (by decide)) (fun bq1 _ => ?_)
  refine GL.step (Stp.alloc T.zr43 (by decide)) (fun bq2 _ => ?_)
  refine GL.val (Ex.assign rfl) (by decide) ?_
  refine GL.nil ?_
  refine GE.thenN ?_
  refine GC.seq ?_
  refine GC.region ?_
  refine GL.val (Ex.move rfl) (by decide) ?_
  refine GL.val (Ex.move rfl) (by decide) ?_
  refine GL.step (Stp.callR (vs := [(.int .i64 kd), (.int .i64 r)]) rfl rfl T.own13 (by decide) (fun wc hw => ref_weights_bad kd r wc hb)) (fun xq3 hq4 => ?_)
  refine GL.val (Ex.move rfl) (by decide) ?_
  refine GL.val (Ex.extract rfl rfl) (by decide) ?_
  refine GL.val (Ex.extract rfl rfl) (by decide) ?_
  refine GL.val (Ex.assign rfl) (by decide) ?_
  refine GL.val (Ex.assign rfl) (by decide) ?_
  refine GL.nil ?_
  refine GE.thenN ?_
  refine GC.seq ?_
  refine GC.region ?_
  refine GL.val (v := (.agg #[(.int .i64 W), (.int .i64 H), (.slice ad n cap)])) (Ex.loadA rfl T.ag43 T.sz43 (i := 1) rfl (vs := [(.int .i64 W), (.int .i64 H), (.slice ad n cap)]) rfl rfl) (by decide) ?_
  refine GL.val (Ex.move rfl) (by decide) ?_
  refine GL.val (Ex.move rfl) (by decide) ?_
  refine GL.step (Stp.callR (σ := Unit) (p := fun rz => True) (v := fun rz => (.int .i64 110)) (N := fun rz => []) (vs := [(.agg #[(.int .i64 W), (.int .i64 H), (.slice ad n cap)]), (.int .i64 110), (.int .i64 k)]) rfl rfl T.own41 (by decide) (fun wc hw => (by have h := wrong_r W H ad n cap 110 k wc; rw [if_neg (fun h => h hc), if_pos (by decide)] at h; exact h))) (fun xq5 hq6 => ?_)
  refine GL.val (Ex.assign rfl) (by decide) ?_
  refine GL.nil ?_
  refine GE.thenN ?_
  refine GC.seq ?_
  refine GC.seq ?_
  refine GC.region ?_
  refine GL.val (Ex.move rfl) (by decide) ?_
  refine GL.val (v := (.bool true)) (Ex.cast (Ex.neq rfl rfl) rfl) (by decide) ?_
  refine GL.nil ?_
  refine GE.thenN ?_
  refine GC.cond rfl (fun _ => ?_) (fun hq7 => by cases hq7)
  refine GC.seq ?_
  refine GC.region ?_
  refine GL.val (v := (.agg #[(.int .i64 0), (.int .i64 0), (.slice none 0 0)])) (Ex.build (vs := []) rfl (by first | rfl | kernel_rfl)) (by decide) ?_
  refine GL.val (Ex.move rfl) (by decide) ?_
  refine GL.step (Stp.st0 (cs' := [(.int .i64 0), (.int .i64 0), (.slice none 0 0)]) rfl rfl rfl T.sz43 rfl rfl rfl) (fun _ _ => ?_)
  refine GL.val (Ex.assign rfl) (by decide) ?_
  refine GL.nil ?_
  refine GE.thenN ?_
  refine GC.ret ?_
  refine GE.thenR ?_
  refine GC.ret2 rfl (Rv.cellA rfl T.ag43 T.sz43 (L := _) (i := 0) rfl (vs := [(.int .i64 0), (.int .i64 0), (.slice none 0 0)]) rfl rfl) (Rv.tmp rfl) (fun wN HN => ?_)
  exact HN.ret () trivial rfl (List.nil_sublist _) rfl

set_option maxRecDepth 100000 in
set_option maxHeartbeats 1000000 in
theorem ref_blur_k (W H : Int) (ad : Option Addr) (n cap : Nat) (k kd : Int) (r : Nat) (w : World) (hc : chk W H n = 0) (hk : (bord k 1 0).2 ≠ 0) (hkd : kd = 1 ∨ kd = 2) (hrr : r ≤ 7) :
    Calls Try.prog 20 #[(.agg #[(.int .i64 W), (.int .i64 H), (.slice ad n cap)]), (.int .i64 kd), (.int .i64 (((r : Nat) : Int))), (.int .i64 k)] w (Ret w (fun _ : Unit => True) (fun _ => .tuple #[(.agg #[(.int .i64 0), (.int .i64 0), (.slice none 0 0)]), .int .i64 ((bord k 1 0).2)]) (fun _ => [])) := by
  refine enter (M := None) (L := []) (n := 129) (l := [(0, (.agg #[(.int .i64 W), (.int .i64 H), (.slice ad n cap)])), (1, (.int .i64 kd)), (2, (.int .i64 (((r : Nat) : Int)))), (3, (.int .i64 k))]) Try.func20 rfl rfl (Args.cons rfl (Args.cons rfl (Args.cons rfl (Args.cons rfl (Args.nil _))))) (Hp.start _ _) ?_
  refine GC.seq ?_
  refine GC.region ?_
  refine GL.step (Stp.box (cs := [(.int .i64 W), (.int .i64 H), (.slice ad n cap)]) rfl rfl (by decide)) (fun bq1 _ => ?_)
  refine GL.step (Stp.alloc T.zr43 (by decide)) (fun bq2 _ => ?_)
  refine GL.val (Ex.assign rfl) (by decide) ?_
  refine GL.nil ?_
  refine GE.thenN ?_
  refine GC.seq ?_
  refine GC.region ?_
  refine GL.val (Ex.move rfl) (by decide) ?_
  refine GL.val (Ex.move rfl) (by decide) ?_
  refine GL.step (Stp.callR (vs := [(.int .i64 kd), (.int .i64 (((r : Nat) : Int)))]) rfl rfl T.own13 (by decide) (fun wc hw => ref_weights_any kd r wc hrr hkd)) (fun xq3 hq4 => ?_)
  refine GL.val (Ex.move rfl) (by decide) ?_
  refine GL.val (Ex.extract rfl rfl) (by decide) ?_
  refine GL.val (Ex.extract rfl rfl) (by decide) ?_
  refine GL.val (Ex.assign rfl) (by decide) ?_
  refine GL.val (Ex.assign rfl) (by decide) ?_
  refine GL.nil ?_
  refine GE.thenN ?_
  refine GC.seq ?_
  refine GC.region ?_
  refine GL.val (v := (.agg #[(.int .i64 W), (.int .i64 H), (.slice ad n cap)])) (Ex.loadA rfl T.ag43 T.sz43 (i := 2) rfl (vs := [(.int .i64 W), (.int .i64 H), (.slice ad n cap)]) rfl rfl) (by decide) ?_
  refine GL.val (Ex.move rfl) (by decide) ?_
  refine GL.val (Ex.move rfl) (by decide) ?_
  refine GL.step (Stp.callR (σ := Unit) (p := fun rz => True) (v := fun rz => (.int .i64 ((bord k 1 0).2))) (N := fun rz => []) (vs := [(.agg #[(.int .i64 W), (.int .i64 H), (.slice ad n cap)]), (.int .i64 0), (.int .i64 k)]) rfl rfl T.own41 (by decide) (fun wc hw => (by have h := wrong_r W H ad n cap 0 k wc; rw [if_neg (fun h => h hc), if_neg (fun h => h rfl)] at h; exact h))) (fun xq5 hq6 => ?_)
  refine GL.val (Ex.assign rfl) (by decide) ?_
  refine GL.nil ?_
  refine GE.thenN ?_
  refine GC.seq ?_
  refine GC.seq ?_
  refine GC.region ?_
  refine GL.val (Ex.move rfl) (by decide) ?_
  refine GL.val (v := (.bool true)) (Ex.cast (Ex.neq rfl rfl) (congrArg Value.bool (decide_eq_true (by exact hk)))) (by decide) ?_
  refine GL.nil ?_
  refine GE.thenN ?_
  refine GC.cond rfl (fun _ => ?_) (fun hq7 => by cases hq7)
  refine GC.seq ?_
  refine GC.region ?_
  refine GL.val (v := (.agg #[(.int .i64 0), (.int .i64 0), (.slice none 0 0)])) (Ex.build (vs := []) rfl (by first | rfl | kernel_rfl)) (by decide) ?_
  refine GL.val (Ex.move rfl) (by decide) ?_
  refine GL.step (Stp.st1 (cs' := [(.int .i64 0), (.int .i64 0), (.slice none 0 0)]) rfl rfl rfl T.sz43 rfl rfl rfl) (fun _ _ => ?_)
  refine GL.val (Ex.assign rfl) (by decide) ?_
  refine GL.nil ?_
  refine GE.thenN ?_
  refine GC.ret ?_
  refine GE.thenR ?_
  refine GC.ret2 rfl (Rv.cellA rfl T.ag43 T.sz43 (L := _) (i := 1) rfl (vs := [(.int .i64 0), (.int .i64 0), (.slice none 0 0)]) rfl rfl) (Rv.tmp rfl) (fun wN HN => ?_)
  exact HN.ret () trivial rfl (List.nil_sublist _) rfl

theorem ref_blur_bad (W H : Int) (ad : Option Addr) (n cap : Nat) (k kd r : Int) (w : World) (hc : chk W H n ≠ 0) : Calls Try.prog 20 #[(.agg #[(.int .i64 W), (.int .i64 H), (.slice ad n cap)]), (.int .i64 kd), (.int .i64 r), (.int .i64 k)] w (Ret w (fun _ : Unit => True) (fun _ => .tuple #[(.agg #[(.int .i64 0), (.int .i64 0), (.slice none 0 0)]), .int .i64 (chk W H n)]) (fun _ => [])) := by
  by_cases hb : 0 ≤ r ∧ r ≤ 7 ∧ (kd = 1 ∨ kd = 2)
  · obtain ⟨h1, h2, h3⟩ := hb
    obtain ⟨m, rfl⟩ := Int.eq_ofNat_of_zero_le h1
    exact ref_blur_bad_g W H ad n cap k kd m w hc h3 (by omega)
  · exact ref_blur_bad_b W H ad n cap k kd r w hc hb

set_option maxRecDepth 100000 in
set_option maxHeartbeats 1000000 in
theorem ref_blur (W H n cap b o : Nat) (k kd : Int) (r : Nat) (xs : List Int) (w : World) (hk : 1 ≤ k ∧ k ≤ 3) (hok : okP W H) (hn : n = W * H) (hx0 : xs.length = n) (hu : ∀ v ∈ xs, 0 ≤ v ∧ v < 4294967296) (hr : Rd w b o (xs.map u32)) (hkd : kd = 1 ∨ kd = 2) (hrr : r ≤ 7) :
    Calls Try.prog 20 #[(.agg #[(.int .i64 (((W : Nat) : Int))), (.int .i64 (((H : Nat) : Int))), (.slice (some ⟨b, o, none⟩) n cap)]), (.int .i64 kd), (.int .i64 (((r : Nat) : Int))), (.int .i64 k)] w (Ret w (fun _ : Nat => True) (fun p => .tuple #[(.agg #[(.int .i64 (((W : Nat) : Int))), (.int .i64 (((H : Nat) : Int))), (.slice (some ⟨p, 0, none⟩) (W * H) (W * H))]), .int .i64 0]) (fun p => [⟨p, (tab W (Bg.blr (Bg.gk kd r) r xs W H k) (W * H)).map u32, 63, true⟩])) := by
  have hW1 := hok.1
  have hH1 := hok.2.1
  have hW2 := hok.2.2.1
  have hH2 := hok.2.2.2.1
  have hA := hok.2.2.2.2
  refine enter (M := None) (L := []) (n := 129) (l := [(0, (.agg #[(.int .i64 (((W : Nat) : Int))), (.int .i64 (((H : Nat) : Int))), (.slice (some ⟨b, o, none⟩) n cap)])), (1, (.int .i64 kd)), (2, (.int .i64 (((r : Nat) : Int)))), (3, (.int .i64 k))]) Try.func20 rfl rfl (Args.cons rfl (Args.cons rfl (Args.cons rfl (Args.cons rfl (Args.nil _))))) (Hp.start _ _) ?_
  refine GC.seq ?_
  refine GC.region ?_
  refine GL.step (Stp.box (cs := [(.int .i64 (((W : Nat) : Int))), (.int .i64 (((H : Nat) : Int))), (.slice (some ⟨b, o, none⟩) n cap)]) rfl rfl (by decide)) (fun bq1 _ => ?_)
  refine GL.step (Stp.alloc T.zr43 (by decide)) (fun bq2 _ => ?_)
  refine GL.val (Ex.assign rfl) (by decide) ?_
  refine GL.nil ?_
  refine GE.thenN ?_
  refine GC.seq ?_
  refine GC.region ?_
  refine GL.val (Ex.move rfl) (by decide) ?_
  refine GL.val (Ex.move rfl) (by decide) ?_
  refine GL.step (Stp.callR (vs := [(.int .i64 kd), (.int .i64 (((r : Nat) : Int)))]) rfl rfl T.own13 (by decide) (fun wc hw => ref_weights_any kd r wc hrr hkd)) (fun xq3 hq4 => ?_)
  refine GL.val (Ex.move rfl) (by decide) ?_
  refine GL.val (Ex.extract rfl rfl) (by decide) ?_
  refine GL.val (Ex.extract rfl rfl) (by decide) ?_
  refine GL.val (Ex.assign rfl) (by decide) ?_
  refine GL.val (Ex.assign rfl) (by decide) ?_
  refine GL.nil ?_
  refine GE.thenN ?_
  refine GC.seq ?_
  refine GC.region ?_
  refine GL.val (v := (.agg #[(.int .i64 (((W : Nat) : Int))), (.int .i64 (((H : Nat) : Int))), (.slice (some ⟨b, o, none⟩) n cap)])) (Ex.loadA rfl T.ag43 T.sz43 (i := 2) rfl (vs := [(.int .i64 (((W : Nat) : Int))), (.int .i64 (((H : Nat) : Int))), (.slice (some ⟨b, o, none⟩) n cap)]) rfl rfl) (by decide) ?_
  refine GL.val (Ex.move rfl) (by decide) ?_
  refine GL.val (Ex.move rfl) (by decide) ?_
  refine GL.step (Stp.callR (σ := Unit) (p := fun rz => True) (v := fun rz => (.int .i64 0)) (N := fun rz => []) (vs := [(.agg #[(.int .i64 (((W : Nat) : Int))), (.int .i64 (((H : Nat) : Int))), (.slice (some ⟨b, o, none⟩) n cap)]), (.int .i64 0), (.int .i64 k)]) rfl rfl T.own41 (by decide) (fun wc hw => (by have h := wrong_r (((W : Nat) : Int)) (((H : Nat) : Int)) (some ⟨b, o, none⟩) n cap 0 k wc; rw [if_neg (fun h => h (by rw [hn]; exact chk_ok hok)), if_neg (fun h => h rfl), (bord_ok (i := 0) hk.1 hk.2 (show (1 : Int) ≤ 1 by decide) (by decide)).1] at h; exact h))) (fun xq5 hq6 => ?_)
  refine GL.val (Ex.assign rfl) (by decide) ?_
  refine GL.nil ?_
  refine GE.thenN ?_
  refine GC.seq ?_
  refine GC.seq ?_
  refine GC.region ?_
  refine GL.val (Ex.move rfl) (by decide) ?_
  refine GL.val (v := (.bool false)) (Ex.cast (Ex.neq rfl rfl) rfl) (by decide) ?_
  refine GL.nil ?_
  refine GE.thenN ?_
  refine GC.cond rfl (fun hq7 => by cases hq7) (fun _ => ?_)
  refine GC.skip ?_
  refine GE.thenN ?_
  refine GC.seq ?_
  refine GC.region ?_
  refine GL.val (Ex.move rfl) (by decide) ?_
  refine GL.val (v := (.int .i64 (((2 * r + 1) : Int)))) (Ex.len rfl Try.underlying28) (by decide) ?_
  refine GL.step (Stp.makeSlice (a1 := 2 * r + 1) (c := 2 * r + 1) rfl rfl Try.underlying41 T.zr63 T.sz63 T.by63 rfl (Nat.le_refl _) (by omega) (by omega) (by decide)) (fun bq8 _ => ?_)
  rw [madeOne, ← Bg.rep_u32]
  refine GL.val (Ex.assign rfl) (by decide) ?_
  refine GL.nil ?_
  refine GE.thenN ?_
  refine GC.seq ?_
  refine GC.join (σ := Nat × Nat × Nat × Nat) (fun j => True) (fun j => [(0, (.agg #[(.int .i64 (((W : Nat) : Int))), (.int .i64 (((H : Nat) : Int))), (.slice (some ⟨b, o, none⟩) n cap)])), (1, (.int .i64 kd)), (2, (.int .i64 (((r : Nat) : Int)))), (3, (.int .i64 k)), (4, (.pointer (some ⟨bq1, 0, none⟩))), (8, (.pointer (some ⟨bq2, 0, none⟩))), (9, (.int .i64 0)), (10, (.slice (some ⟨xq3.1, 0, none⟩) (2 * r + 1) xq3.2.1)), (11, (.int .i64 0)), (12, (.slice (some ⟨bq8, 0, none⟩) (2 * r + 1) (2 * r + 1))), (13, (.pointer (some ⟨j.1, 0, none⟩))), (14, (.pointer (some ⟨j.2.2.1, 0, none⟩))), (19, (.tuple #[(.slice (some ⟨xq3.1, 0, none⟩) (2 * r + 1) xq3.2.1), (.int .i64 0)])), (20, (.int .i64 kd)), (21, (.int .i64 (((r : Nat) : Int)))), (22, (.tuple #[(.slice (some ⟨xq3.1, 0, none⟩) (2 * r + 1) xq3.2.1), (.int .i64 0)])), (23, (.slice (some ⟨xq3.1, 0, none⟩) (2 * r + 1) xq3.2.1)), (24, (.int .i64 0)), (25, (.agg #[(.int .i64 (((W : Nat) : Int))), (.int .i64 (((H : Nat) : Int))), (.slice (some ⟨b, o, none⟩) n cap)])), (26, (.int .i64 0)), (27, (.int .i64 k)), (28, (.int .i64 0)), (29, (.int .i64 0)), (30, (.bool false)), (33, (.slice (some ⟨xq3.1, 0, none⟩) (2 * r + 1) xq3.2.1)), (34, (.int .i64 (((2 * r + 1) : Int)))), (35, (.slice (some ⟨bq8, 0, none⟩) (2 * r + 1) (2 * r + 1)))]) (fun j => [⟨j.1, [(.int .i64 (((W : Nat) : Int))), (.int .i64 (((H : Nat) : Int))), (.slice (some ⟨j.2.1, 0, none⟩) (W * H) (W * H))], 43, true⟩, ⟨j.2.1, List.replicate (W * H) (.int .u32 0), 63, true⟩, ⟨j.2.2.1, [(.int .i64 (((W : Nat) : Int))), (.int .i64 (((H : Nat) : Int))), (.slice (some ⟨j.2.2.2, 0, none⟩) (W * H) (W * H))], 43, true⟩, ⟨j.2.2.2, List.replicate (W * H) (.int .u32 0), 63, true⟩, ⟨bq8, (List.replicate (2 * r + 1) (0 : Int)).map u32, 63, true⟩, ⟨xq3.1, wl (2 * r + 1) (Bg.gk kd r) ++ xq3.2.2, 3, true⟩, ⟨bq2, [(.int .i64 0), (.int .i64 0), (.slice none 0 0)], 43, true⟩, ⟨bq1, [(.int .i64 (((W : Nat) : Int))), (.int .i64 (((H : Nat) : Int))), (.slice (some ⟨b, o, none⟩) n cap)], 43, true⟩]) ?_ (fun j59 hj => ?_)
  · refine GC.drawP [⟨bq8, (List.replicate (2 * r + 1) (0 : Int)).map u32, 63, true⟩, ⟨xq3.1, wl (2 * r + 1) (Bg.gk kd r) ++ xq3.2.2, 3, true⟩, ⟨bq2, [(.int .i64 0), (.int .i64 0), (.slice none 0 0)], 43, true⟩, ⟨bq1, [(.int .i64 (((W : Nat) : Int))), (.int .i64 (((H : Nat) : Int))), (.slice (some ⟨b, o, none⟩) n cap)], 43, true⟩] T.mixed (by kernel_rfl) (by kernel_rfl) (fuel := 13) rfl rfl ?_
    refine GH.take 0 (v := (.pointer (some ⟨bq1, 0, none⟩))) rfl (by kernel_rfl) (by kernel_rfl) (by kernel_rfl) (fun _ _ _ h => h) (Ex.cast (Ex.fieldAddr rfl Try.underlying43 rfl T.sz3 (by decide)) rfl) (ulC (ulC (ulC (ulC ulN)))) (by decide) ?_
    refine GH.take 1 (v := (.int .i64 (((W : Nat) : Int)))) rfl (by kernel_rfl) (by kernel_rfl) (by kernel_rfl) (fun _ _ _ h => h) (Ex.load rfl T.ag3 (i := 3) rfl rfl) (ulC (ulC (ulC (ulC ulN)))) (by decide) ?_
    refine GH.take 2 (v := (.pointer (some ⟨bq1, 1, none⟩))) rfl (by kernel_rfl) (by kernel_rfl) (by kernel_rfl) (fun _ _ _ h => h) (Ex.cast (Ex.fieldAddr rfl Try.underlying43 rfl T.sz3 (by decide)) rfl) (ulC (ulC (ulC (ulC ulN)))) (by decide) ?_
    refine GH.take 3 (v := (.int .i64 (((H : Nat) : Int)))) rfl (by kernel_rfl) (by kernel_rfl) (by kernel_rfl) (fun _ _ _ h => h) (Ex.load rfl T.ag3 (i := 3) rfl rfl) (ulC (ulC (ulC (ulC ulN)))) (by decide) ?_
    refine GH.take 5 (v := (.pointer (some ⟨bq1, 0, none⟩))) rfl (by kernel_rfl) (by kernel_rfl) (by kernel_rfl) (fun _ _ _ h => h) (Ex.cast (Ex.fieldAddr rfl Try.underlying43 rfl T.sz3 (by decide)) rfl) (ulC (ulC (ulC (ulC ulN)))) (by decide) ?_
    refine GH.take 6 (v := (.int .i64 (((W : Nat) : Int)))) rfl (by kernel_rfl) (by kernel_rfl) (by kernel_rfl) (fun _ _ _ h => h) (Ex.load rfl T.ag3 (i := 3) rfl rfl) (ulC (ulC (ulC (ulC ulN)))) (by decide) ?_
    refine GH.take 7 (v := (.pointer (some ⟨bq1, 1, none⟩))) rfl (by kernel_rfl) (by kernel_rfl) (by kernel_rfl) (fun _ _ _ h => h) (Ex.cast (Ex.fieldAddr rfl Try.underlying43 rfl T.sz3 (by decide)) rfl) (ulC (ulC (ulC (ulC ulN)))) (by decide) ?_
    refine GH.take 8 (v := (.int .i64 (((H : Nat) : Int)))) rfl (by kernel_rfl) (by kernel_rfl) (by kernel_rfl) (fun _ _ _ h => h) (Ex.load rfl T.ag3 (i := 3) rfl rfl) (ulC (ulC (ulC (ulC ulN)))) (by decide) ?_
    refine GH.many (rs := [4, 10, 11]) (by kernel_rfl) (by simp) ?_
    refine GHs.cons rfl (Stp.callR (vs := [(.int .i64 (((W : Nat) : Int))), (.int .i64 (((H : Nat) : Int)))]) rfl rfl T.own42 (by decide) (fun wc hw => ref_blank W H wc (by first | omega | (rw [Nat.mul_comm]; omega)))) (fun _ => (ulS (ulC (ulC (ulC (ulC ulN)))))) (fun xq60 hq61 => ?_) ?_
    · refine GH.many (rs := [9, 10, 11]) (by kernel_rfl) (by simp) ?_
      refine GHs.cons rfl (Stp.callR (vs := [(.int .i64 (((W : Nat) : Int))), (.int .i64 (((H : Nat) : Int)))]) rfl rfl T.own42 (by decide) (fun wc hw => ref_blank W H wc (by first | omega | (rw [Nat.mul_comm]; omega)))) (fun _ => (ulS (ulS (ulC (ulC (ulC (ulC ulN))))))) (fun xq62 hq63 => ?_) ?_
      · refine GH.many (rs := [10, 11]) (by kernel_rfl) (by simp) ?_
        refine GHs.cons rfl (Stp.alloc T.zr43 (by decide)) (fun _ => (ulS (ulS (ulS (ulC (ulC (ulC (ulC ulN)))))))) (fun bq64 _ => ?_) ?_
        · refine GH.one 11 rfl (by kernel_rfl) (Stp.alloc T.zr43 (by decide)) (fun _ => (ulS (ulS (ulS (ulS (ulC (ulC (ulC (ulC ulN))))))))) (fun bq65 _ => ?_)
          refine GH.one 12 rfl (by kernel_rfl) (Stp.st1 (cs' := [(.int .i64 (((W : Nat) : Int))), (.int .i64 (((H : Nat) : Int))), (.slice (some ⟨xq60, 0, none⟩) (W * H) (W * H))]) rfl rfl rfl T.sz43 rfl rfl rfl) (fun _ => (ulS (ulS (ulS (ulS (ulC (ulC (ulC (ulC ulN))))))))) (fun _ _ => ?_)
          refine GH.done (by kernel_rfl) ?_
          refine GE.thenN ?_
          refine GE.tail rfl (Stp.st0 (cs' := [(.int .i64 (((W : Nat) : Int))), (.int .i64 (((H : Nat) : Int))), (.slice (some ⟨xq62, 0, none⟩) (W * H) (W * H))]) rfl rfl rfl T.sz43 rfl rfl rfl) (fun _ _ => ?_)
          refine GE.thenN ?_
          exact St.mk ((bq64, xq60, bq65, xq62)) trivial (idx := [1, 3, 0, 2, 4, 5, 6, 7]) ((sub_cons rfl ((sub_cons rfl ((sub_cons rfl ((sub_cons rfl ((sub_cons rfl ((sub_cons rfl ((sub_cons rfl ((sub_cons rfl ((sub_cons rfl ((sub_cons rfl ((sub_cons rfl ((sub_cons rfl ((sub_cons rfl ((sub_cons rfl ((sub_cons rfl ((sub_cons rfl ((sub_cons rfl ((sub_cons rfl ((sub_cons rfl ((sub_cons rfl ((sub_cons rfl ((sub_cons rfl ((sub_cons rfl ((sub_cons rfl ((sub_cons rfl ((sub_cons rfl ((sub_cons rfl ((sub_nil _)))))))))))))))))))))))))))))))))))))))))))))))))))))))) (by decide) rfl
        refine GHs.cons rfl (Stp.alloc T.zr43 (by decide)) (fun _ => (ulS (ulS (ulS (ulC (ulC (ulC (ulC ulN)))))))) (fun bq66 _ => ?_) ?_
        · refine GH.one 10 rfl (by kernel_rfl) (Stp.alloc T.zr43 (by decide)) (fun _ => (ulS (ulS (ulS (ulS (ulC (ulC (ulC (ulC ulN))))))))) (fun bq67 _ => ?_)
          refine GH.one 12 rfl (by kernel_rfl) (Stp.st0 (cs' := [(.int .i64 (((W : Nat) : Int))), (.int .i64 (((H : Nat) : Int))), (.slice (some ⟨xq60, 0, none⟩) (W * H) (W * H))]) rfl rfl rfl T.sz43 rfl rfl rfl) (fun _ => (ulS (ulS (ulS (ulS (ulC (ulC (ulC (ulC ulN))))))))) (fun _ _ => ?_)
          refine GH.done (by kernel_rfl) ?_
          refine GE.thenN ?_
          refine GE.tail rfl (Stp.st1 (cs' := [(.int .i64 (((W : Nat) : Int))), (.int .i64 (((H : Nat) : Int))), (.slice (some ⟨xq62, 0, none⟩) (W * H) (W * H))]) rfl rfl rfl T.sz43 rfl rfl rfl) (fun _ _ => ?_)
          refine GE.thenN ?_
          exact St.mk ((bq67, xq60, bq66, xq62)) trivial (idx := [0, 3, 1, 2, 4, 5, 6, 7]) ((sub_cons rfl ((sub_cons rfl ((sub_cons rfl ((sub_cons rfl ((sub_cons rfl ((sub_cons rfl ((sub_cons rfl ((sub_cons rfl ((sub_cons rfl ((sub_cons rfl ((sub_cons rfl ((sub_cons rfl ((sub_cons rfl ((sub_cons rfl ((sub_cons rfl ((sub_cons rfl ((sub_cons rfl ((sub_cons rfl ((sub_cons rfl ((sub_cons rfl ((sub_cons rfl ((sub_cons rfl ((sub_cons rfl ((sub_cons rfl ((sub_cons rfl ((sub_cons rfl ((sub_cons rfl ((sub_nil _)))))))))))))))))))))))))))))))))))))))))))))))))))))))) (by decide) rfl
        exact GHs.nil
      refine GHs.cons rfl (Stp.alloc T.zr43 (by decide)) (fun _ => (ulS (ulS (ulC (ulC (ulC (ulC ulN))))))) (fun bq68 _ => ?_) ?_
      · refine GH.many (rs := [9, 11]) (by kernel_rfl) (by simp) ?_
        refine GHs.cons rfl (Stp.callR (vs := [(.int .i64 (((W : Nat) : Int))), (.int .i64 (((H : Nat) : Int)))]) rfl rfl T.own42 (by decide) (fun wc hw => ref_blank W H wc (by first | omega | (rw [Nat.mul_comm]; omega)))) (fun _ => (ulS (ulS (ulS (ulC (ulC (ulC (ulC ulN)))))))) (fun xq69 hq70 => ?_) ?_
        · refine GH.one 11 rfl (by kernel_rfl) (Stp.alloc T.zr43 (by decide)) (fun _ => (ulS (ulS (ulS (ulS (ulC (ulC (ulC (ulC ulN))))))))) (fun bq71 _ => ?_)
          refine GH.one 12 rfl (by kernel_rfl) (Stp.st2 (cs' := [(.int .i64 (((W : Nat) : Int))), (.int .i64 (((H : Nat) : Int))), (.slice (some ⟨xq60, 0, none⟩) (W * H) (W * H))]) rfl rfl rfl T.sz43 rfl rfl rfl) (fun _ => (ulS (ulS (ulS (ulS (ulC (ulC (ulC (ulC ulN))))))))) (fun _ _ => ?_)
          refine GH.done (by kernel_rfl) ?_
          refine GE.thenN ?_
          refine GE.tail rfl (Stp.st0 (cs' := [(.int .i64 (((W : Nat) : Int))), (.int .i64 (((H : Nat) : Int))), (.slice (some ⟨xq69, 0, none⟩) (W * H) (W * H))]) rfl rfl rfl T.sz43 rfl rfl rfl) (fun _ _ => ?_)
          refine GE.thenN ?_
          exact St.mk ((bq68, xq60, bq71, xq69)) trivial (idx := [2, 3, 0, 1, 4, 5, 6, 7]) ((sub_cons rfl ((sub_cons rfl ((sub_cons rfl ((sub_cons rfl ((sub_cons rfl ((sub_cons rfl ((sub_cons rfl ((sub_cons rfl ((sub_cons rfl ((sub_cons rfl ((sub_cons rfl ((sub_cons rfl ((sub_cons rfl ((sub_cons rfl ((sub_cons rfl ((sub_cons rfl ((sub_cons rfl ((sub_cons rfl ((sub_cons rfl ((sub_cons rfl ((sub_cons rfl ((sub_cons rfl ((sub_cons rfl ((sub_cons rfl ((sub_cons rfl ((sub_cons rfl ((sub_cons rfl ((sub_nil _)))))))))))))))))))))))))))))))))))))))))))))))))))))))) (by decide) rfl
        refine GHs.cons rfl (Stp.alloc T.zr43 (by decide)) (fun _ => (ulS (ulS (ulS (ulC (ulC (ulC (ulC ulN)))))))) (fun bq72 _ => ?_) ?_
        · refine GH.one 9 rfl (by kernel_rfl) (Stp.callR (vs := [(.int .i64 (((W : Nat) : Int))), (.int .i64 (((H : Nat) : Int)))]) rfl rfl T.own42 (by decide) (fun wc hw => ref_blank W H wc (by first | omega | (rw [Nat.mul_comm]; omega)))) (fun _ => (ulS (ulS (ulS (ulS (ulC (ulC (ulC (ulC ulN))))))))) (fun xq73 hq74 => ?_)
          refine GH.one 12 rfl (by kernel_rfl) (Stp.st2 (cs' := [(.int .i64 (((W : Nat) : Int))), (.int .i64 (((H : Nat) : Int))), (.slice (some ⟨xq60, 0, none⟩) (W * H) (W * H))]) rfl rfl rfl T.sz43 rfl rfl rfl) (fun _ => (ulS (ulS (ulS (ulS (ulC (ulC (ulC (ulC ulN))))))))) (fun _ _ => ?_)
          refine GH.done (by kernel_rfl) ?_
          refine GE.thenN ?_
          refine GE.tail rfl (Stp.st1 (cs' := [(.int .i64 (((W : Nat) : Int))), (.int .i64 (((H : Nat) : Int))), (.slice (some ⟨xq73, 0, none⟩) (W * H) (W * H))]) rfl rfl rfl T.sz43 rfl rfl rfl) (fun _ _ => ?_)
          refine GE.thenN ?_
          exact St.mk ((bq68, xq60, bq72, xq73)) trivial (idx := [2, 3, 1, 0, 4, 5, 6, 7]) ((sub_cons rfl ((sub_cons rfl ((sub_cons rfl ((sub_cons rfl ((sub_cons rfl ((sub_cons rfl ((sub_cons rfl ((sub_cons rfl ((sub_cons rfl ((sub_cons rfl ((sub_cons rfl ((sub_cons rfl ((sub_cons rfl ((sub_cons rfl ((sub_cons rfl ((sub_cons rfl ((sub_cons rfl ((sub_cons rfl ((sub_cons rfl ((sub_cons rfl ((sub_cons rfl ((sub_cons rfl ((sub_cons rfl ((sub_cons rfl ((sub_cons rfl ((sub_cons rfl ((sub_cons rfl ((sub_nil _)))))))))))))))))))))))))))))))))))))))))))))))))))))))) (by decide) rfl
        exact GHs.nil
      refine GHs.cons rfl (Stp.alloc T.zr43 (by decide)) (fun _ => (ulS (ulS (ulC (ulC (ulC (ulC ulN))))))) (fun bq75 _ => ?_) ?_
      · refine GH.many (rs := [9, 10]) (by kernel_rfl) (by simp) ?_
        refine GHs.cons rfl (Stp.callR (vs := [(.int .i64 (((W : Nat) : Int))), (.int .i64 (((H : Nat) : Int)))]) rfl rfl T.own42 (by decide) (fun wc hw => ref_blank W H wc (by first | omega | (rw [Nat.mul_comm]; omega)))) (fun _ => (ulS (ulS (ulS (ulC (ulC (ulC (ulC ulN)))))))) (fun xq76 hq77 => ?_) ?_
        · refine GH.one 10 rfl (by kernel_rfl) (Stp.alloc T.zr43 (by decide)) (fun _ => (ulS (ulS (ulS (ulS (ulC (ulC (ulC (ulC ulN))))))))) (fun bq78 _ => ?_)
          refine GH.one 12 rfl (by kernel_rfl) (Stp.st0 (cs' := [(.int .i64 (((W : Nat) : Int))), (.int .i64 (((H : Nat) : Int))), (.slice (some ⟨xq60, 0, none⟩) (W * H) (W * H))]) rfl rfl rfl T.sz43 rfl rfl rfl) (fun _ => (ulS (ulS (ulS (ulS (ulC (ulC (ulC (ulC ulN))))))))) (fun _ _ => ?_)
          refine GH.done (by kernel_rfl) ?_
          refine GE.thenN ?_
          refine GE.tail rfl (Stp.st2 (cs' := [(.int .i64 (((W : Nat) : Int))), (.int .i64 (((H : Nat) : Int))), (.slice (some ⟨xq76, 0, none⟩) (W * H) (W * H))]) rfl rfl rfl T.sz43 rfl rfl rfl) (fun _ _ => ?_)
          refine GE.thenN ?_
          exact St.mk ((bq78, xq60, bq75, xq76)) trivial (idx := [0, 3, 2, 1, 4, 5, 6, 7]) ((sub_cons rfl ((sub_cons rfl ((sub_cons rfl ((sub_cons rfl ((sub_cons rfl ((sub_cons rfl ((sub_cons rfl ((sub_cons rfl ((sub_cons rfl ((sub_cons rfl ((sub_cons rfl ((sub_cons rfl ((sub_cons rfl ((sub_cons rfl ((sub_cons rfl ((sub_cons rfl ((sub_cons rfl ((sub_cons rfl ((sub_cons rfl ((sub_cons rfl ((sub_cons rfl ((sub_cons rfl ((sub_cons rfl ((sub_cons rfl ((sub_cons rfl ((sub_cons rfl ((sub_cons rfl ((sub_nil _)))))))))))))))))))))))))))))))))))))))))))))))))))))))) (by decide) rfl
        refine GHs.cons rfl (Stp.alloc T.zr43 (by decide)) (fun _ => (ulS (ulS (ulS (ulC (ulC (ulC (ulC ulN)))))))) (fun bq79 _ => ?_) ?_
        · refine GH.one 9 rfl (by kernel_rfl) (Stp.callR (vs := [(.int .i64 (((W : Nat) : Int))), (.int .i64 (((H : Nat) : Int)))]) rfl rfl T.own42 (by decide) (fun wc hw => ref_blank W H wc (by first | omega | (rw [Nat.mul_comm]; omega)))) (fun _ => (ulS (ulS (ulS (ulS (ulC (ulC (ulC (ulC ulN))))))))) (fun xq80 hq81 => ?_)
          refine GH.one 12 rfl (by kernel_rfl) (Stp.st1 (cs' := [(.int .i64 (((W : Nat) : Int))), (.int .i64 (((H : Nat) : Int))), (.slice (some ⟨xq60, 0, none⟩) (W * H) (W * H))]) rfl rfl rfl T.sz43 rfl rfl rfl) (fun _ => (ulS (ulS (ulS (ulS (ulC (ulC (ulC (ulC ulN))))))))) (fun _ _ => ?_)
          refine GH.done (by kernel_rfl) ?_
          refine GE.thenN ?_
          refine GE.tail rfl (Stp.st2 (cs' := [(.int .i64 (((W : Nat) : Int))), (.int .i64 (((H : Nat) : Int))), (.slice (some ⟨xq80, 0, none⟩) (W * H) (W * H))]) rfl rfl rfl T.sz43 rfl rfl rfl) (fun _ _ => ?_)
          refine GE.thenN ?_
          exact St.mk ((bq79, xq60, bq75, xq80)) trivial (idx := [1, 3, 2, 0, 4, 5, 6, 7]) ((sub_cons rfl ((sub_cons rfl ((sub_cons rfl ((sub_cons rfl ((sub_cons rfl ((sub_cons rfl ((sub_cons rfl ((sub_cons rfl ((sub_cons rfl ((sub_cons rfl ((sub_cons rfl ((sub_cons rfl ((sub_cons rfl ((sub_cons rfl ((sub_cons rfl ((sub_cons rfl ((sub_cons rfl ((sub_cons rfl ((sub_cons rfl ((sub_cons rfl ((sub_cons rfl ((sub_cons rfl ((sub_cons rfl ((sub_cons rfl ((sub_cons rfl ((sub_cons rfl ((sub_cons rfl ((sub_nil _)))))))))))))))))))))))))))))))))))))))))))))))))))))))) (by decide) rfl
        exact GHs.nil
      exact GHs.nil
    refine GHs.cons rfl (Stp.alloc T.zr43 (by decide)) (fun _ => (ulS (ulC (ulC (ulC (ulC ulN)))))) (fun bq82 _ => ?_) ?_
    · refine GH.many (rs := [4, 11]) (by kernel_rfl) (by simp) ?_
      refine GHs.cons rfl (Stp.callR (vs := [(.int .i64 (((W : Nat) : Int))), (.int .i64 (((H : Nat) : Int)))]) rfl rfl T.own42 (by decide) (fun wc hw => ref_blank W H wc (by first | omega | (rw [Nat.mul_comm]; omega)))) (fun _ => (ulS (ulS (ulC (ulC (ulC (ulC ulN))))))) (fun xq83 hq84 => ?_) ?_
      · refine GH.many (rs := [9, 11]) (by kernel_rfl) (by simp) ?_
        refine GHs.cons rfl (Stp.callR (vs := [(.int .i64 (((W : Nat) : Int))), (.int .i64 (((H : Nat) : Int)))]) rfl rfl T.own42 (by decide) (fun wc hw => ref_blank W H wc (by first | omega | (rw [Nat.mul_comm]; omega)))) (fun _ => (ulS (ulS (ulS (ulC (ulC (ulC (ulC ulN)))))))) (fun xq85 hq86 => ?_) ?_
        · refine GH.one 11 rfl (by kernel_rfl) (Stp.alloc T.zr43 (by decide)) (fun _ => (ulS (ulS (ulS (ulS (ulC (ulC (ulC (ulC ulN))))))))) (fun bq87 _ => ?_)
          refine GH.one 12 rfl (by kernel_rfl) (Stp.st3 (cs' := [(.int .i64 (((W : Nat) : Int))), (.int .i64 (((H : Nat) : Int))), (.slice (some ⟨xq83, 0, none⟩) (W * H) (W * H))]) rfl rfl rfl T.sz43 rfl rfl rfl) (fun _ => (ulS (ulS (ulS (ulS (ulC (ulC (ulC (ulC ulN))))))))) (fun _ _ => ?_)
          refine GH.done (by kernel_rfl) ?_
          refine GE.thenN ?_
          refine GE.tail rfl (Stp.st0 (cs' := [(.int .i64 (((W : Nat) : Int))), (.int .i64 (((H : Nat) : Int))), (.slice (some ⟨xq85, 0, none⟩) (W * H) (W * H))]) rfl rfl rfl T.sz43 rfl rfl rfl) (fun _ _ => ?_)
          refine GE.thenN ?_
          exact St.mk ((bq82, xq83, bq87, xq85)) trivial (idx := [3, 2, 0, 1, 4, 5, 6, 7]) ((sub_cons rfl ((sub_cons rfl ((sub_cons rfl ((sub_cons rfl ((sub_cons rfl ((sub_cons rfl ((sub_cons rfl ((sub_cons rfl ((sub_cons rfl ((sub_cons rfl ((sub_cons rfl ((sub_cons rfl ((sub_cons rfl ((sub_cons rfl ((sub_cons rfl ((sub_cons rfl ((sub_cons rfl ((sub_cons rfl ((sub_cons rfl ((sub_cons rfl ((sub_cons rfl ((sub_cons rfl ((sub_cons rfl ((sub_cons rfl ((sub_cons rfl ((sub_cons rfl ((sub_cons rfl ((sub_nil _)))))))))))))))))))))))))))))))))))))))))))))))))))))))) (by decide) rfl
        refine GHs.cons rfl (Stp.alloc T.zr43 (by decide)) (fun _ => (ulS (ulS (ulS (ulC (ulC (ulC (ulC ulN)))))))) (fun bq88 _ => ?_) ?_
        · refine GH.one 9 rfl (by kernel_rfl) (Stp.callR (vs := [(.int .i64 (((W : Nat) : Int))), (.int .i64 (((H : Nat) : Int)))]) rfl rfl T.own42 (by decide) (fun wc hw => ref_blank W H wc (by first | omega | (rw [Nat.mul_comm]; omega)))) (fun _ => (ulS (ulS (ulS (ulS (ulC (ulC (ulC (ulC ulN))))))))) (fun xq89 hq90 => ?_)
          refine GH.one 12 rfl (by kernel_rfl) (Stp.st3 (cs' := [(.int .i64 (((W : Nat) : Int))), (.int .i64 (((H : Nat) : Int))), (.slice (some ⟨xq83, 0, none⟩) (W * H) (W * H))]) rfl rfl rfl T.sz43 rfl rfl rfl) (fun _ => (ulS (ulS (ulS (ulS (ulC (ulC (ulC (ulC ulN))))))))) (fun _ _ => ?_)
          refine GH.done (by kernel_rfl) ?_
          refine GE.thenN ?_
          refine GE.tail rfl (Stp.st1 (cs' := [(.int .i64 (((W : Nat) : Int))), (.int .i64 (((H : Nat) : Int))), (.slice (some ⟨xq89, 0, none⟩) (W * H) (W * H))]) rfl rfl rfl T.sz43 rfl rfl rfl) (fun _ _ => ?_)
          refine GE.thenN ?_
          exact St.mk ((bq82, xq83, bq88, xq89)) trivial (idx := [3, 2, 1, 0, 4, 5, 6, 7]) ((sub_cons rfl ((sub_cons rfl ((sub_cons rfl ((sub_cons rfl ((sub_cons rfl ((sub_cons rfl ((sub_cons rfl ((sub_cons rfl ((sub_cons rfl ((sub_cons rfl ((sub_cons rfl ((sub_cons rfl ((sub_cons rfl ((sub_cons rfl ((sub_cons rfl ((sub_cons rfl ((sub_cons rfl ((sub_cons rfl ((sub_cons rfl ((sub_cons rfl ((sub_cons rfl ((sub_cons rfl ((sub_cons rfl ((sub_cons rfl ((sub_cons rfl ((sub_cons rfl ((sub_cons rfl ((sub_nil _)))))))))))))))))))))))))))))))))))))))))))))))))))))))) (by decide) rfl
        exact GHs.nil
      refine GHs.cons rfl (Stp.alloc T.zr43 (by decide)) (fun _ => (ulS (ulS (ulC (ulC (ulC (ulC ulN))))))) (fun bq91 _ => ?_) ?_
      · refine GH.one 4 rfl (by kernel_rfl) (Stp.callR (vs := [(.int .i64 (((W : Nat) : Int))), (.int .i64 (((H : Nat) : Int)))]) rfl rfl T.own42 (by decide) (fun wc hw => ref_blank W H wc (by first | omega | (rw [Nat.mul_comm]; omega)))) (fun _ => (ulS (ulS (ulS (ulC (ulC (ulC (ulC ulN)))))))) (fun xq92 hq93 => ?_)
        refine GH.one 9 rfl (by kernel_rfl) (Stp.callR (vs := [(.int .i64 (((W : Nat) : Int))), (.int .i64 (((H : Nat) : Int)))]) rfl rfl T.own42 (by decide) (fun wc hw => ref_blank W H wc (by first | omega | (rw [Nat.mul_comm]; omega)))) (fun _ => (ulS (ulS (ulS (ulS (ulC (ulC (ulC (ulC ulN))))))))) (fun xq94 hq95 => ?_)
        refine GH.one 12 rfl (by kernel_rfl) (Stp.st3 (cs' := [(.int .i64 (((W : Nat) : Int))), (.int .i64 (((H : Nat) : Int))), (.slice (some ⟨xq92, 0, none⟩) (W * H) (W * H))]) rfl rfl rfl T.sz43 rfl rfl rfl) (fun _ => (ulS (ulS (ulS (ulS (ulC (ulC (ulC (ulC ulN))))))))) (fun _ _ => ?_)
        refine GH.done (by kernel_rfl) ?_
        refine GE.thenN ?_
        refine GE.tail rfl (Stp.st2 (cs' := [(.int .i64 (((W : Nat) : Int))), (.int .i64 (((H : Nat) : Int))), (.slice (some ⟨xq94, 0, none⟩) (W * H) (W * H))]) rfl rfl rfl T.sz43 rfl rfl rfl) (fun _ _ => ?_)
        refine GE.thenN ?_
        exact St.mk ((bq82, xq92, bq91, xq94)) trivial (idx := [3, 1, 2, 0, 4, 5, 6, 7]) ((sub_cons rfl ((sub_cons rfl ((sub_cons rfl ((sub_cons rfl ((sub_cons rfl ((sub_cons rfl ((sub_cons rfl ((sub_cons rfl ((sub_cons rfl ((sub_cons rfl ((sub_cons rfl ((sub_cons rfl ((sub_cons rfl ((sub_cons rfl ((sub_cons rfl ((sub_cons rfl ((sub_cons rfl ((sub_cons rfl ((sub_cons rfl ((sub_cons rfl ((sub_cons rfl ((sub_cons rfl ((sub_cons rfl ((sub_cons rfl ((sub_cons rfl ((sub_cons rfl ((sub_cons rfl ((sub_nil _)))))))))))))))))))))))))))))))))))))))))))))))))))))))) (by decide) rfl
      exact GHs.nil
    refine GHs.cons rfl (Stp.alloc T.zr43 (by decide)) (fun _ => (ulS (ulC (ulC (ulC (ulC ulN)))))) (fun bq96 _ => ?_) ?_
    · refine GH.many (rs := [4, 10]) (by kernel_rfl) (by simp) ?_
      refine GHs.cons rfl (Stp.callR (vs := [(.int .i64 (((W : Nat) : Int))), (.int .i64 (((H : Nat) : Int)))]) rfl rfl T.own42 (by decide) (fun wc hw => ref_blank W H wc (by first | omega | (rw [Nat.mul_comm]; omega)))) (fun _ => (ulS (ulS (ulC (ulC (ulC (ulC ulN))))))) (fun xq97 hq98 => ?_) ?_
      · refine GH.many (rs := [9, 10]) (by kernel_rfl) (by simp) ?_
        refine GHs.cons rfl (Stp.callR (vs := [(.int .i64 (((W : Nat) : Int))), (.int .i64 (((H : Nat) : Int)))]) rfl rfl T.own42 (by decide) (fun wc hw => ref_blank W H wc (by first | omega | (rw [Nat.mul_comm]; omega)))) (fun _ => (ulS (ulS (ulS (ulC (ulC (ulC (ulC ulN)))))))) (fun xq99 hq100 => ?_) ?_
        · refine GH.one 10 rfl (by kernel_rfl) (Stp.alloc T.zr43 (by decide)) (fun _ => (ulS (ulS (ulS (ulS (ulC (ulC (ulC (ulC ulN))))))))) (fun bq101 _ => ?_)
          refine GH.one 12 rfl (by kernel_rfl) (Stp.st0 (cs' := [(.int .i64 (((W : Nat) : Int))), (.int .i64 (((H : Nat) : Int))), (.slice (some ⟨xq97, 0, none⟩) (W * H) (W * H))]) rfl rfl rfl T.sz43 rfl rfl rfl) (fun _ => (ulS (ulS (ulS (ulS (ulC (ulC (ulC (ulC ulN))))))))) (fun _ _ => ?_)
          refine GH.done (by kernel_rfl) ?_
          refine GE.thenN ?_
          refine GE.tail rfl (Stp.st3 (cs' := [(.int .i64 (((W : Nat) : Int))), (.int .i64 (((H : Nat) : Int))), (.slice (some ⟨xq99, 0, none⟩) (W * H) (W * H))]) rfl rfl rfl T.sz43 rfl rfl rfl) (fun _ _ => ?_)
          refine GE.thenN ?_
          exact St.mk ((bq101, xq97, bq96, xq99)) trivial (idx := [0, 2, 3, 1, 4, 5, 6, 7]) ((sub_cons rfl ((sub_cons rfl ((sub_cons rfl ((sub_cons rfl ((sub_cons rfl ((sub_cons rfl ((sub_cons rfl ((sub_cons rfl ((sub_cons rfl ((sub_cons rfl ((sub_cons rfl ((sub_cons rfl ((sub_cons rfl ((sub_cons rfl ((sub_cons rfl ((sub_cons rfl ((sub_cons rfl ((sub_cons rfl ((sub_cons rfl ((sub_cons rfl ((sub_cons rfl ((sub_cons rfl ((sub_cons rfl ((sub_cons rfl ((sub_cons rfl ((sub_cons rfl ((sub_cons rfl ((sub_nil _)))))))))))))))))))))))))))))))))))))))))))))))))))))))) (by decide) rfl
        refine GHs.cons rfl (Stp.alloc T.zr43 (by decide)) (fun _ => (ulS (ulS (ulS (ulC (ulC (ulC (ulC ulN)))))))) (fun bq102 _ => ?_) ?_
        · refine GH.one 9 rfl (by kernel_rfl) (Stp.callR (vs := [(.int .i64 (((W : Nat) : Int))), (.int .i64 (((H : Nat) : Int)))]) rfl rfl T.own42 (by decide) (fun wc hw => ref_blank W H wc (by first | omega | (rw [Nat.mul_comm]; omega)))) (fun _ => (ulS (ulS (ulS (ulS (ulC (ulC (ulC (ulC ulN))))))))) (fun xq103 hq104 => ?_)
          refine GH.one 12 rfl (by kernel_rfl) (Stp.st1 (cs' := [(.int .i64 (((W : Nat) : Int))), (.int .i64 (((H : Nat) : Int))), (.slice (some ⟨xq97, 0, none⟩) (W * H) (W * H))]) rfl rfl rfl T.sz43 rfl rfl rfl) (fun _ => (ulS (ulS (ulS (ulS (ulC (ulC (ulC (ulC ulN))))))))) (fun _ _ => ?_)
          refine GH.done (by kernel_rfl) ?_
          refine GE.thenN ?_
          refine GE.tail rfl (Stp.st3 (cs' := [(.int .i64 (((W : Nat) : Int))), (.int .i64 (((H : Nat) : Int))), (.slice (some ⟨xq103, 0, none⟩) (W * H) (W * H))]) rfl rfl rfl T.sz43 rfl rfl rfl) (fun _ _ => ?_)
          refine GE.thenN ?_
          exact St.mk ((bq102, xq97, bq96, xq103)) trivial (idx := [1, 2, 3, 0, 4, 5, 6, 7]) ((sub_cons rfl ((sub_cons rfl ((sub_cons rfl ((sub_cons rfl ((sub_cons rfl ((sub_cons rfl ((sub_cons rfl ((sub_cons rfl ((sub_cons rfl ((sub_cons rfl ((sub_cons rfl ((sub_cons rfl ((sub_cons rfl ((sub_cons rfl ((sub_cons rfl ((sub_cons rfl ((sub_cons rfl ((sub_cons rfl ((sub_cons rfl ((sub_cons rfl ((sub_cons rfl ((sub_cons rfl ((sub_cons rfl ((sub_cons rfl ((sub_cons rfl ((sub_cons rfl ((sub_cons rfl ((sub_nil _)))))))))))))))))))))))))))))))))))))))))))))))))))))))) (by decide) rfl
        exact GHs.nil
      refine GHs.cons rfl (Stp.alloc T.zr43 (by decide)) (fun _ => (ulS (ulS (ulC (ulC (ulC (ulC ulN))))))) (fun bq105 _ => ?_) ?_
      · refine GH.one 4 rfl (by kernel_rfl) (Stp.callR (vs := [(.int .i64 (((W : Nat) : Int))), (.int .i64 (((H : Nat) : Int)))]) rfl rfl T.own42 (by decide) (fun wc hw => ref_blank W H wc (by first | omega | (rw [Nat.mul_comm]; omega)))) (fun _ => (ulS (ulS (ulS (ulC (ulC (ulC (ulC ulN)))))))) (fun xq106 hq107 => ?_)
        refine GH.one 9 rfl (by kernel_rfl) (Stp.callR (vs := [(.int .i64 (((W : Nat) : Int))), (.int .i64 (((H : Nat) : Int)))]) rfl rfl T.own42 (by decide) (fun wc hw => ref_blank W H wc (by first | omega | (rw [Nat.mul_comm]; omega)))) (fun _ => (ulS (ulS (ulS (ulS (ulC (ulC (ulC (ulC ulN))))))))) (fun xq108 hq109 => ?_)
        refine GH.one 12 rfl (by kernel_rfl) (Stp.st2 (cs' := [(.int .i64 (((W : Nat) : Int))), (.int .i64 (((H : Nat) : Int))), (.slice (some ⟨xq106, 0, none⟩) (W * H) (W * H))]) rfl rfl rfl T.sz43 rfl rfl rfl) (fun _ => (ulS (ulS (ulS (ulS (ulC (ulC (ulC (ulC ulN))))))))) (fun _ _ => ?_)
        refine GH.done (by kernel_rfl) ?_
        refine GE.thenN ?_
        refine GE.tail rfl (Stp.st3 (cs' := [(.int .i64 (((W : Nat) : Int))), (.int .i64 (((H : Nat) : Int))), (.slice (some ⟨xq108, 0, none⟩) (W * H) (W * H))]) rfl rfl rfl T.sz43 rfl rfl rfl) (fun _ _ => ?_)
        refine GE.thenN ?_
        exact St.mk ((bq105, xq106, bq96, xq108)) trivial (idx := [2, 1, 3, 0, 4, 5, 6, 7]) ((sub_cons rfl ((sub_cons rfl ((sub_cons rfl ((sub_cons rfl ((sub_cons rfl ((sub_cons rfl ((sub_cons rfl ((sub_cons rfl ((sub_cons rfl ((sub_cons rfl ((sub_cons rfl ((sub_cons rfl ((sub_cons rfl ((sub_cons rfl ((sub_cons rfl ((sub_cons rfl ((sub_cons rfl ((sub_cons rfl ((sub_cons rfl ((sub_cons rfl ((sub_cons rfl ((sub_cons rfl ((sub_cons rfl ((sub_cons rfl ((sub_cons rfl ((sub_cons rfl ((sub_cons rfl ((sub_nil _)))))))))))))))))))))))))))))))))))))))))))))))))))))))) (by decide) rfl
      exact GHs.nil
    exact GHs.nil
  refine GE.thenN ?_
  refine GC.seq ?_
  refine GC.seq ?_
  refine GC.sub (L' := [⟨j59.1, [(.int .i64 (((W : Nat) : Int))), (.int .i64 (((H : Nat) : Int))), (.slice (some ⟨j59.2.1, 0, none⟩) (W * H) (W * H))], 43, true⟩, ⟨j59.2.1, cur W (Bg.blx (Bg.gk kd r) r xs W k) (W * H) 0, 63, true⟩, ⟨j59.2.2.1, [(.int .i64 (((W : Nat) : Int))), (.int .i64 (((H : Nat) : Int))), (.slice (some ⟨j59.2.2.2, 0, none⟩) (W * H) (W * H))], 43, true⟩, ⟨j59.2.2.2, List.replicate (W * H) (.int .u32 0), 63, true⟩, ⟨bq8, (List.replicate (2 * r + 1) (0 : Int)).map u32, 63, true⟩, ⟨xq3.1, wl (2 * r + 1) (Bg.gk kd r) ++ xq3.2.2, 3, true⟩, ⟨bq2, [(.int .i64 0), (.int .i64 0), (.slice none 0 0)], 43, true⟩, ⟨bq1, [(.int .i64 (((W : Nat) : Int))), (.int .i64 (((H : Nat) : Int))), (.slice (some ⟨b, o, none⟩) n cap)], 43, true⟩]) (fun _ _ h => h) (by rw [cur_zero]; exact ulR) ?_
  refine GC.region ?_
  refine GL.val (Ex.assign rfl) (by decide) ?_
  refine GL.nil ?_
  refine GE.thenN ?_
  refine GC.block ?_
  refine GC.loop (σ := Nat × List Int) (fun qi1 => qi1.1 ≤ W * H ∧ qi1.2.length = 2 * r + 1) (fun qi1 => [(0, (.agg #[(.int .i64 (((W : Nat) : Int))), (.int .i64 (((H : Nat) : Int))), (.slice (some ⟨b, o, none⟩) n cap)])), (1, (.int .i64 kd)), (2, (.int .i64 (((r : Nat) : Int)))), (3, (.int .i64 k)), (4, (.pointer (some ⟨bq1, 0, none⟩))), (8, (.pointer (some ⟨bq2, 0, none⟩))), (9, (.int .i64 0)), (10, (.slice (some ⟨xq3.1, 0, none⟩) (2 * r + 1) xq3.2.1)), (11, (.int .i64 0)), (12, (.slice (some ⟨bq8, 0, none⟩) (2 * r + 1) (2 * r + 1))), (13, (.pointer (some ⟨j59.1, 0, none⟩))), (14, (.pointer (some ⟨j59.2.2.1, 0, none⟩))), (15, (.int .i64 (((qi1.1 : Nat) : Int))))]) (fun qi1 => [⟨j59.1, [(.int .i64 (((W : Nat) : Int))), (.int .i64 (((H : Nat) : Int))), (.slice (some ⟨j59.2.1, 0, none⟩) (W * H) (W * H))], 43, true⟩, ⟨j59.2.1, cur W (Bg.blx (Bg.gk kd r) r xs W k) (W * H) qi1.1, 63, true⟩, ⟨j59.2.2.1, [(.int .i64 (((W : Nat) : Int))), (.int .i64 (((H : Nat) : Int))), (.slice (some ⟨j59.2.2.2, 0, none⟩) (W * H) (W * H))], 43, true⟩, ⟨j59.2.2.2, List.replicate (W * H) (.int .u32 0), 63, true⟩, ⟨bq8, qi1.2.map u32, 63, true⟩, ⟨xq3.1, wl (2 * r + 1) (Bg.gk kd r) ++ xq3.2.2, 3, true⟩, ⟨bq2, [(.int .i64 0), (.int .i64 0), (.slice none 0 0)], 43, true⟩, ⟨bq1, [(.int .i64 (((W : Nat) : Int))), (.int .i64 (((H : Nat) : Int))), (.slice (some ⟨b, o, none⟩) n cap)], 43, true⟩]) (fun qi1 => W * H - qi1.1) ((0, List.replicate (2 * r + 1) 0)) ⟨Nat.zero_le _, by show (List.replicate (2 * r + 1) (0 : Int)).length = _; rw [List.length_replicate]⟩ ((sub_cons rfl ((sub_cons rfl ((sub_cons rfl ((sub_cons rfl ((sub_cons rfl ((sub_cons rfl ((sub_cons rfl ((sub_cons rfl ((sub_cons rfl ((sub_cons rfl ((sub_cons rfl ((sub_cons rfl ((sub_cons rfl ((sub_nil _)))))))))))))))))))))))))))) (ulC (ulC (ulC (ulC (ulC (ulC (ulC (ulC ulN)))))))) (fun qi1 hp => ?_)
  obtain ⟨i1, ol1⟩ := qi1
  have hpi1 : i1 ≤ W * H ∧ ol1.length = 2 * r + 1 := hp
  have holi1 := hpi1.2
  refine GC.seq ?_
  refine GC.seq ?_
  refine GC.region ?_
  refine GL.val (Ex.move rfl) (by decide) ?_
  refine GL.val (v := (.pointer (some ⟨j59.1, 2, none⟩))) (Ex.cast (Ex.fieldAddr rfl Try.underlying43 rfl T.sz41 (by decide)) rfl) (by decide) ?_
  refine GL.val (Ex.load rfl T.ag41 (i := 0) rfl rfl) (by decide) ?_
  refine GL.val (v := (.int .i64 (((W * H) : Int)))) (Ex.len rfl Try.underlying41) (by decide) ?_
  refine GL.val (v := (.bool (decide ((((i1 : Nat) : Int)) < (((W * H) : Int)))))) (Ex.lss rfl rfl) (by decide) ?_
  refine GL.nil ?_
  refine GE.thenN ?_
  refine GC.cond rfl (fun hq110 => ?_) (fun hq110 => ?_)
  · replace hq110 := of_decide_eq_true hq110
    refine GC.skip ?_
    refine GE.thenN ?_
    refine GC.seq ?_
    refine GC.block ?_
    refine GC.seq ?_
    refine GC.seq ?_
    have hkx : i1 % W < W := Nat.mod_lt _ (by omega)
    have hky : i1 / W < H := Nat.div_lt_of_lt_mul (by omega)
    have hkx0 : (0 : Int) ≤ ((i1 % W : Nat) : Int) := Int.natCast_nonneg _
    have hky0 : (0 : Int) ≤ ((i1 / W : Nat) : Int) := Int.natCast_nonneg _
    refine GC.sub (L' := [⟨j59.1, [(.int .i64 (((W : Nat) : Int))), (.int .i64 (((H : Nat) : Int))), (.slice (some ⟨j59.2.1, 0, none⟩) (W * H) (W * H))], 43, true⟩, ⟨j59.2.1, cur W (Bg.blx (Bg.gk kd r) r xs W k) (W * H) i1, 63, true⟩, ⟨j59.2.2.1, [(.int .i64 (((W : Nat) : Int))), (.int .i64 (((H : Nat) : Int))), (.slice (some ⟨j59.2.2.2, 0, none⟩) (W * H) (W * H))], 43, true⟩, ⟨j59.2.2.2, List.replicate (W * H) (.int .u32 0), 63, true⟩, ⟨bq8, pcr 1 (fun _ j => Bg.nx xs W k (i1 % W) (i1 / W) (((j : Nat) : Int) - ((r : Nat) : Int))) ol1 0, 63, true⟩, ⟨xq3.1, wl (2 * r + 1) (Bg.gk kd r) ++ xq3.2.2, 3, true⟩, ⟨bq2, [(.int .i64 0), (.int .i64 0), (.slice none 0 0)], 43, true⟩, ⟨bq1, [(.int .i64 (((W : Nat) : Int))), (.int .i64 (((H : Nat) : Int))), (.slice (some ⟨b, o, none⟩) n cap)], 43, true⟩]) (fun _ _ h => h) (by rw [pcr_zero]; exact ulR) ?_
    refine GC.region ?_
    refine GL.val (Ex.assign rfl) (by decide) ?_
    refine GL.nil ?_
    refine GE.thenN ?_
    refine GC.block ?_
    refine GC.loop (σ := Nat) (fun j1 => j1 ≤ 2 * r + 1) (fun j1 => [(0, (.agg #[(.int .i64 (((W : Nat) : Int))), (.int .i64 (((H : Nat) : Int))), (.slice (some ⟨b, o, none⟩) n cap)])), (1, (.int .i64 kd)), (2, (.int .i64 (((r : Nat) : Int)))), (3, (.int .i64 k)), (4, (.pointer (some ⟨bq1, 0, none⟩))), (8, (.pointer (some ⟨bq2, 0, none⟩))), (9, (.int .i64 0)), (10, (.slice (some ⟨xq3.1, 0, none⟩) (2 * r + 1) xq3.2.1)), (11, (.int .i64 0)), (12, (.slice (some ⟨bq8, 0, none⟩) (2 * r + 1) (2 * r + 1))), (13, (.pointer (some ⟨j59.1, 0, none⟩))), (14, (.pointer (some ⟨j59.2.2.1, 0, none⟩))), (15, (.int .i64 (((i1 : Nat) : Int)))), (16, (.int .i64 (((j1 : Nat) : Int))))]) (fun j1 => [⟨j59.1, [(.int .i64 (((W : Nat) : Int))), (.int .i64 (((H : Nat) : Int))), (.slice (some ⟨j59.2.1, 0, none⟩) (W * H) (W * H))], 43, true⟩, ⟨j59.2.1, cur W (Bg.blx (Bg.gk kd r) r xs W k) (W * H) i1, 63, true⟩, ⟨j59.2.2.1, [(.int .i64 (((W : Nat) : Int))), (.int .i64 (((H : Nat) : Int))), (.slice (some ⟨j59.2.2.2, 0, none⟩) (W * H) (W * H))], 43, true⟩, ⟨j59.2.2.2, List.replicate (W * H) (.int .u32 0), 63, true⟩, ⟨bq8, pcr 1 (fun _ j => Bg.nx xs W k (i1 % W) (i1 / W) (((j : Nat) : Int) - ((r : Nat) : Int))) ol1 j1, 63, true⟩, ⟨xq3.1, wl (2 * r + 1) (Bg.gk kd r) ++ xq3.2.2, 3, true⟩, ⟨bq2, [(.int .i64 0), (.int .i64 0), (.slice none 0 0)], 43, true⟩, ⟨bq1, [(.int .i64 (((W : Nat) : Int))), (.int .i64 (((H : Nat) : Int))), (.slice (some ⟨b, o, none⟩) n cap)], 43, true⟩]) (fun j1 => 2 * r + 1 - j1) (0) (Nat.zero_le _) ((sub_cons rfl ((sub_cons rfl ((sub_cons rfl ((sub_cons rfl ((sub_cons rfl ((sub_cons rfl ((sub_cons rfl ((sub_cons rfl ((sub_cons rfl ((sub_cons rfl ((sub_cons rfl ((sub_cons rfl ((sub_cons rfl ((sub_cons rfl ((sub_nil _)))))))))))))))))))))))))))))) (ulC (ulC (ulC (ulC (ulC (ulC (ulC (ulC ulN)))))))) (fun j1 hp => ?_)
    have hpjj1 : j1 ≤ 2 * r + 1 := hp
    refine GC.seq ?_
    refine GC.seq ?_
    refine GC.region ?_
    refine GL.val (Ex.move rfl) (by decide) ?_
    refine GL.val (Ex.move rfl) (by decide) ?_
    refine GL.val (v := (.int .i64 (((2 * r + 1) : Int)))) (Ex.len rfl Try.underlying28) (by decide) ?_
    refine GL.val (v := (.bool (decide ((((j1 : Nat) : Int)) < (((2 * r + 1) : Int)))))) (Ex.lss rfl rfl) (by decide) ?_
    refine GL.nil ?_
    refine GE.thenN ?_
    refine GC.cond rfl (fun hq111 => ?_) (fun hq111 => ?_)
    · replace hq111 := of_decide_eq_true hq111
      refine GC.skip ?_
      refine GE.thenN ?_
      refine GC.seq ?_
      refine GC.block ?_
      refine GC.drawP [⟨j59.1, [(.int .i64 (((W : Nat) : Int))), (.int .i64 (((H : Nat) : Int))), (.slice (some ⟨j59.2.1, 0, none⟩) (W * H) (W * H))], 43, true⟩, ⟨j59.2.1, cur W (Bg.blx (Bg.gk kd r) r xs W k) (W * H) i1, 63, true⟩, ⟨j59.2.2.1, [(.int .i64 (((W : Nat) : Int))), (.int .i64 (((H : Nat) : Int))), (.slice (some ⟨j59.2.2.2, 0, none⟩) (W * H) (W * H))], 43, true⟩, ⟨j59.2.2.2, List.replicate (W * H) (.int .u32 0), 63, true⟩, ⟨xq3.1, wl (2 * r + 1) (Bg.gk kd r) ++ xq3.2.2, 3, true⟩, ⟨bq2, [(.int .i64 0), (.int .i64 0), (.slice none 0 0)], 43, true⟩, ⟨bq1, [(.int .i64 (((W : Nat) : Int))), (.int .i64 (((H : Nat) : Int))), (.slice (some ⟨b, o, none⟩) n cap)], 43, true⟩] T.mixed (by kernel_rfl) (by kernel_rfl) (fuel := 21) rfl rfl ?_
      refine GH.take 0 (v := (.slice (some ⟨bq8, 0, none⟩) (2 * r + 1) (2 * r + 1))) rfl (by kernel_rfl) (by kernel_rfl) (by kernel_rfl) (fun _ _ _ h => h) (Ex.move rfl) (ulC (ulC (ulC (ulC (ulS (ulC (ulC (ulC ulN)))))))) (by decide) ?_
      refine GH.take 1 (v := (.int .i64 (((j1 : Nat) : Int)))) rfl (by kernel_rfl) (by kernel_rfl) (by kernel_rfl) (fun _ _ _ h => h) (Ex.move rfl) (ulC (ulC (ulC (ulC (ulS (ulC (ulC (ulC ulN)))))))) (by decide) ?_
      refine GH.take 2 (v := (.agg #[(.int .i64 (((W : Nat) : Int))), (.int .i64 (((H : Nat) : Int))), (.slice (some ⟨b, o, none⟩) n cap)])) rfl (by kernel_rfl) (by kernel_rfl) (by kernel_rfl) (fun _ _ _ h => h) (Ex.loadA rfl T.ag43 T.sz43 (i := 6) rfl (vs := [(.int .i64 (((W : Nat) : Int))), (.int .i64 (((H : Nat) : Int))), (.slice (some ⟨b, o, none⟩) n cap)]) rfl rfl) (ulC (ulC (ulC (ulC (ulS (ulC (ulC (ulC ulN)))))))) (by decide) ?_
      refine GH.take 3 (v := (.int .i64 k)) rfl (by kernel_rfl) (by kernel_rfl) (by kernel_rfl) (fun _ _ _ h => h) (Ex.move rfl) (ulC (ulC (ulC (ulC (ulS (ulC (ulC (ulC ulN)))))))) (by decide) ?_
      refine GH.take 4 (v := (.pointer (some ⟨bq1, 0, none⟩))) rfl (by kernel_rfl) (by kernel_rfl) (by kernel_rfl) (fun _ _ _ h => h) (Ex.cast (Ex.fieldAddr rfl Try.underlying43 rfl T.sz3 (by decide)) rfl) (ulC (ulC (ulC (ulC (ulS (ulC (ulC (ulC ulN)))))))) (by decide) ?_
      refine GH.take 5 (v := (.int .i64 (((W : Nat) : Int)))) rfl (by kernel_rfl) (by kernel_rfl) (by kernel_rfl) (fun _ _ _ h => h) (Ex.load rfl T.ag3 (i := 6) rfl rfl) (ulC (ulC (ulC (ulC (ulS (ulC (ulC (ulC ulN)))))))) (by decide) ?_
      refine GH.take 6 (v := (.int .i64 (((i1 : Nat) : Int)))) rfl (by kernel_rfl) (by kernel_rfl) (by kernel_rfl) (fun _ _ _ h => h) (Ex.move rfl) (ulC (ulC (ulC (ulC (ulS (ulC (ulC (ulC ulN)))))))) (by decide) ?_
      refine GH.take 7 (v := (.pointer (some ⟨bq1, 0, none⟩))) rfl (by kernel_rfl) (by kernel_rfl) (by kernel_rfl) (fun _ _ _ h => h) (Ex.cast (Ex.fieldAddr rfl Try.underlying43 rfl T.sz3 (by decide)) rfl) (ulC (ulC (ulC (ulC (ulS (ulC (ulC (ulC ulN)))))))) (by decide) ?_
      refine GH.take 8 (v := (.int .i64 (((W : Nat) : Int)))) rfl (by kernel_rfl) (by kernel_rfl) (by kernel_rfl) (fun _ _ _ h => h) (Ex.load rfl T.ag3 (i := 6) rfl rfl) (ulC (ulC (ulC (ulC (ulS (ulC (ulC (ulC ulN)))))))) (by decide) ?_
      refine GH.take 9 (v := (.int .i64 (((i1 % W : Nat) : Int)))) rfl (by kernel_rfl) (by kernel_rfl) (by kernel_rfl) (fun _ _ _ h => h) (Ex.rem rfl rfl (Z := ((i1 % W : Nat) : Int)) (by omega) rfl) (ulC (ulC (ulC (ulC (ulS (ulC (ulC (ulC ulN)))))))) (by decide) ?_
      refine GH.take 10 (v := (.int .i64 (((j1 : Nat) : Int)))) rfl (by kernel_rfl) (by kernel_rfl) (by kernel_rfl) (fun _ _ _ h => h) (Ex.move rfl) (ulC (ulC (ulC (ulC (ulS (ulC (ulC (ulC ulN)))))))) (by decide) ?_
      refine GH.take 11 (v := (.int .i64 ((((i1 % W : Nat) : Int) + ((j1 : Nat) : Int))))) rfl (by kernel_rfl) (by kernel_rfl) (by kernel_rfl) (fun _ _ _ h => h) (Ex.add rfl rfl (Z := (((i1 % W : Nat) : Int) + ((j1 : Nat) : Int))) (w64 (by omega))) (ulC (ulC (ulC (ulC (ulS (ulC (ulC (ulC ulN)))))))) (by decide) ?_
      refine GH.take 12 (v := (.int .i64 (((r : Nat) : Int)))) rfl (by kernel_rfl) (by kernel_rfl) (by kernel_rfl) (fun _ _ _ h => h) (Ex.move rfl) (ulC (ulC (ulC (ulC (ulS (ulC (ulC (ulC ulN)))))))) (by decide) ?_
      refine GH.take 13 (v := (.int .i64 ((((i1 % W : Nat) : Int) + (((j1 : Nat) : Int) - ((r : Nat) : Int)))))) rfl (by kernel_rfl) (by kernel_rfl) (by kernel_rfl) (fun _ _ _ h => h) (Ex.sub' rfl rfl (Z := (((i1 % W : Nat) : Int) + (((j1 : Nat) : Int) - ((r : Nat) : Int)))) (by rw [w64 (by omega)]; omega)) (ulC (ulC (ulC (ulC (ulS (ulC (ulC (ulC ulN)))))))) (by decide) ?_
      refine GH.take 15 (v := (.int .i64 (((i1 : Nat) : Int)))) rfl (by kernel_rfl) (by kernel_rfl) (by kernel_rfl) (fun _ _ _ h => h) (Ex.move rfl) (ulC (ulC (ulC (ulC (ulS (ulC (ulC (ulC ulN)))))))) (by decide) ?_
      refine GH.take 16 (v := (.pointer (some ⟨bq1, 0, none⟩))) rfl (by kernel_rfl) (by kernel_rfl) (by kernel_rfl) (fun _ _ _ h => h) (Ex.cast (Ex.fieldAddr rfl Try.underlying43 rfl T.sz3 (by decide)) rfl) (ulC (ulC (ulC (ulC (ulS (ulC (ulC (ulC ulN)))))))) (by decide) ?_
      refine GH.take 17 (v := (.int .i64 (((W : Nat) : Int)))) rfl (by kernel_rfl) (by kernel_rfl) (by kernel_rfl) (fun _ _ _ h => h) (Ex.load rfl T.ag3 (i := 6) rfl rfl) (ulC (ulC (ulC (ulC (ulS (ulC (ulC (ulC ulN)))))))) (by decide) ?_
      refine GH.take 18 (v := (.int .i64 (((i1 / W : Nat) : Int)))) rfl (by kernel_rfl) (by kernel_rfl) (by kernel_rfl) (fun _ _ _ h => h) (Ex.quo rfl rfl (Z := ((i1 / W : Nat) : Int)) (by omega) (quoN (by omega))) (ulC (ulC (ulC (ulC (ulS (ulC (ulC (ulC ulN)))))))) (by decide) ?_
      refine GH.one 14 rfl (by kernel_rfl) (Stp.callR (σ := Unit) (p := fun rz => True) (v := fun rz => (.int .i64 ((((bord k ((W : Nat) : Int) ((((i1 % W : Nat) : Int) + (((j1 : Nat) : Int) - ((r : Nat) : Int))))).1.toNat : Nat) : Int)))) (N := fun rz => []) (vs := [(.int .i64 k), (.int .i64 (((W : Nat) : Int))), (.int .i64 ((((i1 % W : Nat) : Int) + (((j1 : Nat) : Int) - ((r : Nat) : Int)))))]) rfl rfl T.own44 (by decide) (fun wc hw => (by have h := border_r k ((W : Nat) : Int) ((((i1 % W : Nat) : Int) + (((j1 : Nat) : Int) - ((r : Nat) : Int)))) wc; have hb := bord_ok (i := ((((i1 % W : Nat) : Int) + (((j1 : Nat) : Int) - ((r : Nat) : Int))))) hk.1 hk.2 (show (1 : Int) ≤ (W : Nat) by omega) (show ((W : Nat) : Int) ≤ 1024 by omega); rw [show (bord k ((W : Nat) : Int) ((((i1 % W : Nat) : Int) + (((j1 : Nat) : Int) - ((r : Nat) : Int))))).1 = (((bord k ((W : Nat) : Int) ((((i1 % W : Nat) : Int) + (((j1 : Nat) : Int) - ((r : Nat) : Int))))).1.toNat : Nat) : Int) from (Int.toNat_of_nonneg hb.2.1).symm] at h; exact h))) (fun _ => (ulC (ulC (ulC (ulC (ulS (ulC (ulC (ulC ulN))))))))) (fun xq116 hq117 => ?_)
      refine GH.one 19 rfl (by kernel_rfl) (Stp.callR (vs := [(.agg #[(.int .i64 (((W : Nat) : Int))), (.int .i64 (((H : Nat) : Int))), (.slice (some ⟨b, o, none⟩) n cap)]), (.int .i64 ((((bord k ((W : Nat) : Int) ((((i1 % W : Nat) : Int) + (((j1 : Nat) : Int) - ((r : Nat) : Int))))).1.toNat : Nat) : Int))), (.int .i64 (((i1 / W : Nat) : Int)))]) rfl rfl T.own43 (by decide) (fun wc hw => ref_at W n cap b o ((bord k ((W : Nat) : Int) ((((i1 % W : Nat) : Int) + (((j1 : Nat) : Int) - ((r : Nat) : Int))))).1.toNat) (i1 / W) H xs wc (Bg.at_lt hok hn (Bg.bX hk hok) hky) (by omega) hx0 (hw.rd hr (fun x => x)))) (fun _ => (ulC (ulC (ulC (ulC (ulS (ulC (ulC (ulC ulN))))))))) (fun xq118 hq119 => ?_)
      refine GH.take 20 (v := (.pointer (some ⟨bq8, j1, none⟩))) rfl (by kernel_rfl) (by kernel_rfl) (by kernel_rfl) (fun _ _ _ h => h) (Ex.cast (Ex.indexAddr rfl rfl Try.underlying41 T.sz63 (by omega) (by omega)) (by simp)) (ulC (ulC (ulC (ulC (ulS (ulC (ulC (ulC ulN)))))))) (by decide) ?_
      refine GH.done (by kernel_rfl) ?_
      refine GE.thenN ?_
      refine GE.tail rfl (Stp.storeL (i := 4) (cs := pcr 1 (fun _ j => Bg.nx xs W k (i1 % W) (i1 / W) (((j : Nat) : Int) - ((r : Nat) : Int))) ol1 j1) (vs := [(.int .u32 ((smp xs W ((bord k ((W : Nat) : Int) ((((i1 % W : Nat) : Int) + (((j1 : Nat) : Int) - ((r : Nat) : Int))))).1.toNat) (i1 / W))))]) (o := j1) (L1 := [⟨j59.1, [(.int .i64 (((W : Nat) : Int))), (.int .i64 (((H : Nat) : Int))), (.slice (some ⟨j59.2.1, 0, none⟩) (W * H) (W * H))], 43, true⟩, ⟨j59.2.1, cur W (Bg.blx (Bg.gk kd r) r xs W k) (W * H) i1, 63, true⟩, ⟨j59.2.2.1, [(.int .i64 (((W : Nat) : Int))), (.int .i64 (((H : Nat) : Int))), (.slice (some ⟨j59.2.2.2, 0, none⟩) (W * H) (W * H))], 43, true⟩, ⟨j59.2.2.2, List.replicate (W * H) (.int .u32 0), 63, true⟩, ⟨bq8, pcr 1 (fun _ j => Bg.nx xs W k (i1 % W) (i1 / W) (((j : Nat) : Int) - ((r : Nat) : Int))) ol1 (j1 + 1), 63, true⟩, ⟨xq3.1, wl (2 * r + 1) (Bg.gk kd r) ++ xq3.2.2, 3, true⟩, ⟨bq2, [(.int .i64 0), (.int .i64 0), (.slice none 0 0)], 43, true⟩, ⟨bq1, [(.int .i64 (((W : Nat) : Int))), (.int .i64 (((H : Nat) : Int))), (.slice (some ⟨b, o, none⟩) n cap)], 43, true⟩]) rfl rfl rfl T.sz63 rfl (Nat.ble_eq_true_of_le (by rw [pcr_len (by omega)]; simp; omega)) rfl (by rw [pcr_app (W := 1) (g := (fun _ j => Bg.nx xs W k (i1 % W) (i1 / W) (((j : Nat) : Int) - ((r : Nat) : Int)))) (xs := ol1) (k := j1) (v := ((smp xs W ((bord k ((W : Nat) : Int) ((((i1 % W : Nat) : Int) + (((j1 : Nat) : Int) - ((r : Nat) : Int))))).1.toNat) (i1 / W)))) (by omega) (Bg.div1 (f := fun q => (fun _ j => Bg.nx xs W k (i1 % W) (i1 / W) (((j : Nat) : Int) - ((r : Nat) : Int))) 0 q) rfl)]; rfl)) (fun _ _ => ?_)
      refine GE.blockN ?_
      refine GE.thenN ?_
      refine GC.region ?_
      refine GL.val (Ex.move rfl) (by decide) ?_
      refine GL.val (v := (.int .i64 (((j1 + 1 : Nat) : Int)))) (Ex.add rfl rfl (Z := ((j1 + 1 : Nat) : Int)) (addN (b := 1) (by omega))) (by decide) ?_
      refine GL.val (Ex.assign rfl) (by decide) ?_
      refine GL.nil ?_
      refine GE.thenN ?_
      exact Head.mk (j1 + 1) (by omega) (by omega) ((sub_cons rfl ((sub_cons rfl ((sub_cons rfl ((sub_cons rfl ((sub_cons rfl ((sub_cons rfl ((sub_cons rfl ((sub_cons rfl ((sub_cons rfl ((sub_cons rfl ((sub_cons rfl ((sub_cons rfl ((sub_cons rfl ((sub_cons rfl ((sub_nil _)))))))))))))))))))))))))))))) (ulC (ulC (ulC (ulC (ulC (ulC (ulC (ulC ulN))))))))
    · replace hq111 := of_decide_eq_false hq111
      have ej : j1 = 2 * r + 1 := by omega
      rw [ej, pcr_full holi1]
      refine GC.exit ?_
      refine GE.thenE ?_
      refine GE.thenE ?_
      refine GE.blockE ?_
      refine GE.thenN ?_
      refine GC.drawP [⟨j59.1, [(.int .i64 (((W : Nat) : Int))), (.int .i64 (((H : Nat) : Int))), (.slice (some ⟨j59.2.1, 0, none⟩) (W * H) (W * H))], 43, true⟩, ⟨j59.2.2.1, [(.int .i64 (((W : Nat) : Int))), (.int .i64 (((H : Nat) : Int))), (.slice (some ⟨j59.2.2.2, 0, none⟩) (W * H) (W * H))], 43, true⟩, ⟨j59.2.2.2, List.replicate (W * H) (.int .u32 0), 63, true⟩, ⟨bq8, (tab 1 (fun _ j => Bg.nx xs W k (i1 % W) (i1 / W) (((j : Nat) : Int) - ((r : Nat) : Int))) (2 * r + 1)).map u32, 63, true⟩, ⟨xq3.1, wl (2 * r + 1) (Bg.gk kd r) ++ xq3.2.2, 3, true⟩, ⟨bq2, [(.int .i64 0), (.int .i64 0), (.slice none 0 0)], 43, true⟩, ⟨bq1, [(.int .i64 (((W : Nat) : Int))), (.int .i64 (((H : Nat) : Int))), (.slice (some ⟨b, o, none⟩) n cap)], 43, true⟩] T.mixed (by kernel_rfl) (by kernel_rfl) (fuel := 7) rfl rfl ?_
      refine GH.take 0 (v := (.pointer (some ⟨j59.1, 2, none⟩))) rfl (by kernel_rfl) (by kernel_rfl) (by kernel_rfl) (fun _ _ _ h => h) (Ex.cast (Ex.fieldAddr rfl Try.underlying43 rfl T.sz41 (by decide)) rfl) (ulC (ulS (ulC (ulC (ulC (ulC (ulC (ulC ulN)))))))) (by decide) ?_
      refine GH.take 1 (v := (.slice (some ⟨j59.2.1, 0, none⟩) (W * H) (W * H))) rfl (by kernel_rfl) (by kernel_rfl) (by kernel_rfl) (fun _ _ _ h => h) (Ex.load rfl T.ag41 (i := 0) rfl rfl) (ulC (ulS (ulC (ulC (ulC (ulC (ulC (ulC ulN)))))))) (by decide) ?_
      refine GH.take 2 (v := (.int .i64 (((i1 : Nat) : Int)))) rfl (by kernel_rfl) (by kernel_rfl) (by kernel_rfl) (fun _ _ _ h => h) (Ex.move rfl) (ulC (ulS (ulC (ulC (ulC (ulC (ulC (ulC ulN)))))))) (by decide) ?_
      refine GH.take 3 (v := (.slice (some ⟨bq8, 0, none⟩) (2 * r + 1) (2 * r + 1))) rfl (by kernel_rfl) (by kernel_rfl) (by kernel_rfl) (fun _ _ _ h => h) (Ex.move rfl) (ulC (ulS (ulC (ulC (ulC (ulC (ulC (ulC ulN)))))))) (by decide) ?_
      refine GH.take 4 (v := (.slice (some ⟨xq3.1, 0, none⟩) (2 * r + 1) xq3.2.1)) rfl (by kernel_rfl) (by kernel_rfl) (by kernel_rfl) (fun _ _ _ h => h) (Ex.move rfl) (ulC (ulS (ulC (ulC (ulC (ulC (ulC (ulC ulN)))))))) (by decide) ?_
      refine GH.one 5 rfl (by kernel_rfl) (Stp.callR (σ := Unit) (p := fun rz => True) (v := fun rz => (.int .u32 ((Bg.blx (Bg.gk kd r) r xs W k (i1 % W) (i1 / W))))) (N := fun rz => []) (vs := [(.slice (some ⟨bq8, 0, none⟩) (2 * r + 1) (2 * r + 1)), (.slice (some ⟨xq3.1, 0, none⟩) (2 * r + 1) xq3.2.1)]) rfl rfl T.own45 (by decide) (fun wc hw => (by have h := ref_weigh bq8 (2 * r + 1) xq3.1 xq3.2.1 (tab 1 (fun _ j => Bg.nx xs W k (i1 % W) (i1 / W) (((j : Nat) : Int) - ((r : Nat) : Int))) (2 * r + 1)) xq3.2.2 (Bg.gk kd r) r wc (tab_len _ _ _) (Bg.tab_bd (fun x y => Bg.smp_bd hu W _ _)) (hw.rdOf (i := 4) rfl 0) hrr (Bg.gk_bd hrr) (Has.cons (hw.hasOf (i := 5) rfl) (Has.nil _)); rw [show Bl.wgh (Bg.gk kd r) (fun i => List.getD (tab 1 (fun _ j => Bg.nx xs W k (i1 % W) (i1 / W) (((j : Nat) : Int) - ((r : Nat) : Int))) (2 * r + 1)) i 0) (2 * r + 1) = Bg.blx (Bg.gk kd r) r xs W k (i1 % W) (i1 / W) from Bl.wgh_congr (fun i hi => by rw [Bg.tab1 hi])] at h; exact h))) (fun _ => (ulC (ulS (ulC (ulC (ulC (ulC (ulC (ulC ulN))))))))) (fun xq122 hq123 => ?_)
      refine GH.take 6 (v := (.pointer (some ⟨j59.2.1, i1, none⟩))) rfl (by kernel_rfl) (by kernel_rfl) (by kernel_rfl) (fun _ _ _ h => h) (Ex.cast (Ex.indexAddr rfl rfl Try.underlying41 T.sz63 (by omega) (by omega)) (by simp)) (ulC (ulS (ulC (ulC (ulC (ulC (ulC (ulC ulN)))))))) (by decide) ?_
      refine GH.done (by kernel_rfl) ?_
      refine GE.thenN ?_
      refine GE.tail rfl (Stp.storeL (i := 1) (cs := cur W (Bg.blx (Bg.gk kd r) r xs W k) (W * H) i1) (vs := [(.int .u32 ((Bg.blx (Bg.gk kd r) r xs W k (i1 % W) (i1 / W))))]) (o := i1) (L1 := [⟨j59.1, [(.int .i64 (((W : Nat) : Int))), (.int .i64 (((H : Nat) : Int))), (.slice (some ⟨j59.2.1, 0, none⟩) (W * H) (W * H))], 43, true⟩, ⟨j59.2.1, cur W (Bg.blx (Bg.gk kd r) r xs W k) (W * H) (i1 + 1), 63, true⟩, ⟨j59.2.2.1, [(.int .i64 (((W : Nat) : Int))), (.int .i64 (((H : Nat) : Int))), (.slice (some ⟨j59.2.2.2, 0, none⟩) (W * H) (W * H))], 43, true⟩, ⟨j59.2.2.2, List.replicate (W * H) (.int .u32 0), 63, true⟩, ⟨bq8, (tab 1 (fun _ j => Bg.nx xs W k (i1 % W) (i1 / W) (((j : Nat) : Int) - ((r : Nat) : Int))) (2 * r + 1)).map u32, 63, true⟩, ⟨xq3.1, wl (2 * r + 1) (Bg.gk kd r) ++ xq3.2.2, 3, true⟩, ⟨bq2, [(.int .i64 0), (.int .i64 0), (.slice none 0 0)], 43, true⟩, ⟨bq1, [(.int .i64 (((W : Nat) : Int))), (.int .i64 (((H : Nat) : Int))), (.slice (some ⟨b, o, none⟩) n cap)], 43, true⟩]) rfl rfl rfl T.sz63 rfl (Nat.ble_eq_true_of_le (by rw [cur_len _ _ _ _ (by omega)]; simp; omega)) rfl (by rw [cur_app' W (Bg.blx (Bg.gk kd r) r xs W k) (W * H) i1 ((Bg.blx (Bg.gk kd r) r xs W k (i1 % W) (i1 / W))) (by omega) rfl]; rfl)) (fun _ _ => ?_)
      refine GE.blockN ?_
      refine GE.thenN ?_
      refine GC.region ?_
      refine GL.val (Ex.move rfl) (by decide) ?_
      refine GL.val (v := (.int .i64 (((i1 + 1 : Nat) : Int)))) (Ex.add rfl rfl (Z := ((i1 + 1 : Nat) : Int)) (addN (b := 1) (by omega))) (by decide) ?_
      refine GL.val (Ex.assign rfl) (by decide) ?_
      refine GL.nil ?_
      refine GE.thenN ?_
      exact Head.mk ((i1 + 1, tab 1 (fun _ j => Bg.nx xs W k (i1 % W) (i1 / W) (((j : Nat) : Int) - ((r : Nat) : Int))) (2 * r + 1))) ⟨(by show i1 + 1 ≤ W * H; omega), (by dsimp only; exact tab_len _ _ _)⟩ (by show W * H - (i1 + 1) < W * H - i1; omega) ((sub_cons rfl ((sub_cons rfl ((sub_cons rfl ((sub_cons rfl ((sub_cons rfl ((sub_cons rfl ((sub_cons rfl ((sub_cons rfl ((sub_cons rfl ((sub_cons rfl ((sub_cons rfl ((sub_cons rfl ((sub_cons rfl ((sub_nil _)))))))))))))))))))))))))))) (ulC (ulC (ulC (ulC (ulC (ulC (ulC (ulC ulN))))))))
  · replace hq110 := of_decide_eq_false hq110
    have ei : i1 = W * H := by omega
    rw [ei, cur_full]
    refine GC.exit ?_
    refine GE.thenE ?_
    refine GE.thenE ?_
    refine GE.blockE ?_
    refine GE.thenN ?_
    refine GC.seq ?_
    refine GC.seq ?_
    refine GC.sub (L' := [⟨j59.1, [(.int .i64 (((W : Nat) : Int))), (.int .i64 (((H : Nat) : Int))), (.slice (some ⟨j59.2.1, 0, none⟩) (W * H) (W * H))], 43, true⟩, ⟨j59.2.1, (tab W (Bg.blx (Bg.gk kd r) r xs W k) (W * H)).map u32, 63, true⟩, ⟨j59.2.2.1, [(.int .i64 (((W : Nat) : Int))), (.int .i64 (((H : Nat) : Int))), (.slice (some ⟨j59.2.2.2, 0, none⟩) (W * H) (W * H))], 43, true⟩, ⟨j59.2.2.2, cur W (Bg.blr (Bg.gk kd r) r xs W H k) (W * H) 0, 63, true⟩, ⟨bq8, ol1.map u32, 63, true⟩, ⟨xq3.1, wl (2 * r + 1) (Bg.gk kd r) ++ xq3.2.2, 3, true⟩, ⟨bq2, [(.int .i64 0), (.int .i64 0), (.slice none 0 0)], 43, true⟩, ⟨bq1, [(.int .i64 (((W : Nat) : Int))), (.int .i64 (((H : Nat) : Int))), (.slice (some ⟨b, o, none⟩) n cap)], 43, true⟩]) (fun _ _ h => h) (by rw [cur_zero]; exact ulR) ?_
    refine GC.region ?_
    refine GL.val (Ex.assign rfl) (by decide) ?_
    refine GL.nil ?_
    refine GE.thenN ?_
    refine GC.block ?_
    refine GC.loop (σ := Nat × List Int) (fun qi2 => qi2.1 ≤ W * H ∧ qi2.2.length = 2 * r + 1) (fun qi2 => [(0, (.agg #[(.int .i64 (((W : Nat) : Int))), (.int .i64 (((H : Nat) : Int))), (.slice (some ⟨b, o, none⟩) n cap)])), (1, (.int .i64 kd)), (2, (.int .i64 (((r : Nat) : Int)))), (3, (.int .i64 k)), (4, (.pointer (some ⟨bq1, 0, none⟩))), (8, (.pointer (some ⟨bq2, 0, none⟩))), (9, (.int .i64 0)), (10, (.slice (some ⟨xq3.1, 0, none⟩) (2 * r + 1) xq3.2.1)), (11, (.int .i64 0)), (12, (.slice (some ⟨bq8, 0, none⟩) (2 * r + 1) (2 * r + 1))), (13, (.pointer (some ⟨j59.1, 0, none⟩))), (14, (.pointer (some ⟨j59.2.2.1, 0, none⟩))), (17, (.int .i64 (((qi2.1 : Nat) : Int))))]) (fun qi2 => [⟨j59.1, [(.int .i64 (((W : Nat) : Int))), (.int .i64 (((H : Nat) : Int))), (.slice (some ⟨j59.2.1, 0, none⟩) (W * H) (W * H))], 43, true⟩, ⟨j59.2.1, (tab W (Bg.blx (Bg.gk kd r) r xs W k) (W * H)).map u32, 63, true⟩, ⟨j59.2.2.1, [(.int .i64 (((W : Nat) : Int))), (.int .i64 (((H : Nat) : Int))), (.slice (some ⟨j59.2.2.2, 0, none⟩) (W * H) (W * H))], 43, true⟩, ⟨j59.2.2.2, cur W (Bg.blr (Bg.gk kd r) r xs W H k) (W * H) qi2.1, 63, true⟩, ⟨bq8, qi2.2.map u32, 63, true⟩, ⟨xq3.1, wl (2 * r + 1) (Bg.gk kd r) ++ xq3.2.2, 3, true⟩, ⟨bq2, [(.int .i64 0), (.int .i64 0), (.slice none 0 0)], 43, true⟩, ⟨bq1, [(.int .i64 (((W : Nat) : Int))), (.int .i64 (((H : Nat) : Int))), (.slice (some ⟨b, o, none⟩) n cap)], 43, true⟩]) (fun qi2 => W * H - qi2.1) ((0, ol1)) ⟨Nat.zero_le _, holi1⟩ ((sub_cons rfl ((sub_cons rfl ((sub_cons rfl ((sub_cons rfl ((sub_cons rfl ((sub_cons rfl ((sub_cons rfl ((sub_cons rfl ((sub_cons rfl ((sub_cons rfl ((sub_cons rfl ((sub_cons rfl ((sub_cons rfl ((sub_nil _)))))))))))))))))))))))))))) (ulC (ulC (ulC (ulC (ulC (ulC (ulC (ulC ulN)))))))) (fun qi2 hp => ?_)
    obtain ⟨i2, ol2⟩ := qi2
    have hpi2 : i2 ≤ W * H ∧ ol2.length = 2 * r + 1 := hp
    have holi2 := hpi2.2
    refine GC.seq ?_
    refine GC.seq ?_
    refine GC.region ?_
    refine GL.val (Ex.move rfl) (by decide) ?_
    refine GL.val (v := (.pointer (some ⟨j59.1, 2, none⟩))) (Ex.cast (Ex.fieldAddr rfl Try.underlying43 rfl T.sz41 (by decide)) rfl) (by decide) ?_
    refine GL.val (Ex.load rfl T.ag41 (i := 0) rfl rfl) (by decide) ?_
    refine GL.val (v := (.int .i64 (((W * H) : Int)))) (Ex.len rfl Try.underlying41) (by decide) ?_
    refine GL.val (v := (.bool (decide ((((i2 : Nat) : Int)) < (((W * H) : Int)))))) (Ex.lss rfl rfl) (by decide) ?_
    refine GL.nil ?_
    refine GE.thenN ?_
    refine GC.cond rfl (fun hq124 => ?_) (fun hq124 => ?_)
    · replace hq124 := of_decide_eq_true hq124
      refine GC.skip ?_
      refine GE.thenN ?_
      refine GC.seq ?_
      refine GC.block ?_
      refine GC.seq ?_
      refine GC.seq ?_
      have hkx : i2 % W < W := Nat.mod_lt _ (by omega)
      have hky : i2 / W < H := Nat.div_lt_of_lt_mul (by omega)
      have hkx0 : (0 : Int) ≤ ((i2 % W : Nat) : Int) := Int.natCast_nonneg _
      have hky0 : (0 : Int) ≤ ((i2 / W : Nat) : Int) := Int.natCast_nonneg _
      refine GC.sub (L' := [⟨j59.1, [(.int .i64 (((W : Nat) : Int))), (.int .i64 (((H : Nat) : Int))), (.slice (some ⟨j59.2.1, 0, none⟩) (W * H) (W * H))], 43, true⟩, ⟨j59.2.1, (tab W (Bg.blx (Bg.gk kd r) r xs W k) (W * H)).map u32, 63, true⟩, ⟨j59.2.2.1, [(.int .i64 (((W : Nat) : Int))), (.int .i64 (((H : Nat) : Int))), (.slice (some ⟨j59.2.2.2, 0, none⟩) (W * H) (W * H))], 43, true⟩, ⟨j59.2.2.2, cur W (Bg.blr (Bg.gk kd r) r xs W H k) (W * H) i2, 63, true⟩, ⟨bq8, pcr 1 (fun _ j => Bg.ny (tab W (Bg.blx (Bg.gk kd r) r xs W k) (W * H)) W H k (i2 % W) (i2 / W) (((j : Nat) : Int) - ((r : Nat) : Int))) ol2 0, 63, true⟩, ⟨xq3.1, wl (2 * r + 1) (Bg.gk kd r) ++ xq3.2.2, 3, true⟩, ⟨bq2, [(.int .i64 0), (.int .i64 0), (.slice none 0 0)], 43, true⟩, ⟨bq1, [(.int .i64 (((W : Nat) : Int))), (.int .i64 (((H : Nat) : Int))), (.slice (some ⟨b, o, none⟩) n cap)], 43, true⟩]) (fun _ _ h => h) (by rw [pcr_zero]; exact ulR) ?_
      refine GC.region ?_
      refine GL.val (Ex.assign rfl) (by decide) ?_
      refine GL.nil ?_
      refine GE.thenN ?_
      refine GC.block ?_
      refine GC.loop (σ := Nat) (fun j2 => j2 ≤ 2 * r + 1) (fun j2 => [(0, (.agg #[(.int .i64 (((W : Nat) : Int))), (.int .i64 (((H : Nat) : Int))), (.slice (some ⟨b, o, none⟩) n cap)])), (1, (.int .i64 kd)), (2, (.int .i64 (((r : Nat) : Int)))), (3, (.int .i64 k)), (4, (.pointer (some ⟨bq1, 0, none⟩))), (8, (.pointer (some ⟨bq2, 0, none⟩))), (9, (.int .i64 0)), (10, (.slice (some ⟨xq3.1, 0, none⟩) (2 * r + 1) xq3.2.1)), (11, (.int .i64 0)), (12, (.slice (some ⟨bq8, 0, none⟩) (2 * r + 1) (2 * r + 1))), (13, (.pointer (some ⟨j59.1, 0, none⟩))), (14, (.pointer (some ⟨j59.2.2.1, 0, none⟩))), (17, (.int .i64 (((i2 : Nat) : Int)))), (18, (.int .i64 (((j2 : Nat) : Int))))]) (fun j2 => [⟨j59.1, [(.int .i64 (((W : Nat) : Int))), (.int .i64 (((H : Nat) : Int))), (.slice (some ⟨j59.2.1, 0, none⟩) (W * H) (W * H))], 43, true⟩, ⟨j59.2.1, (tab W (Bg.blx (Bg.gk kd r) r xs W k) (W * H)).map u32, 63, true⟩, ⟨j59.2.2.1, [(.int .i64 (((W : Nat) : Int))), (.int .i64 (((H : Nat) : Int))), (.slice (some ⟨j59.2.2.2, 0, none⟩) (W * H) (W * H))], 43, true⟩, ⟨j59.2.2.2, cur W (Bg.blr (Bg.gk kd r) r xs W H k) (W * H) i2, 63, true⟩, ⟨bq8, pcr 1 (fun _ j => Bg.ny (tab W (Bg.blx (Bg.gk kd r) r xs W k) (W * H)) W H k (i2 % W) (i2 / W) (((j : Nat) : Int) - ((r : Nat) : Int))) ol2 j2, 63, true⟩, ⟨xq3.1, wl (2 * r + 1) (Bg.gk kd r) ++ xq3.2.2, 3, true⟩, ⟨bq2, [(.int .i64 0), (.int .i64 0), (.slice none 0 0)], 43, true⟩, ⟨bq1, [(.int .i64 (((W : Nat) : Int))), (.int .i64 (((H : Nat) : Int))), (.slice (some ⟨b, o, none⟩) n cap)], 43, true⟩]) (fun j2 => 2 * r + 1 - j2) (0) (Nat.zero_le _) ((sub_cons rfl ((sub_cons rfl ((sub_cons rfl ((sub_cons rfl ((sub_cons rfl ((sub_cons rfl ((sub_cons rfl ((sub_cons rfl ((sub_cons rfl ((sub_cons rfl ((sub_cons rfl ((sub_cons rfl ((sub_cons rfl ((sub_cons rfl ((sub_nil _)))))))))))))))))))))))))))))) (ulC (ulC (ulC (ulC (ulC (ulC (ulC (ulC ulN)))))))) (fun j2 hp => ?_)
      have hpjj2 : j2 ≤ 2 * r + 1 := hp
      refine GC.seq ?_
      refine GC.seq ?_
      refine GC.region ?_
      refine GL.val (Ex.move rfl) (by decide) ?_
      refine GL.val (Ex.move rfl) (by decide) ?_
      refine GL.val (v := (.int .i64 (((2 * r + 1) : Int)))) (Ex.len rfl Try.underlying28) (by decide) ?_
      refine GL.val (v := (.bool (decide ((((j2 : Nat) : Int)) < (((2 * r + 1) : Int)))))) (Ex.lss rfl rfl) (by decide) ?_
      refine GL.nil ?_
      refine GE.thenN ?_
      refine GC.cond rfl (fun hq125 => ?_) (fun hq125 => ?_)
      · replace hq125 := of_decide_eq_true hq125
        refine GC.skip ?_
        refine GE.thenN ?_
        refine GC.seq ?_
        refine GC.block ?_
        refine GC.drawP [⟨j59.1, [(.int .i64 (((W : Nat) : Int))), (.int .i64 (((H : Nat) : Int))), (.slice (some ⟨j59.2.1, 0, none⟩) (W * H) (W * H))], 43, true⟩, ⟨j59.2.1, (tab W (Bg.blx (Bg.gk kd r) r xs W k) (W * H)).map u32, 63, true⟩, ⟨j59.2.2.1, [(.int .i64 (((W : Nat) : Int))), (.int .i64 (((H : Nat) : Int))), (.slice (some ⟨j59.2.2.2, 0, none⟩) (W * H) (W * H))], 43, true⟩, ⟨j59.2.2.2, cur W (Bg.blr (Bg.gk kd r) r xs W H k) (W * H) i2, 63, true⟩, ⟨xq3.1, wl (2 * r + 1) (Bg.gk kd r) ++ xq3.2.2, 3, true⟩, ⟨bq2, [(.int .i64 0), (.int .i64 0), (.slice none 0 0)], 43, true⟩, ⟨bq1, [(.int .i64 (((W : Nat) : Int))), (.int .i64 (((H : Nat) : Int))), (.slice (some ⟨b, o, none⟩) n cap)], 43, true⟩] T.mixed (by kernel_rfl) (by kernel_rfl) (fuel := 21) rfl rfl ?_
        refine GH.take 0 (v := (.slice (some ⟨bq8, 0, none⟩) (2 * r + 1) (2 * r + 1))) rfl (by kernel_rfl) (by kernel_rfl) (by kernel_rfl) (fun _ _ _ h => h) (Ex.move rfl) (ulC (ulC (ulC (ulC (ulS (ulC (ulC (ulC ulN)))))))) (by decide) ?_
        refine GH.take 1 (v := (.int .i64 (((j2 : Nat) : Int)))) rfl (by kernel_rfl) (by kernel_rfl) (by kernel_rfl) (fun _ _ _ h => h) (Ex.move rfl) (ulC (ulC (ulC (ulC (ulS (ulC (ulC (ulC ulN)))))))) (by decide) ?_
        refine GH.take 2 (v := (.agg #[(.int .i64 (((W : Nat) : Int))), (.int .i64 (((H : Nat) : Int))), (.slice (some ⟨j59.2.1, 0, none⟩) (W * H) (W * H))])) rfl (by kernel_rfl) (by kernel_rfl) (by kernel_rfl) (fun _ _ _ h => h) (Ex.loadA rfl T.ag43 T.sz43 (i := 0) rfl (vs := [(.int .i64 (((W : Nat) : Int))), (.int .i64 (((H : Nat) : Int))), (.slice (some ⟨j59.2.1, 0, none⟩) (W * H) (W * H))]) rfl rfl) (ulC (ulC (ulC (ulC (ulS (ulC (ulC (ulC ulN)))))))) (by decide) ?_
        refine GH.take 3 (v := (.int .i64 (((i2 : Nat) : Int)))) rfl (by kernel_rfl) (by kernel_rfl) (by kernel_rfl) (fun _ _ _ h => h) (Ex.move rfl) (ulC (ulC (ulC (ulC (ulS (ulC (ulC (ulC ulN)))))))) (by decide) ?_
        refine GH.take 4 (v := (.pointer (some ⟨bq1, 0, none⟩))) rfl (by kernel_rfl) (by kernel_rfl) (by kernel_rfl) (fun _ _ _ h => h) (Ex.cast (Ex.fieldAddr rfl Try.underlying43 rfl T.sz3 (by decide)) rfl) (ulC (ulC (ulC (ulC (ulS (ulC (ulC (ulC ulN)))))))) (by decide) ?_
        refine GH.take 5 (v := (.int .i64 (((W : Nat) : Int)))) rfl (by kernel_rfl) (by kernel_rfl) (by kernel_rfl) (fun _ _ _ h => h) (Ex.load rfl T.ag3 (i := 6) rfl rfl) (ulC (ulC (ulC (ulC (ulS (ulC (ulC (ulC ulN)))))))) (by decide) ?_
        refine GH.take 6 (v := (.int .i64 (((i2 % W : Nat) : Int)))) rfl (by kernel_rfl) (by kernel_rfl) (by kernel_rfl) (fun _ _ _ h => h) (Ex.rem rfl rfl (Z := ((i2 % W : Nat) : Int)) (by omega) rfl) (ulC (ulC (ulC (ulC (ulS (ulC (ulC (ulC ulN)))))))) (by decide) ?_
        refine GH.take 7 (v := (.int .i64 k)) rfl (by kernel_rfl) (by kernel_rfl) (by kernel_rfl) (fun _ _ _ h => h) (Ex.move rfl) (ulC (ulC (ulC (ulC (ulS (ulC (ulC (ulC ulN)))))))) (by decide) ?_
        refine GH.take 8 (v := (.pointer (some ⟨bq1, 1, none⟩))) rfl (by kernel_rfl) (by kernel_rfl) (by kernel_rfl) (fun _ _ _ h => h) (Ex.cast (Ex.fieldAddr rfl Try.underlying43 rfl T.sz3 (by decide)) rfl) (ulC (ulC (ulC (ulC (ulS (ulC (ulC (ulC ulN)))))))) (by decide) ?_
        refine GH.take 9 (v := (.int .i64 (((H : Nat) : Int)))) rfl (by kernel_rfl) (by kernel_rfl) (by kernel_rfl) (fun _ _ _ h => h) (Ex.load rfl T.ag3 (i := 6) rfl rfl) (ulC (ulC (ulC (ulC (ulS (ulC (ulC (ulC ulN)))))))) (by decide) ?_
        refine GH.take 10 (v := (.int .i64 (((i2 : Nat) : Int)))) rfl (by kernel_rfl) (by kernel_rfl) (by kernel_rfl) (fun _ _ _ h => h) (Ex.move rfl) (ulC (ulC (ulC (ulC (ulS (ulC (ulC (ulC ulN)))))))) (by decide) ?_
        refine GH.take 11 (v := (.pointer (some ⟨bq1, 0, none⟩))) rfl (by kernel_rfl) (by kernel_rfl) (by kernel_rfl) (fun _ _ _ h => h) (Ex.cast (Ex.fieldAddr rfl Try.underlying43 rfl T.sz3 (by decide)) rfl) (ulC (ulC (ulC (ulC (ulS (ulC (ulC (ulC ulN)))))))) (by decide) ?_
        refine GH.take 12 (v := (.int .i64 (((W : Nat) : Int)))) rfl (by kernel_rfl) (by kernel_rfl) (by kernel_rfl) (fun _ _ _ h => h) (Ex.load rfl T.ag3 (i := 6) rfl rfl) (ulC (ulC (ulC (ulC (ulS (ulC (ulC (ulC ulN)))))))) (by decide) ?_
        refine GH.take 13 (v := (.int .i64 ((((i2 : Nat) : Int)) / (((W : Nat) : Int))))) rfl (by kernel_rfl) (by kernel_rfl) (by kernel_rfl) (fun _ _ _ h => h) (Ex.quo rfl rfl (Z := (((i2 : Nat) : Int)) / (((W : Nat) : Int))) (by omega) (quo64 (by omega) (by omega) (by omega))) (ulC (ulC (ulC (ulC (ulS (ulC (ulC (ulC ulN)))))))) (by decide) ?_
        refine GH.take 14 (v := (.int .i64 (((j2 : Nat) : Int)))) rfl (by kernel_rfl) (by kernel_rfl) (by kernel_rfl) (fun _ _ _ h => h) (Ex.move rfl) (ulC (ulC (ulC (ulC (ulS (ulC (ulC (ulC ulN)))))))) (by decide) ?_
        refine GH.take 15 (v := (.int .i64 ((((i2 / W : Nat) : Int) + ((j2 : Nat) : Int))))) rfl (by kernel_rfl) (by kernel_rfl) (by kernel_rfl) (fun _ _ _ h => h) (Ex.add rfl rfl (Z := (((i2 / W : Nat) : Int) + ((j2 : Nat) : Int))) (w64 (by omega))) (ulC (ulC (ulC (ulC (ulS (ulC (ulC (ulC ulN)))))))) (by decide) ?_
        refine GH.take 16 (v := (.int .i64 (((r : Nat) : Int)))) rfl (by kernel_rfl) (by kernel_rfl) (by kernel_rfl) (fun _ _ _ h => h) (Ex.move rfl) (ulC (ulC (ulC (ulC (ulS (ulC (ulC (ulC ulN)))))))) (by decide) ?_
        refine GH.take 17 (v := (.int .i64 ((((i2 / W : Nat) : Int) + (((j2 : Nat) : Int) - ((r : Nat) : Int)))))) rfl (by kernel_rfl) (by kernel_rfl) (by kernel_rfl) (fun _ _ _ h => h) (Ex.sub' rfl rfl (Z := (((i2 / W : Nat) : Int) + (((j2 : Nat) : Int) - ((r : Nat) : Int)))) (by rw [w64 (by omega)]; omega)) (ulC (ulC (ulC (ulC (ulS (ulC (ulC (ulC ulN)))))))) (by decide) ?_
        refine GH.one 18 rfl (by kernel_rfl) (Stp.callR (σ := Unit) (p := fun rz => True) (v := fun rz => (.int .i64 ((((bord k ((H : Nat) : Int) ((((i2 / W : Nat) : Int) + (((j2 : Nat) : Int) - ((r : Nat) : Int))))).1.toNat : Nat) : Int)))) (N := fun rz => []) (vs := [(.int .i64 k), (.int .i64 (((H : Nat) : Int))), (.int .i64 ((((i2 / W : Nat) : Int) + (((j2 : Nat) : Int) - ((r : Nat) : Int)))))]) rfl rfl T.own44 (by decide) (fun wc hw => (by have h := border_r k ((H : Nat) : Int) ((((i2 / W : Nat) : Int) + (((j2 : Nat) : Int) - ((r : Nat) : Int)))) wc; have hb := bord_ok (i := ((((i2 / W : Nat) : Int) + (((j2 : Nat) : Int) - ((r : Nat) : Int))))) hk.1 hk.2 (show (1 : Int) ≤ (H : Nat) by omega) (show ((H : Nat) : Int) ≤ 1024 by omega); rw [show (bord k ((H : Nat) : Int) ((((i2 / W : Nat) : Int) + (((j2 : Nat) : Int) - ((r : Nat) : Int))))).1 = (((bord k ((H : Nat) : Int) ((((i2 / W : Nat) : Int) + (((j2 : Nat) : Int) - ((r : Nat) : Int))))).1.toNat : Nat) : Int) from (Int.toNat_of_nonneg hb.2.1).symm] at h; exact h))) (fun _ => (ulC (ulC (ulC (ulC (ulS (ulC (ulC (ulC ulN))))))))) (fun xq130 hq131 => ?_)
        refine GH.one 19 rfl (by kernel_rfl) (Stp.callR (vs := [(.agg #[(.int .i64 (((W : Nat) : Int))), (.int .i64 (((H : Nat) : Int))), (.slice (some ⟨j59.2.1, 0, none⟩) (W * H) (W * H))]), (.int .i64 (((i2 % W : Nat) : Int))), (.int .i64 ((((bord k ((H : Nat) : Int) ((((i2 / W : Nat) : Int) + (((j2 : Nat) : Int) - ((r : Nat) : Int))))).1.toNat : Nat) : Int)))]) rfl rfl T.own43 (by decide) (fun wc hw => ref_at W (W * H) (W * H) j59.2.1 0 (i2 % W) ((bord k ((H : Nat) : Int) ((((i2 / W : Nat) : Int) + (((j2 : Nat) : Int) - ((r : Nat) : Int))))).1.toNat) H (tab W (Bg.blx (Bg.gk kd r) r xs W k) (W * H)) wc (Bg.at_lt hok rfl hkx (Bg.bY hk hok)) (by omega) (tab_len _ _ _) (hw.rdOf (i := 1) rfl 0))) (fun _ => (ulC (ulC (ulC (ulC (ulS (ulC (ulC (ulC ulN))))))))) (fun xq132 hq133 => ?_)
        refine GH.take 20 (v := (.pointer (some ⟨bq8, j2, none⟩))) rfl (by kernel_rfl) (by kernel_rfl) (by kernel_rfl) (fun _ _ _ h => h) (Ex.cast (Ex.indexAddr rfl rfl Try.underlying41 T.sz63 (by omega) (by omega)) (by simp)) (ulC (ulC (ulC (ulC (ulS (ulC (ulC (ulC ulN)))))))) (by decide) ?_
        refine GH.done (by kernel_rfl) ?_
        refine GE.thenN ?_
        refine GE.tail rfl (Stp.storeL (i := 4) (cs := pcr 1 (fun _ j => Bg.ny (tab W (Bg.blx (Bg.gk kd r) r xs W k) (W * H)) W H k (i2 % W) (i2 / W) (((j : Nat) : Int) - ((r : Nat) : Int))) ol2 j2) (vs := [(.int .u32 ((smp (tab W (Bg.blx (Bg.gk kd r) r xs W k) (W * H)) W (i2 % W) ((bord k ((H : Nat) : Int) ((((i2 / W : Nat) : Int) + (((j2 : Nat) : Int) - ((r : Nat) : Int))))).1.toNat))))]) (o := j2) (L1 := [⟨j59.1, [(.int .i64 (((W : Nat) : Int))), (.int .i64 (((H : Nat) : Int))), (.slice (some ⟨j59.2.1, 0, none⟩) (W * H) (W * H))], 43, true⟩, ⟨j59.2.1, (tab W (Bg.blx (Bg.gk kd r) r xs W k) (W * H)).map u32, 63, true⟩, ⟨j59.2.2.1, [(.int .i64 (((W : Nat) : Int))), (.int .i64 (((H : Nat) : Int))), (.slice (some ⟨j59.2.2.2, 0, none⟩) (W * H) (W * H))], 43, true⟩, ⟨j59.2.2.2, cur W (Bg.blr (Bg.gk kd r) r xs W H k) (W * H) i2, 63, true⟩, ⟨bq8, pcr 1 (fun _ j => Bg.ny (tab W (Bg.blx (Bg.gk kd r) r xs W k) (W * H)) W H k (i2 % W) (i2 / W) (((j : Nat) : Int) - ((r : Nat) : Int))) ol2 (j2 + 1), 63, true⟩, ⟨xq3.1, wl (2 * r + 1) (Bg.gk kd r) ++ xq3.2.2, 3, true⟩, ⟨bq2, [(.int .i64 0), (.int .i64 0), (.slice none 0 0)], 43, true⟩, ⟨bq1, [(.int .i64 (((W : Nat) : Int))), (.int .i64 (((H : Nat) : Int))), (.slice (some ⟨b, o, none⟩) n cap)], 43, true⟩]) rfl rfl rfl T.sz63 rfl (Nat.ble_eq_true_of_le (by rw [pcr_len (by omega)]; simp; omega)) rfl (by rw [pcr_app (W := 1) (g := (fun _ j => Bg.ny (tab W (Bg.blx (Bg.gk kd r) r xs W k) (W * H)) W H k (i2 % W) (i2 / W) (((j : Nat) : Int) - ((r : Nat) : Int)))) (xs := ol2) (k := j2) (v := ((smp (tab W (Bg.blx (Bg.gk kd r) r xs W k) (W * H)) W (i2 % W) ((bord k ((H : Nat) : Int) ((((i2 / W : Nat) : Int) + (((j2 : Nat) : Int) - ((r : Nat) : Int))))).1.toNat)))) (by omega) (Bg.div1 (f := fun q => (fun _ j => Bg.ny (tab W (Bg.blx (Bg.gk kd r) r xs W k) (W * H)) W H k (i2 % W) (i2 / W) (((j : Nat) : Int) - ((r : Nat) : Int))) 0 q) rfl)]; rfl)) (fun _ _ => ?_)
        refine GE.blockN ?_
        refine GE.thenN ?_
        refine GC.region ?_
        refine GL.val (Ex.move rfl) (by decide) ?_
        refine GL.val (v := (.int .i64 (((j2 + 1 : Nat) : Int)))) (Ex.add rfl rfl (Z := ((j2 + 1 : Nat) : Int)) (addN (b := 1) (by omega))) (by decide) ?_
        refine GL.val (Ex.assign rfl) (by decide) ?_
        refine GL.nil ?_
        refine GE.thenN ?_
        exact Head.mk (j2 + 1) (by omega) (by omega) ((sub_cons rfl ((sub_cons rfl ((sub_cons rfl ((sub_cons rfl ((sub_cons rfl ((sub_cons rfl ((sub_cons rfl ((sub_cons rfl ((sub_cons rfl ((sub_cons rfl ((sub_cons rfl ((sub_cons rfl ((sub_cons rfl ((sub_cons rfl ((sub_nil _)))))))))))))))))))))))))))))) (ulC (ulC (ulC (ulC (ulC (ulC (ulC (ulC ulN))))))))
      · replace hq125 := of_decide_eq_false hq125
        have ej : j2 = 2 * r + 1 := by omega
        rw [ej, pcr_full holi2]
        refine GC.exit ?_
        refine GE.thenE ?_
        refine GE.thenE ?_
        refine GE.blockE ?_
        refine GE.thenN ?_
        refine GC.drawP [⟨j59.1, [(.int .i64 (((W : Nat) : Int))), (.int .i64 (((H : Nat) : Int))), (.slice (some ⟨j59.2.1, 0, none⟩) (W * H) (W * H))], 43, true⟩, ⟨j59.2.1, (tab W (Bg.blx (Bg.gk kd r) r xs W k) (W * H)).map u32, 63, true⟩, ⟨j59.2.2.1, [(.int .i64 (((W : Nat) : Int))), (.int .i64 (((H : Nat) : Int))), (.slice (some ⟨j59.2.2.2, 0, none⟩) (W * H) (W * H))], 43, true⟩, ⟨bq8, (tab 1 (fun _ j => Bg.ny (tab W (Bg.blx (Bg.gk kd r) r xs W k) (W * H)) W H k (i2 % W) (i2 / W) (((j : Nat) : Int) - ((r : Nat) : Int))) (2 * r + 1)).map u32, 63, true⟩, ⟨xq3.1, wl (2 * r + 1) (Bg.gk kd r) ++ xq3.2.2, 3, true⟩, ⟨bq2, [(.int .i64 0), (.int .i64 0), (.slice none 0 0)], 43, true⟩, ⟨bq1, [(.int .i64 (((W : Nat) : Int))), (.int .i64 (((H : Nat) : Int))), (.slice (some ⟨b, o, none⟩) n cap)], 43, true⟩] T.mixed (by kernel_rfl) (by kernel_rfl) (fuel := 7) rfl rfl ?_
        refine GH.take 0 (v := (.pointer (some ⟨j59.2.2.1, 2, none⟩))) rfl (by kernel_rfl) (by kernel_rfl) (by kernel_rfl) (fun _ _ _ h => h) (Ex.cast (Ex.fieldAddr rfl Try.underlying43 rfl T.sz41 (by decide)) rfl) (ulC (ulC (ulC (ulS (ulC (ulC (ulC (ulC ulN)))))))) (by decide) ?_
        refine GH.take 1 (v := (.slice (some ⟨j59.2.2.2, 0, none⟩) (W * H) (W * H))) rfl (by kernel_rfl) (by kernel_rfl) (by kernel_rfl) (fun _ _ _ h => h) (Ex.load rfl T.ag41 (i := 2) rfl rfl) (ulC (ulC (ulC (ulS (ulC (ulC (ulC (ulC ulN)))))))) (by decide) ?_
        refine GH.take 2 (v := (.int .i64 (((i2 : Nat) : Int)))) rfl (by kernel_rfl) (by kernel_rfl) (by kernel_rfl) (fun _ _ _ h => h) (Ex.move rfl) (ulC (ulC (ulC (ulS (ulC (ulC (ulC (ulC ulN)))))))) (by decide) ?_
        refine GH.take 3 (v := (.slice (some ⟨bq8, 0, none⟩) (2 * r + 1) (2 * r + 1))) rfl (by kernel_rfl) (by kernel_rfl) (by kernel_rfl) (fun _ _ _ h => h) (Ex.move rfl) (ulC (ulC (ulC (ulS (ulC (ulC (ulC (ulC ulN)))))))) (by decide) ?_
        refine GH.take 4 (v := (.slice (some ⟨xq3.1, 0, none⟩) (2 * r + 1) xq3.2.1)) rfl (by kernel_rfl) (by kernel_rfl) (by kernel_rfl) (fun _ _ _ h => h) (Ex.move rfl) (ulC (ulC (ulC (ulS (ulC (ulC (ulC (ulC ulN)))))))) (by decide) ?_
        refine GH.one 5 rfl (by kernel_rfl) (Stp.callR (σ := Unit) (p := fun rz => True) (v := fun rz => (.int .u32 ((Bg.blr (Bg.gk kd r) r xs W H k (i2 % W) (i2 / W))))) (N := fun rz => []) (vs := [(.slice (some ⟨bq8, 0, none⟩) (2 * r + 1) (2 * r + 1)), (.slice (some ⟨xq3.1, 0, none⟩) (2 * r + 1) xq3.2.1)]) rfl rfl T.own45 (by decide) (fun wc hw => (by have h := ref_weigh bq8 (2 * r + 1) xq3.1 xq3.2.1 (tab 1 (fun _ j => Bg.ny (tab W (Bg.blx (Bg.gk kd r) r xs W k) (W * H)) W H k (i2 % W) (i2 / W) (((j : Nat) : Int) - ((r : Nat) : Int))) (2 * r + 1)) xq3.2.2 (Bg.gk kd r) r wc (tab_len _ _ _) (Bg.tab_bd (fun x y => Bg.smp_bd (Bg.tab_bd (fun x y => Bg.blx_bd x y)) W _ _)) (hw.rdOf (i := 4) rfl 0) hrr (Bg.gk_bd hrr) (Has.cons (hw.hasOf (i := 5) rfl) (Has.nil _)); rw [show Bl.wgh (Bg.gk kd r) (fun i => List.getD (tab 1 (fun _ j => Bg.ny (tab W (Bg.blx (Bg.gk kd r) r xs W k) (W * H)) W H k (i2 % W) (i2 / W) (((j : Nat) : Int) - ((r : Nat) : Int))) (2 * r + 1)) i 0) (2 * r + 1) = Bg.blr (Bg.gk kd r) r xs W H k (i2 % W) (i2 / W) from Bl.wgh_congr (fun i hi => by rw [Bg.tab1 hi])] at h; exact h))) (fun _ => (ulC (ulC (ulC (ulS (ulC (ulC (ulC (ulC ulN))))))))) (fun xq136 hq137 => ?_)
        refine GH.take 6 (v := (.pointer (some ⟨j59.2.2.2, i2, none⟩))) rfl (by kernel_rfl) (by kernel_rfl) (by kernel_rfl) (fun _ _ _ h => h) (Ex.cast (Ex.indexAddr rfl rfl Try.underlying41 T.sz63 (by omega) (by omega)) (by simp)) (ulC (ulC (ulC (ulS (ulC (ulC (ulC (ulC ulN)))))))) (by decide) ?_
        refine GH.done (by kernel_rfl) ?_
        refine GE.thenN ?_
        refine GE.tail rfl (Stp.storeL (i := 3) (cs := cur W (Bg.blr (Bg.gk kd r) r xs W H k) (W * H) i2) (vs := [(.int .u32 ((Bg.blr (Bg.gk kd r) r xs W H k (i2 % W) (i2 / W))))]) (o := i2) (L1 := [⟨j59.1, [(.int .i64 (((W : Nat) : Int))), (.int .i64 (((H : Nat) : Int))), (.slice (some ⟨j59.2.1, 0, none⟩) (W * H) (W * H))], 43, true⟩, ⟨j59.2.1, (tab W (Bg.blx (Bg.gk kd r) r xs W k) (W * H)).map u32, 63, true⟩, ⟨j59.2.2.1, [(.int .i64 (((W : Nat) : Int))), (.int .i64 (((H : Nat) : Int))), (.slice (some ⟨j59.2.2.2, 0, none⟩) (W * H) (W * H))], 43, true⟩, ⟨j59.2.2.2, cur W (Bg.blr (Bg.gk kd r) r xs W H k) (W * H) (i2 + 1), 63, true⟩, ⟨bq8, (tab 1 (fun _ j => Bg.ny (tab W (Bg.blx (Bg.gk kd r) r xs W k) (W * H)) W H k (i2 % W) (i2 / W) (((j : Nat) : Int) - ((r : Nat) : Int))) (2 * r + 1)).map u32, 63, true⟩, ⟨xq3.1, wl (2 * r + 1) (Bg.gk kd r) ++ xq3.2.2, 3, true⟩, ⟨bq2, [(.int .i64 0), (.int .i64 0), (.slice none 0 0)], 43, true⟩, ⟨bq1, [(.int .i64 (((W : Nat) : Int))), (.int .i64 (((H : Nat) : Int))), (.slice (some ⟨b, o, none⟩) n cap)], 43, true⟩]) rfl rfl rfl T.sz63 rfl (Nat.ble_eq_true_of_le (by rw [cur_len _ _ _ _ (by omega)]; simp; omega)) rfl (by rw [cur_app' W (Bg.blr (Bg.gk kd r) r xs W H k) (W * H) i2 ((Bg.blr (Bg.gk kd r) r xs W H k (i2 % W) (i2 / W))) (by omega) rfl]; rfl)) (fun _ _ => ?_)
        refine GE.blockN ?_
        refine GE.thenN ?_
        refine GC.region ?_
        refine GL.val (Ex.move rfl) (by decide) ?_
        refine GL.val (v := (.int .i64 (((i2 + 1 : Nat) : Int)))) (Ex.add rfl rfl (Z := ((i2 + 1 : Nat) : Int)) (addN (b := 1) (by omega))) (by decide) ?_
        refine GL.val (Ex.assign rfl) (by decide) ?_
        refine GL.nil ?_
        refine GE.thenN ?_
        exact Head.mk ((i2 + 1, tab 1 (fun _ j => Bg.ny (tab W (Bg.blx (Bg.gk kd r) r xs W k) (W * H)) W H k (i2 % W) (i2 / W) (((j : Nat) : Int) - ((r : Nat) : Int))) (2 * r + 1))) ⟨(by show i2 + 1 ≤ W * H; omega), (by dsimp only; exact tab_len _ _ _)⟩ (by show W * H - (i2 + 1) < W * H - i2; omega) ((sub_cons rfl ((sub_cons rfl ((sub_cons rfl ((sub_cons rfl ((sub_cons rfl ((sub_cons rfl ((sub_cons rfl ((sub_cons rfl ((sub_cons rfl ((sub_cons rfl ((sub_cons rfl ((sub_cons rfl ((sub_cons rfl ((sub_nil _)))))))))))))))))))))))))))) (ulC (ulC (ulC (ulC (ulC (ulC (ulC (ulC ulN))))))))
    · replace hq124 := of_decide_eq_false hq124
      refine GC.exit ?_
      refine GE.thenE ?_
      refine GE.thenE ?_
      refine GE.blockE ?_
      refine GE.thenN ?_
      refine GC.seq ?_
      refine GC.region ?_
      refine GL.val (v := (.agg #[(.int .i64 (((W : Nat) : Int))), (.int .i64 (((H : Nat) : Int))), (.slice (some ⟨j59.2.2.2, 0, none⟩) (W * H) (W * H))])) (Ex.loadA rfl T.ag43 T.sz43 (i := 2) rfl (vs := [(.int .i64 (((W : Nat) : Int))), (.int .i64 (((H : Nat) : Int))), (.slice (some ⟨j59.2.2.2, 0, none⟩) (W * H) (W * H))]) rfl rfl) (by decide) ?_
      refine GL.step (Stp.st6 (cs' := [(.int .i64 (((W : Nat) : Int))), (.int .i64 (((H : Nat) : Int))), (.slice (some ⟨j59.2.2.2, 0, none⟩) (W * H) (W * H))]) rfl rfl rfl T.sz43 rfl rfl rfl) (fun _ _ => ?_)
      refine GL.val (Ex.assign rfl) (by decide) ?_
      refine GL.nil ?_
      refine GE.thenN ?_
      refine GC.ret ?_
      refine GC.ret2 rfl (Rv.cellA rfl T.ag43 T.sz43 (L := _) (i := 6) rfl (vs := [(.int .i64 (((W : Nat) : Int))), (.int .i64 (((H : Nat) : Int))), (.slice (some ⟨j59.2.2.2, 0, none⟩) (W * H) (W * H))]) rfl rfl) (Rv.tmp rfl) (fun wN HN => ?_)
      have ek : i2 = W * H := by omega
      rw [ek, cur_full] at HN
      exact HN.ret j59.2.2.2 trivial rfl (ulS (ulS (ulS (ulC (ulS (ulS (ulS (ulS ulN)))))))) rfl

set_option maxRecDepth 100000 in
set_option maxHeartbeats 1000000 in
theorem r38_1 (c0 : Nat) (w : World) (hh : Has w [⟨c0, [(.int .u32 0), (.int .u32 0), (.int .u32 1065353216), (.int .u32 0), (.int .u32 0)], 63, false⟩]) :
    Calls Try.prog 38 #[(.slice (some ⟨c0, 0, none⟩) 5 5)] w (Ret w (fun _ : Unit => True) (fun rz => (.agg #[(.int .i64 5), (.int .i64 1), (.slice (some ⟨c0, 0, none⟩) 5 5)])) (fun rz => [])) := by
  refine enter (M := None) (L := [⟨c0, [(.int .u32 0), (.int .u32 0), (.int .u32 1065353216), (.int .u32 0), (.int .u32 0)], 63, false⟩]) (n := 7) (l := [(0, (.slice (some ⟨c0, 0, none⟩) 5 5))]) Try.func38 rfl rfl (Args.cons rfl (Args.nil _)) (Hp.reads hh rfl) ?_
  refine GC.seq ?_
  refine GC.region ?_
  refine GL.step (Stp.alloc T.zr43 (by decide)) (fun bq1 _ => ?_)
  refine GL.nil ?_
  refine GE.thenN ?_
  refine GC.seq ?_
  refine GC.region ?_
  refine GL.val (Ex.move rfl) (by decide) ?_
  refine GL.val (v := (.int .i64 5)) (Ex.len rfl Try.underlying41) (by decide) ?_
  refine GL.val (Ex.move rfl) (by decide) ?_
  refine GL.val (v := (.agg #[(.int .i64 5), (.int .i64 1), (.slice (some ⟨c0, 0, none⟩) 5 5)])) (Ex.build (vs := [(0, (.int .i64 5)), (1, (.int .i64 1)), (2, (.slice (some ⟨c0, 0, none⟩) 5 5))]) rfl (by first | rfl | kernel_rfl)) (by decide) ?_
  refine GL.step (Stp.st0 (cs' := [(.int .i64 5), (.int .i64 1), (.slice (some ⟨c0, 0, none⟩) 5 5)]) rfl rfl rfl T.sz43 rfl rfl rfl) (fun _ _ => ?_)
  refine GL.nil ?_
  refine GE.thenN ?_
  refine GC.ret ?_
  refine GC.ret1 rfl (Rv.cellA rfl T.ag43 T.sz43 (L := _) (i := 0) rfl (vs := [(.int .i64 5), (.int .i64 1), (.slice (some ⟨c0, 0, none⟩) 5 5)]) rfl rfl) (fun wN HN => ?_)
  exact HN.ret () trivial rfl (ulS (ulS ulN)) rfl

set_option maxRecDepth 100000 in
set_option maxHeartbeats 1000000 in
theorem r38_2 (c0 : Nat) (w : World) (hh : Has w [⟨c0, [(.int .u32 1077936128), (.int .u32 0), (.int .u32 0)], 63, false⟩]) :
    Calls Try.prog 38 #[(.slice (some ⟨c0, 0, none⟩) 3 3)] w (Ret w (fun _ : Unit => True) (fun rz => (.agg #[(.int .i64 3), (.int .i64 1), (.slice (some ⟨c0, 0, none⟩) 3 3)])) (fun rz => [])) := by
  refine enter (M := None) (L := [⟨c0, [(.int .u32 1077936128), (.int .u32 0), (.int .u32 0)], 63, false⟩]) (n := 7) (l := [(0, (.slice (some ⟨c0, 0, none⟩) 3 3))]) Try.func38 rfl rfl (Args.cons rfl (Args.nil _)) (Hp.reads hh rfl) ?_
  refine GC.seq ?_
  refine GC.region ?_
  refine GL.step (Stp.alloc T.zr43 (by decide)) (fun bq1 _ => ?_)
  refine GL.nil ?_
  refine GE.thenN ?_
  refine GC.seq ?_
  refine GC.region ?_
  refine GL.val (Ex.move rfl) (by decide) ?_
  refine GL.val (v := (.int .i64 3)) (Ex.len rfl Try.underlying41) (by decide) ?_
  refine GL.val (Ex.move rfl) (by decide) ?_
  refine GL.val (v := (.agg #[(.int .i64 3), (.int .i64 1), (.slice (some ⟨c0, 0, none⟩) 3 3)])) (Ex.build (vs := [(0, (.int .i64 3)), (1, (.int .i64 1)), (2, (.slice (some ⟨c0, 0, none⟩) 3 3))]) rfl (by first | rfl | kernel_rfl)) (by decide) ?_
  refine GL.step (Stp.st0 (cs' := [(.int .i64 3), (.int .i64 1), (.slice (some ⟨c0, 0, none⟩) 3 3)]) rfl rfl rfl T.sz43 rfl rfl rfl) (fun _ _ => ?_)
  refine GL.nil ?_
  refine GE.thenN ?_
  refine GC.ret ?_
  refine GC.ret1 rfl (Rv.cellA rfl T.ag43 T.sz43 (L := _) (i := 0) rfl (vs := [(.int .i64 3), (.int .i64 1), (.slice (some ⟨c0, 0, none⟩) 3 3)]) rfl rfl) (fun wN HN => ?_)
  exact HN.ret () trivial rfl (ulS (ulS ulN)) rfl

set_option maxRecDepth 100000 in
set_option maxHeartbeats 1000000 in
theorem r38_3 (c0 : Nat) (w : World) (hh : Has w [⟨c0, [(.int .u32 1065353216), (.int .u32 1073741824), (.int .u32 1082130432)], 63, false⟩]) :
    Calls Try.prog 38 #[(.slice (some ⟨c0, 0, none⟩) 3 3)] w (Ret w (fun _ : Unit => True) (fun rz => (.agg #[(.int .i64 3), (.int .i64 1), (.slice (some ⟨c0, 0, none⟩) 3 3)])) (fun rz => [])) := by
  refine enter (M := None) (L := [⟨c0, [(.int .u32 1065353216), (.int .u32 1073741824), (.int .u32 1082130432)], 63, false⟩]) (n := 7) (l := [(0, (.slice (some ⟨c0, 0, none⟩) 3 3))]) Try.func38 rfl rfl (Args.cons rfl (Args.nil _)) (Hp.reads hh rfl) ?_
  refine GC.seq ?_
  refine GC.region ?_
  refine GL.step (Stp.alloc T.zr43 (by decide)) (fun bq1 _ => ?_)
  refine GL.nil ?_
  refine GE.thenN ?_
  refine GC.seq ?_
  refine GC.region ?_
  refine GL.val (Ex.move rfl) (by decide) ?_
  refine GL.val (v := (.int .i64 3)) (Ex.len rfl Try.underlying41) (by decide) ?_
  refine GL.val (Ex.move rfl) (by decide) ?_
  refine GL.val (v := (.agg #[(.int .i64 3), (.int .i64 1), (.slice (some ⟨c0, 0, none⟩) 3 3)])) (Ex.build (vs := [(0, (.int .i64 3)), (1, (.int .i64 1)), (2, (.slice (some ⟨c0, 0, none⟩) 3 3))]) rfl (by first | rfl | kernel_rfl)) (by decide) ?_
  refine GL.step (Stp.st0 (cs' := [(.int .i64 3), (.int .i64 1), (.slice (some ⟨c0, 0, none⟩) 3 3)]) rfl rfl rfl T.sz43 rfl rfl rfl) (fun _ _ => ?_)
  refine GL.nil ?_
  refine GE.thenN ?_
  refine GC.ret ?_
  refine GC.ret1 rfl (Rv.cellA rfl T.ag43 T.sz43 (L := _) (i := 0) rfl (vs := [(.int .i64 3), (.int .i64 1), (.slice (some ⟨c0, 0, none⟩) 3 3)]) rfl rfl) (fun wN HN => ?_)
  exact HN.ret () trivial rfl (ulS (ulS ulN)) rfl

set_option maxRecDepth 100000 in
set_option maxHeartbeats 1000000 in
theorem r38_4 (c0 : Nat) (w : World) (hh : Has w [⟨c0, [(.int .u32 0), (.int .u32 1048576000), (.int .u32 1056964608), (.int .u32 1048576000), (.int .u32 0)], 63, false⟩]) :
    Calls Try.prog 38 #[(.slice (some ⟨c0, 0, none⟩) 5 5)] w (Ret w (fun _ : Unit => True) (fun rz => (.agg #[(.int .i64 5), (.int .i64 1), (.slice (some ⟨c0, 0, none⟩) 5 5)])) (fun rz => [])) := by
  refine enter (M := None) (L := [⟨c0, [(.int .u32 0), (.int .u32 1048576000), (.int .u32 1056964608), (.int .u32 1048576000), (.int .u32 0)], 63, false⟩]) (n := 7) (l := [(0, (.slice (some ⟨c0, 0, none⟩) 5 5))]) Try.func38 rfl rfl (Args.cons rfl (Args.nil _)) (Hp.reads hh rfl) ?_
  refine GC.seq ?_
  refine GC.region ?_
  refine GL.step (Stp.alloc T.zr43 (by decide)) (fun bq1 _ => ?_)
  refine GL.nil ?_
  refine GE.thenN ?_
  refine GC.seq ?_
  refine GC.region ?_
  refine GL.val (Ex.move rfl) (by decide) ?_
  refine GL.val (v := (.int .i64 5)) (Ex.len rfl Try.underlying41) (by decide) ?_
  refine GL.val (Ex.move rfl) (by decide) ?_
  refine GL.val (v := (.agg #[(.int .i64 5), (.int .i64 1), (.slice (some ⟨c0, 0, none⟩) 5 5)])) (Ex.build (vs := [(0, (.int .i64 5)), (1, (.int .i64 1)), (2, (.slice (some ⟨c0, 0, none⟩) 5 5))]) rfl (by first | rfl | kernel_rfl)) (by decide) ?_
  refine GL.step (Stp.st0 (cs' := [(.int .i64 5), (.int .i64 1), (.slice (some ⟨c0, 0, none⟩) 5 5)]) rfl rfl rfl T.sz43 rfl rfl rfl) (fun _ _ => ?_)
  refine GL.nil ?_
  refine GE.thenN ?_
  refine GC.ret ?_
  refine GC.ret1 rfl (Rv.cellA rfl T.ag43 T.sz43 (L := _) (i := 0) rfl (vs := [(.int .i64 5), (.int .i64 1), (.slice (some ⟨c0, 0, none⟩) 5 5)]) rfl rfl) (fun wN HN => ?_)
  exact HN.ret () trivial rfl (ulS (ulS ulN)) rfl

set_option maxRecDepth 100000 in
set_option maxHeartbeats 1000000 in
theorem r38_5 (c0 : Nat) (w : World) (hh : Has w [⟨c0, [(.int .u32 1065353216), (.int .u32 1065353216), (.int .u32 1065353216)], 63, false⟩]) :
    Calls Try.prog 38 #[(.slice (some ⟨c0, 0, none⟩) 3 3)] w (Ret w (fun _ : Unit => True) (fun rz => (.agg #[(.int .i64 3), (.int .i64 1), (.slice (some ⟨c0, 0, none⟩) 3 3)])) (fun rz => [])) := by
  refine enter (M := None) (L := [⟨c0, [(.int .u32 1065353216), (.int .u32 1065353216), (.int .u32 1065353216)], 63, false⟩]) (n := 7) (l := [(0, (.slice (some ⟨c0, 0, none⟩) 3 3))]) Try.func38 rfl rfl (Args.cons rfl (Args.nil _)) (Hp.reads hh rfl) ?_
  refine GC.seq ?_
  refine GC.region ?_
  refine GL.step (Stp.alloc T.zr43 (by decide)) (fun bq1 _ => ?_)
  refine GL.nil ?_
  refine GE.thenN ?_
  refine GC.seq ?_
  refine GC.region ?_
  refine GL.val (Ex.move rfl) (by decide) ?_
  refine GL.val (v := (.int .i64 3)) (Ex.len rfl Try.underlying41) (by decide) ?_
  refine GL.val (Ex.move rfl) (by decide) ?_
  refine GL.val (v := (.agg #[(.int .i64 3), (.int .i64 1), (.slice (some ⟨c0, 0, none⟩) 3 3)])) (Ex.build (vs := [(0, (.int .i64 3)), (1, (.int .i64 1)), (2, (.slice (some ⟨c0, 0, none⟩) 3 3))]) rfl (by first | rfl | kernel_rfl)) (by decide) ?_
  refine GL.step (Stp.st0 (cs' := [(.int .i64 3), (.int .i64 1), (.slice (some ⟨c0, 0, none⟩) 3 3)]) rfl rfl rfl T.sz43 rfl rfl rfl) (fun _ _ => ?_)
  refine GL.nil ?_
  refine GE.thenN ?_
  refine GC.ret ?_
  refine GC.ret1 rfl (Rv.cellA rfl T.ag43 T.sz43 (L := _) (i := 0) rfl (vs := [(.int .i64 3), (.int .i64 1), (.slice (some ⟨c0, 0, none⟩) 3 3)]) rfl rfl) (fun wN HN => ?_)
  exact HN.ret () trivial rfl (ulS (ulS ulN)) rfl

set_option maxRecDepth 100000 in
set_option maxHeartbeats 1000000 in
theorem r38_6 (c0 : Nat) (w : World) (hh : Has w [⟨c0, [(.int .u32 1056964608), (.int .u32 1069547520), (.int .u32 1065353216)], 63, false⟩]) :
    Calls Try.prog 38 #[(.slice (some ⟨c0, 0, none⟩) 3 3)] w (Ret w (fun _ : Unit => True) (fun rz => (.agg #[(.int .i64 3), (.int .i64 1), (.slice (some ⟨c0, 0, none⟩) 3 3)])) (fun rz => [])) := by
  refine enter (M := None) (L := [⟨c0, [(.int .u32 1056964608), (.int .u32 1069547520), (.int .u32 1065353216)], 63, false⟩]) (n := 7) (l := [(0, (.slice (some ⟨c0, 0, none⟩) 3 3))]) Try.func38 rfl rfl (Args.cons rfl (Args.nil _)) (Hp.reads hh rfl) ?_
  refine GC.seq ?_
  refine GC.region ?_
  refine GL.step (Stp.alloc T.zr43 (by decide)) (fun bq1 _ => ?_)
  refine GL.nil ?_
  refine GE.thenN ?_
  refine GC.seq ?_
  refine GC.region ?_
  refine GL.val (Ex.move rfl) (by decide) ?_
  refine GL.val (v := (.int .i64 3)) (Ex.len rfl Try.underlying41) (by decide) ?_
  refine GL.val (Ex.move rfl) (by decide) ?_
  refine GL.val (v := (.agg #[(.int .i64 3), (.int .i64 1), (.slice (some ⟨c0, 0, none⟩) 3 3)])) (Ex.build (vs := [(0, (.int .i64 3)), (1, (.int .i64 1)), (2, (.slice (some ⟨c0, 0, none⟩) 3 3))]) rfl (by first | rfl | kernel_rfl)) (by decide) ?_
  refine GL.step (Stp.st0 (cs' := [(.int .i64 3), (.int .i64 1), (.slice (some ⟨c0, 0, none⟩) 3 3)]) rfl rfl rfl T.sz43 rfl rfl rfl) (fun _ _ => ?_)
  refine GL.nil ?_
  refine GE.thenN ?_
  refine GC.ret ?_
  refine GC.ret1 rfl (Rv.cellA rfl T.ag43 T.sz43 (L := _) (i := 0) rfl (vs := [(.int .i64 3), (.int .i64 1), (.slice (some ⟨c0, 0, none⟩) 3 3)]) rfl rfl) (fun wN HN => ?_)
  exact HN.ret () trivial rfl (ulS (ulS ulN)) rfl

set_option maxRecDepth 100000 in
set_option maxHeartbeats 1000000 in
theorem r38_7 (c0 : Nat) (w : World) (hh : Has w [⟨c0, [(.int .u32 0), (.int .u32 0), (.int .u32 0)], 63, false⟩]) :
    Calls Try.prog 38 #[(.slice (some ⟨c0, 0, none⟩) 3 3)] w (Ret w (fun _ : Unit => True) (fun rz => (.agg #[(.int .i64 3), (.int .i64 1), (.slice (some ⟨c0, 0, none⟩) 3 3)])) (fun rz => [])) := by
  refine enter (M := None) (L := [⟨c0, [(.int .u32 0), (.int .u32 0), (.int .u32 0)], 63, false⟩]) (n := 7) (l := [(0, (.slice (some ⟨c0, 0, none⟩) 3 3))]) Try.func38 rfl rfl (Args.cons rfl (Args.nil _)) (Hp.reads hh rfl) ?_
  refine GC.seq ?_
  refine GC.region ?_
  refine GL.step (Stp.alloc T.zr43 (by decide)) (fun bq1 _ => ?_)
  refine GL.nil ?_
  refine GE.thenN ?_
  refine GC.seq ?_
  refine GC.region ?_
  refine GL.val (Ex.move rfl) (by decide) ?_
  refine GL.val (v := (.int .i64 3)) (Ex.len rfl Try.underlying41) (by decide) ?_
  refine GL.val (Ex.move rfl) (by decide) ?_
  refine GL.val (v := (.agg #[(.int .i64 3), (.int .i64 1), (.slice (some ⟨c0, 0, none⟩) 3 3)])) (Ex.build (vs := [(0, (.int .i64 3)), (1, (.int .i64 1)), (2, (.slice (some ⟨c0, 0, none⟩) 3 3))]) rfl (by first | rfl | kernel_rfl)) (by decide) ?_
  refine GL.step (Stp.st0 (cs' := [(.int .i64 3), (.int .i64 1), (.slice (some ⟨c0, 0, none⟩) 3 3)]) rfl rfl rfl T.sz43 rfl rfl rfl) (fun _ _ => ?_)
  refine GL.nil ?_
  refine GE.thenN ?_
  refine GC.ret ?_
  refine GC.ret1 rfl (Rv.cellA rfl T.ag43 T.sz43 (L := _) (i := 0) rfl (vs := [(.int .i64 3), (.int .i64 1), (.slice (some ⟨c0, 0, none⟩) 3 3)]) rfl rfl) (fun wN HN => ?_)
  exact HN.ret () trivial rfl (ulS (ulS ulN)) rfl

set_option maxRecDepth 100000 in
set_option maxHeartbeats 1000000 in
theorem known (w : World) :
    Calls Try.prog 12 #[] w (Ret w (fun _ : Unit => True) (fun _ => .bool true) (fun _ => [])) := by
  refine enter (M := None) (L := []) (n := 82) (l := []) Try.func12 rfl rfl (Args.nil _) (Hp.start _ _) ?_
  refine GC.seq ?_
  refine GC.region ?_
  refine GL.val (Ex.assign rfl) (by decide) ?_
  refine GL.nil ?_
  refine GE.thenN ?_
  refine GC.seq ?_
  refine GC.region ?_
  refine GL.step (Stp.callR (σ := Nat) (p := fun rz => True) (v := fun rz => (.tuple #[(.slice (some ⟨rz, 0, none⟩) 5 5), (.int .i64 0)])) (N := fun rz => [⟨rz, [(.int .i64 1), (.int .i64 4), (.int .i64 6), (.int .i64 4), (.int .i64 1)], 3, true⟩]) (vs := [(.int .i64 1), (.int .i64 2)]) rfl rfl T.own14 (by decide) (fun wc hw => (by have h := weights1 2 wc (by decide); rw [show wl (2 * 2 + 1) (pv (2 * 2)) = [(Value.int .i64 1), (Value.int .i64 4), (Value.int .i64 6), (Value.int .i64 4), (Value.int .i64 1)] from by kernel_rfl] at h; exact h))) (fun xq1 hq2 => ?_)
  refine GL.val (Ex.move rfl) (by decide) ?_
  refine GL.val (Ex.extract rfl rfl) (by decide) ?_
  refine GL.val (Ex.extract rfl rfl) (by decide) ?_
  refine GL.val (Ex.assign rfl) (by decide) ?_
  refine GL.val (Ex.assign rfl) (by decide) ?_
  refine GL.nil ?_
  refine GE.thenN ?_
  refine GC.seq ?_
  refine GC.region ?_
  refine GL.step (Stp.callR (σ := Nat) (p := fun rz => True) (v := fun rz => (.tuple #[(.slice (some ⟨rz, 0, none⟩) 3 3), (.int .i64 0)])) (N := fun rz => [⟨rz, [(.int .i64 1), (.int .i64 1), (.int .i64 1)], 3, true⟩]) (vs := [(.int .i64 2), (.int .i64 1)]) rfl rfl T.own14 (by decide) (fun wc hw => (by have h := weights2 1 wc (by decide); rw [show wl (2 * 1 + 1) (fun _ => 1) = [(Value.int .i64 1), (Value.int .i64 1), (Value.int .i64 1)] from by kernel_rfl] at h; exact h))) (fun xq3 hq4 => ?_)
  refine GL.val (Ex.move rfl) (by decide) ?_
  refine GL.val (Ex.extract rfl rfl) (by decide) ?_
  refine GL.val (Ex.extract rfl rfl) (by decide) ?_
  refine GL.val (Ex.assign rfl) (by decide) ?_
  refine GL.val (Ex.assign rfl) (by decide) ?_
  refine GL.nil ?_
  refine GE.thenN ?_
  refine GC.seq ?_
  refine GC.region ?_
  refine GL.step (Stp.buildSlice (cs := [(.int .u32 0), (.int .u32 0), (.int .u32 1065353216), (.int .u32 0), (.int .u32 0)]) (vs := [(0, (.int .u32 0)), (1, (.int .u32 0)), (2, (.int .u32 1065353216)), (3, (.int .u32 0)), (4, (.int .u32 0))]) Try.underlying41 T.zr63 T.sz63 rfl (by decide) (by decide) (by first | rfl | kernel_rfl) (by decide)) (fun bq5 _ => ?_)
  refine GL.step (Stp.callR (vs := [(.slice (some ⟨bq5, 0, none⟩) 5 5)]) rfl rfl T.own38 (by decide) (fun wc hw => r38_1 bq5 wc (Has.cons (hw.hasOf (i := 0) rfl) (Has.nil _)))) (fun xq6 hq7 => ?_)
  refine GL.step (Stp.callR (σ := Nat) (p := fun rz => True) (v := fun rz => (.tuple #[(.agg #[(.int .i64 5), (.int .i64 1), (.slice (some ⟨rz, 0, none⟩) 5 5)]), (.int .i64 0)])) (N := fun rz => [⟨rz, [(.int .u32 0), (.int .u32 1048576000), (.int .u32 1056964608), (.int .u32 1048576000), (.int .u32 0)], 63, true⟩]) (vs := [(.agg #[(.int .i64 5), (.int .i64 1), (.slice (some ⟨bq5, 0, none⟩) 5 5)]), (.int .i64 1), (.int .i64 1), (.int .i64 1)]) rfl rfl T.own21 (by decide) (fun wc hw => (by have h := blur_ok 5 1 5 5 bq5 0 1 1 1 [0, 0, 1065353216, 0, 0] wc (by decide) (by decide) rfl rfl (by decide) (show Rd _ _ _ (List.map u32 [0, 0, 1065353216, 0, 0]) from hw.rdOf (i := 0) rfl 0) (by decide) (by decide); rw [show tab 5 (Bg.blr (Bg.gk 1 1) 1 [0, 0, 1065353216, 0, 0] 5 1 1) (5 * 1) = [0, 1048576000, 1056964608, 1048576000, 0] from by decide +kernel] at h; exact h))) (fun xq8 hq9 => ?_)
  refine GL.val (Ex.move rfl) (by decide) ?_
  refine GL.val (Ex.extract rfl rfl) (by decide) ?_
  refine GL.val (Ex.extract rfl rfl) (by decide) ?_
  refine GL.step (Stp.alloc T.zr43 (by decide)) (fun bq10 _ => ?_)
  refine GL.step (Stp.st0 (cs' := [(.int .i64 5), (.int .i64 1), (.slice (some ⟨xq8, 0, none⟩) 5 5)]) rfl rfl rfl T.sz43 rfl rfl rfl) (fun _ _ => ?_)
  refine GL.val (Ex.assign rfl) (by decide) ?_
  refine GL.nil ?_
  refine GE.thenN ?_
  refine GC.seq ?_
  refine GC.region ?_
  refine GL.step (Stp.buildSlice (cs := [(.int .u32 1077936128), (.int .u32 0), (.int .u32 0)]) (vs := [(0, (.int .u32 1077936128)), (1, (.int .u32 0)), (2, (.int .u32 0))]) Try.underlying41 T.zr63 T.sz63 rfl (by decide) (by decide) (by first | rfl | kernel_rfl) (by decide)) (fun bq11 _ => ?_)
  refine GL.step (Stp.callR (vs := [(.slice (some ⟨bq11, 0, none⟩) 3 3)]) rfl rfl T.own38 (by decide) (fun wc hw => r38_2 bq11 wc (Has.cons (hw.hasOf (i := 0) rfl) (Has.nil _)))) (fun xq12 hq13 => ?_)
  refine GL.step (Stp.callR (σ := Nat) (p := fun rz => True) (v := fun rz => (.tuple #[(.agg #[(.int .i64 3), (.int .i64 1), (.slice (some ⟨rz, 0, none⟩) 3 3)]), (.int .i64 0)])) (N := fun rz => [⟨rz, [(.int .u32 1065353216), (.int .u32 1065353216), (.int .u32 1065353216)], 63, true⟩]) (vs := [(.agg #[(.int .i64 3), (.int .i64 1), (.slice (some ⟨bq11, 0, none⟩) 3 3)]), (.int .i64 2), (.int .i64 1), (.int .i64 3)]) rfl rfl T.own21 (by decide) (fun wc hw => (by have h := blur_ok 3 1 3 3 bq11 0 3 2 1 [1077936128, 0, 0] wc (by decide) (by decide) rfl rfl (by decide) (show Rd _ _ _ (List.map u32 [1077936128, 0, 0]) from hw.rdOf (i := 0) rfl 0) (by decide) (by decide); rw [show tab 3 (Bg.blr (Bg.gk 2 1) 1 [1077936128, 0, 0] 3 1 3) (3 * 1) = [1065353216, 1065353216, 1065353216] from by decide +kernel] at h; exact h))) (fun xq14 hq15 => ?_)
  refine GL.val (Ex.move rfl) (by decide) ?_
  refine GL.val (Ex.extract rfl rfl) (by decide) ?_
  refine GL.val (Ex.extract rfl rfl) (by decide) ?_
  refine GL.step (Stp.alloc T.zr43 (by decide)) (fun bq16 _ => ?_)
  refine GL.step (Stp.st0 (cs' := [(.int .i64 3), (.int .i64 1), (.slice (some ⟨xq14, 0, none⟩) 3 3)]) rfl rfl rfl T.sz43 rfl rfl rfl) (fun _ _ => ?_)
  refine GL.val (Ex.assign rfl) (by decide) ?_
  refine GL.nil ?_
  refine GE.thenN ?_
  refine GC.seq ?_
  refine GC.region ?_
  refine GL.step (Stp.buildSlice (cs := [(.int .u32 1065353216), (.int .u32 1073741824), (.int .u32 1082130432)]) (vs := [(0, (.int .u32 1065353216)), (1, (.int .u32 1073741824)), (2, (.int .u32 1082130432))]) Try.underlying41 T.zr63 T.sz63 rfl (by decide) (by decide) (by first | rfl | kernel_rfl) (by decide)) (fun bq17 _ => ?_)
  refine GL.step (Stp.callR (vs := [(.slice (some ⟨bq17, 0, none⟩) 3 3)]) rfl rfl T.own38 (by decide) (fun wc hw => r38_3 bq17 wc (Has.cons (hw.hasOf (i := 0) rfl) (Has.nil _)))) (fun xq18 hq19 => ?_)
  refine GL.step (Stp.callR (σ := Nat × Nat) (p := fun rz => True) (v := fun rz => (.tuple #[(.agg #[(.int .i64 3), (.int .i64 1), (.slice (some ⟨rz.1, 0, none⟩) 3 3)]), (.agg #[(.int .i64 3), (.int .i64 1), (.slice (some ⟨rz.2, 0, none⟩) 3 3)]), (.int .i64 0)])) (N := fun rz => [⟨rz.2, [(.int .u32 0), (.int .u32 0), (.int .u32 0)], 63, true⟩, ⟨rz.1, [(.int .u32 1056964608), (.int .u32 1069547520), (.int .u32 1065353216)], 63, true⟩]) (vs := [(.agg #[(.int .i64 3), (.int .i64 1), (.slice (some ⟨bq17, 0, none⟩) 3 3)]), (.int .i64 1)]) rfl rfl T.own26 (by decide) (fun wc hw => (by have h := grad_ok 3 1 3 3 bq17 0 1 [1065353216, 1073741824, 1082130432] wc (by decide) (by decide) rfl rfl (by decide) (show Rd _ _ _ (List.map u32 [1065353216, 1073741824, 1082130432]) from hw.rdOf (i := 0) rfl 0); rw [show tab 3 (Bg.slx [1065353216, 1073741824, 1082130432] 3 1) (3 * 1) = [1056964608, 1069547520, 1065353216] from by decide +kernel, show tab 3 (Bg.sly [1065353216, 1073741824, 1082130432] 3 1 1) (3 * 1) = [0, 0, 0] from by decide +kernel] at h; exact h))) (fun xq20 hq21 => ?_)
  refine GL.val (Ex.move rfl) (by decide) ?_
  refine GL.val (Ex.extract rfl rfl) (by decide) ?_
  refine GL.val (Ex.extract rfl rfl) (by decide) ?_
  refine GL.val (Ex.extract rfl rfl) (by decide) ?_
  refine GL.step (Stp.alloc T.zr43 (by decide)) (fun bq22 _ => ?_)
  refine GL.step (Stp.alloc T.zr43 (by decide)) (fun bq23 _ => ?_)
  refine GL.step (Stp.st1 (cs' := [(.int .i64 3), (.int .i64 1), (.slice (some ⟨xq20.1, 0, none⟩) 3 3)]) rfl rfl rfl T.sz43 rfl rfl rfl) (fun _ _ => ?_)
  refine GL.step (Stp.st0 (cs' := [(.int .i64 3), (.int .i64 1), (.slice (some ⟨xq20.2, 0, none⟩) 3 3)]) rfl rfl rfl T.sz43 rfl rfl rfl) (fun _ _ => ?_)
  refine GL.val (Ex.assign rfl) (by decide) ?_
  refine GL.nil ?_
  refine GE.thenN ?_
  refine GC.seq ?_
  refine GC.seq ?_
  refine GC.region ?_
  refine GL.val (Ex.move rfl) (by decide) ?_
  refine GL.step (Stp.callR (vs := [(.int .i64 0)]) rfl rfl T.own15 (by decide) (fun wc hw => num 0 wc)) (fun xq24 hq25 => ?_)
  refine GL.val (Ex.move rfl) (by decide) ?_
  refine GL.step (Stp.callR (vs := [(.int .i64 0)]) rfl rfl T.own15 (by decide) (fun wc hw => num 0 wc)) (fun xq26 hq27 => ?_)
  refine GL.val (v := (.int .i64 0)) (Ex.add rfl rfl (Z := 0) (by decide)) (by decide) ?_
  refine GL.val (Ex.move rfl) (by decide) ?_
  refine GL.step (Stp.callR (vs := [(.int .i64 0)]) rfl rfl T.own15 (by decide) (fun wc hw => num 0 wc)) (fun xq28 hq29 => ?_)
  refine GL.val (v := (.int .i64 0)) (Ex.add rfl rfl (Z := 0) (by decide)) (by decide) ?_
  refine GL.val (v := (.bool false)) (Ex.cast (Ex.neq rfl rfl) rfl) (by decide) ?_
  refine GL.val (Ex.move rfl) (by decide) ?_
  refine GL.stepG (tj := 48) rfl rfl (Ex.wp (v := (.slice (some ⟨xq1, 0, none⟩) 5 5)) (Ex.move rfl) (by decide)) (fun _ _ => ?_)
  refine GL.stepG (tj := 48) rfl rfl (Stp.buildSlice (cs := [(.int .i64 1), (.int .i64 4), (.int .i64 6), (.int .i64 4), (.int .i64 1)]) (vs := [(0, (.int .i64 1)), (1, (.int .i64 4)), (2, (.int .i64 6)), (3, (.int .i64 4)), (4, (.int .i64 1))]) Try.underlying28 T.zr3 T.sz3 rfl (by decide) (by decide) (by first | rfl | kernel_rfl) (by decide)) (fun bq30 _ => ?_)
  refine GL.stepG (tj := 48) rfl rfl (Stp.callR (vs := [(.slice (some ⟨xq1, 0, none⟩) 5 5), (.slice (some ⟨bq30, 0, none⟩) 5 5)]) rfl rfl T.own16 (by decide) (fun wc hw => ints_eq xq1 bq30 5 5 5 (pv (2 * 2)) [] wc (by decide) (show Has _ [⟨xq1, wl 5 (pv (2 * 2)), 3, false⟩, ⟨bq30, wl 5 (pv (2 * 2)) ++ [], 3, false⟩] from Has.cons (hw.hasOf (i := 13) rfl) (Has.cons (hw.hasOf (i := 0) rfl) (Has.nil _))))) (fun xq31 hq32 => ?_)
  refine GL.stepG (tj := 48) rfl rfl (Ex.wp (v := (.bool false)) (Ex.cast (Ex.not rfl) rfl) (by decide)) (fun _ _ => ?_)
  refine GL.val (v := (.bool false)) (Ex.pickF rfl rfl) (by decide) ?_
  refine GL.val (Ex.move rfl) (by decide) ?_
  refine GL.stepG (tj := 54) rfl rfl (Ex.wp (v := (.slice (some ⟨xq3, 0, none⟩) 3 3)) (Ex.move rfl) (by decide)) (fun _ _ => ?_)
  refine GL.stepG (tj := 54) rfl rfl (Stp.buildSlice (cs := [(.int .i64 1), (.int .i64 1), (.int .i64 1)]) (vs := [(0, (.int .i64 1)), (1, (.int .i64 1)), (2, (.int .i64 1))]) Try.underlying28 T.zr3 T.sz3 rfl (by decide) (by decide) (by first | rfl | kernel_rfl) (by decide)) (fun bq33 _ => ?_)
  refine GL.stepG (tj := 54) rfl rfl (Stp.callR (vs := [(.slice (some ⟨xq3, 0, none⟩) 3 3), (.slice (some ⟨bq33, 0, none⟩) 3 3)]) rfl rfl T.own16 (by decide) (fun wc hw => ints_eq xq3 bq33 3 3 3 (fun _ => 1) [] wc (by decide) (show Has _ [⟨xq3, wl 3 (fun _ => 1), 3, false⟩, ⟨bq33, wl 3 (fun _ => 1) ++ [], 3, false⟩] from Has.cons (hw.hasOf (i := 13) rfl) (Has.cons (hw.hasOf (i := 0) rfl) (Has.nil _))))) (fun xq34 hq35 => ?_)
  refine GL.stepG (tj := 54) rfl rfl (Ex.wp (v := (.bool false)) (Ex.cast (Ex.not rfl) rfl) (by decide)) (fun _ _ => ?_)
  refine GL.val (v := (.bool false)) (Ex.pickF rfl rfl) (by decide) ?_
  refine GL.nil ?_
  refine GE.thenN ?_
  refine GC.cond rfl (fun hq36 => by cases hq36) (fun _ => ?_)
  refine GC.skip ?_
  refine GE.thenN ?_
  refine GC.seq ?_
  refine GC.drawP [⟨bq33, [(.int .i64 1), (.int .i64 1), (.int .i64 1)], 3, true⟩, ⟨bq30, [(.int .i64 1), (.int .i64 4), (.int .i64 6), (.int .i64 4), (.int .i64 1)], 3, true⟩, ⟨bq23, [(.int .i64 3), (.int .i64 1), (.slice (some ⟨xq20.2, 0, none⟩) 3 3)], 43, true⟩, ⟨bq22, [(.int .i64 3), (.int .i64 1), (.slice (some ⟨xq20.1, 0, none⟩) 3 3)], 43, true⟩, ⟨xq20.2, [(.int .u32 0), (.int .u32 0), (.int .u32 0)], 63, true⟩, ⟨xq20.1, [(.int .u32 1056964608), (.int .u32 1069547520), (.int .u32 1065353216)], 63, true⟩, ⟨bq17, [(.int .u32 1065353216), (.int .u32 1073741824), (.int .u32 1082130432)], 63, true⟩, ⟨bq16, [(.int .i64 3), (.int .i64 1), (.slice (some ⟨xq14, 0, none⟩) 3 3)], 43, true⟩, ⟨xq14, [(.int .u32 1065353216), (.int .u32 1065353216), (.int .u32 1065353216)], 63, true⟩, ⟨bq11, [(.int .u32 1077936128), (.int .u32 0), (.int .u32 0)], 63, true⟩, ⟨bq10, [(.int .i64 5), (.int .i64 1), (.slice (some ⟨xq8, 0, none⟩) 5 5)], 43, true⟩, ⟨xq8, [(.int .u32 0), (.int .u32 1048576000), (.int .u32 1056964608), (.int .u32 1048576000), (.int .u32 0)], 63, true⟩, ⟨bq5, [(.int .u32 0), (.int .u32 0), (.int .u32 1065353216), (.int .u32 0), (.int .u32 0)], 63, true⟩, ⟨xq3, [(.int .i64 1), (.int .i64 1), (.int .i64 1)], 3, true⟩, ⟨xq1, [(.int .i64 1), (.int .i64 4), (.int .i64 6), (.int .i64 4), (.int .i64 1)], 3, true⟩] T.mixed (by kernel_rfl) (by kernel_rfl) (fuel := 22) rfl rfl ?_
  refine GH.take 0 (v := (.agg #[(.int .i64 5), (.int .i64 1), (.slice (some ⟨xq8, 0, none⟩) 5 5)])) rfl (by kernel_rfl) (by kernel_rfl) (by kernel_rfl) (fun _ _ _ h => h) (Ex.loadA rfl T.ag43 T.sz43 (i := 10) rfl (vs := [(.int .i64 5), (.int .i64 1), (.slice (some ⟨xq8, 0, none⟩) 5 5)]) rfl rfl) (ulC (ulC (ulC (ulC (ulC (ulC (ulC (ulC (ulC (ulC (ulC (ulC (ulC (ulC (ulC ulN))))))))))))))) (by decide) ?_
  refine GH.one 1 rfl (by kernel_rfl) (Stp.buildSlice (cs := [(.int .u32 0), (.int .u32 1048576000), (.int .u32 1056964608), (.int .u32 1048576000), (.int .u32 0)]) (vs := [(0, (.int .u32 0)), (1, (.int .u32 1048576000)), (2, (.int .u32 1056964608)), (3, (.int .u32 1048576000)), (4, (.int .u32 0))]) Try.underlying41 T.zr63 T.sz63 rfl (by decide) (by decide) (by first | rfl | kernel_rfl) (by decide)) (fun _ => (ulS (ulC (ulC (ulC (ulC (ulC (ulC (ulC (ulC (ulC (ulC (ulC (ulC (ulC (ulC (ulC ulN))))))))))))))))) (fun bq37 _ => ?_)
  refine GH.one 2 rfl (by kernel_rfl) (Stp.callR (vs := [(.slice (some ⟨bq37, 0, none⟩) 5 5)]) rfl rfl T.own38 (by decide) (fun wc hw => r38_4 bq37 wc (Has.cons (hw.hasOf (i := 0) rfl) (Has.nil _)))) (fun _ => (ulS (ulC (ulC (ulC (ulC (ulC (ulC (ulC (ulC (ulC (ulC (ulC (ulC (ulC (ulC (ulC ulN))))))))))))))))) (fun xq38 hq39 => ?_)
  refine GH.one 3 rfl (by kernel_rfl) (Stp.callR (vs := [(.agg #[(.int .i64 5), (.int .i64 1), (.slice (some ⟨xq8, 0, none⟩) 5 5)]), (.agg #[(.int .i64 5), (.int .i64 1), (.slice (some ⟨bq37, 0, none⟩) 5 5)])]) rfl rfl T.own22 (by decide) (fun wc hw => help_eq 5 1 xq8 0 bq37 0 5 5 5 [0, 1048576000, 1056964608, 1048576000, 0] wc rfl (by decide) (show Rd _ _ _ (List.map u32 [0, 1048576000, 1056964608, 1048576000, 0]) from hw.rdOf (i := 12) rfl 0) (show Rd _ _ _ (List.map u32 [0, 1048576000, 1056964608, 1048576000, 0]) from hw.rdOf (i := 0) rfl 0))) (fun _ => (ulS (ulC (ulC (ulC (ulC (ulC (ulC (ulC (ulC (ulC (ulC (ulC (ulC (ulC (ulC (ulC ulN))))))))))))))))) (fun xq40 hq41 => ?_)
  refine GH.take 4 (v := (.bool true)) rfl (by kernel_rfl) (by kernel_rfl) (by kernel_rfl) (fun _ _ _ h => h) (Ex.move rfl) (ulS (ulC (ulC (ulC (ulC (ulC (ulC (ulC (ulC (ulC (ulC (ulC (ulC (ulC (ulC (ulC ulN)))))))))))))))) (by decide) ?_
  refine GH.takeG 5 (tj := 64) (v := (.agg #[(.int .i64 3), (.int .i64 1), (.slice (some ⟨xq14, 0, none⟩) 3 3)])) rfl rfl rfl (by kernel_rfl) (by kernel_rfl) (by kernel_rfl) (fun _ _ _ h => h) (Ex.loadA rfl T.ag43 T.sz43 (i := 7) rfl (vs := [(.int .i64 3), (.int .i64 1), (.slice (some ⟨xq14, 0, none⟩) 3 3)]) rfl rfl) (ulS (ulC (ulC (ulC (ulC (ulC (ulC (ulC (ulC (ulC (ulC (ulC (ulC (ulC (ulC (ulC ulN)))))))))))))))) (by decide) ?_
  refine GH.oneG 6 (tj := 64) rfl rfl rfl (by kernel_rfl) (Stp.buildSlice (cs := [(.int .u32 1065353216), (.int .u32 1065353216), (.int .u32 1065353216)]) (vs := [(0, (.int .u32 1065353216)), (1, (.int .u32 1065353216)), (2, (.int .u32 1065353216))]) Try.underlying41 T.zr63 T.sz63 rfl (by decide) (by decide) (by first | rfl | kernel_rfl) (by decide)) (fun _ => (ulS (ulS (ulC (ulC (ulC (ulC (ulC (ulC (ulC (ulC (ulC (ulC (ulC (ulC (ulC (ulC (ulC ulN)))))))))))))))))) (fun bq42 _ => ?_)
  refine GH.oneG 7 (tj := 64) rfl rfl rfl (by kernel_rfl) (Stp.callR (vs := [(.slice (some ⟨bq42, 0, none⟩) 3 3)]) rfl rfl T.own38 (by decide) (fun wc hw => r38_5 bq42 wc (Has.cons (hw.hasOf (i := 0) rfl) (Has.nil _)))) (fun _ => (ulS (ulS (ulC (ulC (ulC (ulC (ulC (ulC (ulC (ulC (ulC (ulC (ulC (ulC (ulC (ulC (ulC ulN)))))))))))))))))) (fun xq43 hq44 => ?_)
  refine GH.oneG 8 (tj := 64) rfl rfl rfl (by kernel_rfl) (Stp.callR (vs := [(.agg #[(.int .i64 3), (.int .i64 1), (.slice (some ⟨xq14, 0, none⟩) 3 3)]), (.agg #[(.int .i64 3), (.int .i64 1), (.slice (some ⟨bq42, 0, none⟩) 3 3)])]) rfl rfl T.own22 (by decide) (fun wc hw => help_eq 3 1 xq14 0 bq42 0 3 3 3 [1065353216, 1065353216, 1065353216] wc rfl (by decide) (show Rd _ _ _ (List.map u32 [1065353216, 1065353216, 1065353216]) from hw.rdOf (i := 10) rfl 0) (show Rd _ _ _ (List.map u32 [1065353216, 1065353216, 1065353216]) from hw.rdOf (i := 0) rfl 0))) (fun _ => (ulS (ulS (ulC (ulC (ulC (ulC (ulC (ulC (ulC (ulC (ulC (ulC (ulC (ulC (ulC (ulC (ulC ulN)))))))))))))))))) (fun xq45 hq46 => ?_)
  refine GH.take 9 (v := (.bool true)) rfl (by kernel_rfl) (by kernel_rfl) (by kernel_rfl) (fun _ _ _ h => h) (Ex.pickT rfl rfl) (ulS (ulS (ulC (ulC (ulC (ulC (ulC (ulC (ulC (ulC (ulC (ulC (ulC (ulC (ulC (ulC (ulC ulN))))))))))))))))) (by decide) ?_
  refine GH.take 10 (v := (.bool true)) rfl (by kernel_rfl) (by kernel_rfl) (by kernel_rfl) (fun _ _ _ h => h) (Ex.move rfl) (ulS (ulS (ulC (ulC (ulC (ulC (ulC (ulC (ulC (ulC (ulC (ulC (ulC (ulC (ulC (ulC (ulC ulN))))))))))))))))) (by decide) ?_
  refine GH.takeG 11 (tj := 70) (v := (.agg #[(.int .i64 3), (.int .i64 1), (.slice (some ⟨xq20.1, 0, none⟩) 3 3)])) rfl rfl rfl (by kernel_rfl) (by kernel_rfl) (by kernel_rfl) (fun _ _ _ h => h) (Ex.loadA rfl T.ag43 T.sz43 (i := 3) rfl (vs := [(.int .i64 3), (.int .i64 1), (.slice (some ⟨xq20.1, 0, none⟩) 3 3)]) rfl rfl) (ulS (ulS (ulC (ulC (ulC (ulC (ulC (ulC (ulC (ulC (ulC (ulC (ulC (ulC (ulC (ulC (ulC ulN))))))))))))))))) (by decide) ?_
  refine GH.oneG 12 (tj := 70) rfl rfl rfl (by kernel_rfl) (Stp.buildSlice (cs := [(.int .u32 1056964608), (.int .u32 1069547520), (.int .u32 1065353216)]) (vs := [(0, (.int .u32 1056964608)), (1, (.int .u32 1069547520)), (2, (.int .u32 1065353216))]) Try.underlying41 T.zr63 T.sz63 rfl (by decide) (by decide) (by first | rfl | kernel_rfl) (by decide)) (fun _ => (ulS (ulS (ulS (ulC (ulC (ulC (ulC (ulC (ulC (ulC (ulC (ulC (ulC (ulC (ulC (ulC (ulC (ulC ulN))))))))))))))))))) (fun bq47 _ => ?_)
  refine GH.oneG 13 (tj := 70) rfl rfl rfl (by kernel_rfl) (Stp.callR (vs := [(.slice (some ⟨bq47, 0, none⟩) 3 3)]) rfl rfl T.own38 (by decide) (fun wc hw => r38_6 bq47 wc (Has.cons (hw.hasOf (i := 0) rfl) (Has.nil _)))) (fun _ => (ulS (ulS (ulS (ulC (ulC (ulC (ulC (ulC (ulC (ulC (ulC (ulC (ulC (ulC (ulC (ulC (ulC (ulC ulN))))))))))))))))))) (fun xq48 hq49 => ?_)
  refine GH.oneG 14 (tj := 70) rfl rfl rfl (by kernel_rfl) (Stp.callR (vs := [(.agg #[(.int .i64 3), (.int .i64 1), (.slice (some ⟨xq20.1, 0, none⟩) 3 3)]), (.agg #[(.int .i64 3), (.int .i64 1), (.slice (some ⟨bq47, 0, none⟩) 3 3)])]) rfl rfl T.own22 (by decide) (fun wc hw => help_eq 3 1 xq20.1 0 bq47 0 3 3 3 [1056964608, 1069547520, 1065353216] wc rfl (by decide) (show Rd _ _ _ (List.map u32 [1056964608, 1069547520, 1065353216]) from hw.rdOf (i := 8) rfl 0) (show Rd _ _ _ (List.map u32 [1056964608, 1069547520, 1065353216]) from hw.rdOf (i := 0) rfl 0))) (fun _ => (ulS (ulS (ulS (ulC (ulC (ulC (ulC (ulC (ulC (ulC (ulC (ulC (ulC (ulC (ulC (ulC (ulC (ulC ulN))))))))))))))))))) (fun xq50 hq51 => ?_)
  refine GH.take 15 (v := (.bool true)) rfl (by kernel_rfl) (by kernel_rfl) (by kernel_rfl) (fun _ _ _ h => h) (Ex.pickT rfl rfl) (ulS (ulS (ulS (ulC (ulC (ulC (ulC (ulC (ulC (ulC (ulC (ulC (ulC (ulC (ulC (ulC (ulC (ulC ulN)))))))))))))))))) (by decide) ?_
  refine GH.take 16 (v := (.bool true)) rfl (by kernel_rfl) (by kernel_rfl) (by kernel_rfl) (fun _ _ _ h => h) (Ex.move rfl) (ulS (ulS (ulS (ulC (ulC (ulC (ulC (ulC (ulC (ulC (ulC (ulC (ulC (ulC (ulC (ulC (ulC (ulC ulN)))))))))))))))))) (by decide) ?_
  refine GH.takeG 17 (tj := 76) (v := (.agg #[(.int .i64 3), (.int .i64 1), (.slice (some ⟨xq20.2, 0, none⟩) 3 3)])) rfl rfl rfl (by kernel_rfl) (by kernel_rfl) (by kernel_rfl) (fun _ _ _ h => h) (Ex.loadA rfl T.ag43 T.sz43 (i := 2) rfl (vs := [(.int .i64 3), (.int .i64 1), (.slice (some ⟨xq20.2, 0, none⟩) 3 3)]) rfl rfl) (ulS (ulS (ulS (ulC (ulC (ulC (ulC (ulC (ulC (ulC (ulC (ulC (ulC (ulC (ulC (ulC (ulC (ulC ulN)))))))))))))))))) (by decide) ?_
  refine GH.oneG 18 (tj := 76) rfl rfl rfl (by kernel_rfl) (Stp.buildSlice (cs := [(.int .u32 0), (.int .u32 0), (.int .u32 0)]) (vs := [(0, (.int .u32 0)), (1, (.int .u32 0)), (2, (.int .u32 0))]) Try.underlying41 T.zr63 T.sz63 rfl (by decide) (by decide) (by first | rfl | kernel_rfl) (by decide)) (fun _ => (ulS (ulS (ulS (ulS (ulC (ulC (ulC (ulC (ulC (ulC (ulC (ulC (ulC (ulC (ulC (ulC (ulC (ulC (ulC ulN)))))))))))))))))))) (fun bq52 _ => ?_)
  refine GH.oneG 19 (tj := 76) rfl rfl rfl (by kernel_rfl) (Stp.callR (vs := [(.slice (some ⟨bq52, 0, none⟩) 3 3)]) rfl rfl T.own38 (by decide) (fun wc hw => r38_7 bq52 wc (Has.cons (hw.hasOf (i := 0) rfl) (Has.nil _)))) (fun _ => (ulS (ulS (ulS (ulS (ulC (ulC (ulC (ulC (ulC (ulC (ulC (ulC (ulC (ulC (ulC (ulC (ulC (ulC (ulC ulN)))))))))))))))))))) (fun xq53 hq54 => ?_)
  refine GH.oneG 20 (tj := 76) rfl rfl rfl (by kernel_rfl) (Stp.callR (vs := [(.agg #[(.int .i64 3), (.int .i64 1), (.slice (some ⟨xq20.2, 0, none⟩) 3 3)]), (.agg #[(.int .i64 3), (.int .i64 1), (.slice (some ⟨bq52, 0, none⟩) 3 3)])]) rfl rfl T.own22 (by decide) (fun wc hw => help_eq 3 1 xq20.2 0 bq52 0 3 3 3 [0, 0, 0] wc rfl (by decide) (show Rd _ _ _ (List.map u32 [0, 0, 0]) from hw.rdOf (i := 8) rfl 0) (show Rd _ _ _ (List.map u32 [0, 0, 0]) from hw.rdOf (i := 0) rfl 0))) (fun _ => (ulS (ulS (ulS (ulS (ulC (ulC (ulC (ulC (ulC (ulC (ulC (ulC (ulC (ulC (ulC (ulC (ulC (ulC (ulC ulN)))))))))))))))))))) (fun xq55 hq56 => ?_)
  refine GH.take 21 (v := (.bool true)) rfl (by kernel_rfl) (by kernel_rfl) (by kernel_rfl) (fun _ _ _ h => h) (Ex.pickT rfl rfl) (ulS (ulS (ulS (ulS (ulC (ulC (ulC (ulC (ulC (ulC (ulC (ulC (ulC (ulC (ulC (ulC (ulC (ulC (ulC ulN))))))))))))))))))) (by decide) ?_
  refine GH.done (by kernel_rfl) ?_
  refine GE.thenN ?_
  refine GE.tail rfl (Ex.wp (v := (.bool true)) (Ex.assign rfl) (by decide)) (fun _ _ => ?_)
  refine GE.thenN ?_
  refine GC.ret ?_
  refine GC.ret1 rfl (Rv.tmp rfl) (fun wN HN => ?_)
  exact HN.ret () trivial (by first | rfl | simp) (List.nil_sublist _) rfl

set_option maxRecDepth 100000 in
set_option maxHeartbeats 1000000 in
theorem room_s0 (w0 : World) (R : List Blk) (rb n cap : Nat) (ad : Option Addr) (xs : List Int) (w : World) (hs : Lst w0 ad n xs) (hb : n ≤ 35184372087808) (hp0 : Hp None w0 (⟨rb, [(.slice none 0 0), (.slice none 0 0), (.slice none 0 0), (.slice none 0 0), (.slice none 0 0), (.slice none 0 0), (.slice none 0 0), (.slice none 0 0)], 46, true⟩ :: R) w) :
    Calls Try.prog 40 #[(.pointer (some ⟨rb, 0, none⟩)), (.slice ad n cap)] w (Frm (σ := (Nat × Nat × List Value) × (Nat × Nat × List Value) × (Nat × Nat × List Value) × Nat) None w0 (fun x => ([(Value.slice (some ⟨x.2.2.2, 0, none⟩) (n + 5) (n + 5))] ++ x.2.2.1.2.2 : List Value).length = x.2.2.1.2.1 * 1 ∧ ([(Value.slice (some ⟨x.2.1.1, 0, none⟩) (n + 5) x.2.1.2.1)] ++ x.1.2.2 : List Value).length = x.1.2.1 * 1) (fun x => (.slice (some ⟨x.2.2.2, 0, none⟩) n (n + 5))) (fun x => (⟨x.1.1, [(Value.slice (some ⟨x.2.1.1, 0, none⟩) (n + 5) x.2.1.2.1)] ++ x.1.2.2, 41, true⟩ :: ⟨x.2.1.1, (roomL xs).map u32 ++ x.2.1.2.2, 63, true⟩ :: ⟨x.2.2.1.1, [(Value.slice (some ⟨x.2.2.2, 0, none⟩) (n + 5) (n + 5))] ++ x.2.2.1.2.2, 41, true⟩ :: ⟨x.2.2.2, (roomL xs).map u32, 63, true⟩ :: ⟨rb, [(.slice (some ⟨x.2.2.1.1, 0, none⟩) 1 x.2.2.1.2.1), (.slice (some ⟨x.1.1, 0, none⟩) 1 x.1.2.1), (.slice none 0 0), (.slice none 0 0), (.slice none 0 0), (.slice none 0 0), (.slice none 0 0), (.slice none 0 0)], 46, true⟩ :: R))) := by
  have hsl := hs.1
  refine enterF (w0 := w0) (M := None) (L := (⟨rb, [(.slice none 0 0), (.slice none 0 0), (.slice none 0 0), (.slice none 0 0), (.slice none 0 0), (.slice none 0 0), (.slice none 0 0), (.slice none 0 0)], 46, true⟩ :: R)) (n := 53) (l := [(0, (.pointer (some ⟨rb, 0, none⟩))), (1, (.slice ad n cap))]) Try.func40 rfl rfl (Args.cons rfl (Args.cons rfl (Args.nil _))) hp0 ?_
  refine GC.seq ?_
  refine GC.region ?_
  refine GL.val (Ex.assign rfl) (by decide) ?_
  refine GL.nil ?_
  refine GE.thenN ?_
  refine GC.seq ?_
  refine GC.region ?_
  refine GL.val (Ex.move rfl) (by decide) ?_
  refine GL.val (v := (.int .i64 ((n : Int)))) (Ex.len rfl Try.underlying41) (by decide) ?_
  refine GL.val (v := (.int .i64 (((n + 5 : Nat) : Int)))) (Ex.add rfl rfl (Z := ((n + 5 : Nat) : Int)) (by rw [w64 (by omega)]; rfl)) (by decide) ?_
  refine GL.step (Stp.makeSlice (a1 := n + 5) (c := n + 5) rfl rfl Try.underlying41 T.zr63 T.sz63 T.by63 rfl (Nat.le_refl _) (by omega) (by omega) (by decide)) (fun bq1 _ => ?_)
  rw [madeCells_one]
  refine GL.val (Ex.assign rfl) (by decide) ?_
  refine GL.nil ?_
  refine GE.thenN ?_
  refine GC.seq ?_
  refine GC.region ?_
  refine GL.val (Ex.move rfl) (by decide) ?_
  refine GL.val (Ex.move rfl) (by decide) ?_
  refine GL.step (Stp.copyO (i := 0) (vs := xs.map u32) (L1 := (⟨bq1, roomC xs 0, 63, true⟩ :: ⟨rb, [(.slice none 0 0), (.slice none 0 0), (.slice none 0 0), (.slice none 0 0), (.slice none 0 0), (.slice none 0 0), (.slice none 0 0), (.slice none 0 0)], 46, true⟩ :: R)) rfl rfl Try.underlying41 T.sz63 rfl (hs.2.2.2.imp id (fun ⟨b', o', e, hr⟩ => ⟨b', o', e, fun wz hz => hz.rd hr (fun x => x)⟩)) (by simpa using hs.1) (by omega) (by simp) (u32_one xs) (by rw [roomC_zero xs hs.1]; rfl) (by decide)) (fun _ _ => ?_)
  refine GL.nil ?_
  refine GE.thenN ?_
  refine GC.seq ?_
  refine GC.seq ?_
  refine GC.region ?_
  refine GL.val (Ex.move rfl) (by decide) ?_
  refine GL.val (v := (.int .i64 ((n : Int)))) (Ex.len rfl Try.underlying41) (by decide) ?_
  refine GL.val (Ex.assign rfl) (by decide) ?_
  refine GL.nil ?_
  refine GE.thenN ?_
  refine GC.block ?_
  refine GC.loop (σ := Nat) (fun k => k ≤ 5) (fun k => [(0, (.pointer (some ⟨rb, 0, none⟩))), (1, (.slice ad n cap)), (5, (.slice (some ⟨bq1, 0, none⟩) (n + 5) (n + 5))), (6, (.int .i64 (((n + k : Nat) : Int))))]) (fun k => (⟨bq1, roomC xs k, 63, true⟩ :: ⟨rb, [(.slice none 0 0), (.slice none 0 0), (.slice none 0 0), (.slice none 0 0), (.slice none 0 0), (.slice none 0 0), (.slice none 0 0), (.slice none 0 0)], 46, true⟩ :: R)) (fun k => 5 - k) (0) (by decide) ((sub_cons rfl ((sub_cons rfl ((sub_cons rfl ((sub_cons rfl ((sub_nil _)))))))))) (ulC (ulC ulR)) (fun k hp => ?_)
  refine GC.seq ?_
  refine GC.seq ?_
  refine GC.region ?_
  refine GL.val (Ex.move rfl) (by decide) ?_
  refine GL.val (Ex.move rfl) (by decide) ?_
  refine GL.val (v := (.int .i64 (((n + 5) : Int)))) (Ex.len rfl Try.underlying41) (by decide) ?_
  refine GL.val (v := (.bool (decide ((((n + k : Nat) : Int)) < (((n + 5) : Int)))))) (Ex.lss rfl rfl) (by decide) ?_
  refine GL.nil ?_
  refine GE.thenN ?_
  refine GC.cond rfl (fun hq2 => ?_) (fun hq2 => ?_)
  · replace hq2 := of_decide_eq_true hq2
    refine GC.skip ?_
    refine GE.thenN ?_
    refine GC.seq ?_
    refine GC.block ?_
    refine GC.region ?_
    refine GL.val (Ex.move rfl) (by decide) ?_
    refine GL.val (Ex.move rfl) (by decide) ?_
    refine GL.val (Ex.move rfl) (by decide) ?_
    refine GL.val (v := (.int .i64 (2141192202 + (((n + k : Nat) : Int))))) (Ex.add rfl rfl (Z := 2141192202 + (((n + k : Nat) : Int))) (w64 (by omega))) (by decide) ?_
    refine GL.val (v := (.int .u32 (fil (n + k)))) (Ex.conv rfl Try.underlying3 Try.underlying63 (Z := fil (n + k)) (by rw [wu32]; rfl)) (by decide) ?_
    refine GL.val (v := (.pointer (some ⟨bq1, n + k, none⟩))) (Ex.cast (Ex.indexAddr rfl rfl Try.underlying41 T.sz63 (by omega) (by omega)) (by simp)) (by decide) ?_
    refine GL.step (Stp.storeL (i := 0) (cs := roomC xs k) (vs := [.int .u32 (fil (n + k))]) (o := n + k) (L1 := (⟨bq1, roomC xs (k + 1), 63, true⟩ :: ⟨rb, [(.slice none 0 0), (.slice none 0 0), (.slice none 0 0), (.slice none 0 0), (.slice none 0 0), (.slice none 0 0), (.slice none 0 0), (.slice none 0 0)], 46, true⟩ :: R)) rfl rfl rfl T.sz63 rfl (Nat.ble_eq_true_of_le (by rw [roomC_len (by omega)]; simp; omega)) rfl (by rw [roomC_store hs.1 (by omega)]; rfl)) (fun _ _ => ?_)
    refine GL.nil ?_
    refine GE.blockN ?_
    refine GE.thenN ?_
    refine GC.region ?_
    refine GL.val (Ex.move rfl) (by decide) ?_
    refine GL.val (v := (.int .i64 (((n + (k + 1) : Nat) : Int)))) (Ex.add rfl rfl (Z := ((n + (k + 1) : Nat) : Int)) (by rw [w64 (by omega)]; simp only [Int.natCast_add]; omega)) (by decide) ?_
    refine GL.val (Ex.assign rfl) (by decide) ?_
    refine GL.nil ?_
    refine GE.thenN ?_
    exact Head.mk (k + 1) (by omega) (by omega) ((sub_cons rfl ((sub_cons rfl ((sub_cons rfl ((sub_cons rfl ((sub_nil _)))))))))) (ulC (ulC ulR))
  · replace hq2 := of_decide_eq_false hq2
    refine GC.exit ?_
    refine GE.thenE ?_
    refine GE.thenE ?_
    refine GE.blockE ?_
    refine GE.thenN ?_
    refine GC.seq ?_
    obtain rfl : k = 5 := by omega
    rw [roomC_full]
    refine GC.region ?_
    refine GL.val (Ex.move rfl) (by decide) ?_
    refine GL.val (Ex.move rfl) (by decide) ?_
    refine GL.val (v := (.pointer (some ⟨rb, 0, none⟩))) (Ex.nilCheck rfl) (by decide) ?_
    refine GL.val (v := (.pointer (some ⟨rb, 0, none⟩))) (Ex.cast (Ex.fieldAddr rfl Try.underlying46 rfl T.sz24 (by decide)) rfl) (by decide) ?_
    refine GL.val (Ex.load rfl T.ag24 (i := 1) rfl rfl) (by decide) ?_
    refine GL.val (Ex.move rfl) (by decide) ?_
    refine GL.step (Stp.buildSlice (cs := [(.slice (some ⟨bq1, 0, none⟩) (n + 5) (n + 5))]) (vs := [(0, (.slice (some ⟨bq1, 0, none⟩) (n + 5) (n + 5)))]) Try.underlying24 T.zr41 T.sz41 rfl (by decide) (by decide) (by first | rfl | kernel_rfl) (by decide)) (fun bq3 _ => ?_)
    refine GL.step (Stp.appendNil (vs := [(.slice (some ⟨bq1, 0, none⟩) (n + 5) (n + 5))]) rfl rfl Try.underlying24 T.sz41 T.zr41 rfl T.by41 (fun wz hz => hz.rdOf (i := 0) rfl 0) rfl (by decide) (by decide) (by decide) (by decide)) (fun xq4 hq5 => ?_)
    refine GL.val (v := (.pointer (some ⟨rb, 0, none⟩))) (Ex.nilCheck rfl) (by decide) ?_
    refine GL.val (v := (.pointer (some ⟨rb, 0, none⟩))) (Ex.cast (Ex.fieldAddr rfl Try.underlying46 rfl T.sz24 (by decide)) rfl) (by decide) ?_
    refine GL.step (Stp.st3 (cs' := [(.slice (some ⟨xq4.1, 0, none⟩) 1 xq4.2.1), (.slice none 0 0), (.slice none 0 0), (.slice none 0 0), (.slice none 0 0), (.slice none 0 0), (.slice none 0 0), (.slice none 0 0)]) rfl rfl rfl T.sz24 rfl rfl rfl) (fun _ _ => ?_)
    refine GL.nil ?_
    refine GE.thenN ?_
    refine GC.seq ?_
    refine GC.draw (⟨xq4.1, [(.slice (some ⟨bq1, 0, none⟩) (n + 5) (n + 5))] ++ xq4.2.2, 41, true⟩ :: ⟨bq3, [(.slice (some ⟨bq1, 0, none⟩) (n + 5) (n + 5))], 41, true⟩ :: ⟨bq1, (roomL xs).map u32, 63, true⟩ :: R) T.mixed (fuel := 12) rfl rfl ?_
    refine GH.take 0 (v := (.pointer (some ⟨rb, 0, none⟩))) rfl (by kernel_rfl) (by kernel_rfl) (by kernel_rfl) (fun _ _ _ h => h) (Ex.move rfl) (ulC (ulC (ulC (ulS ulR)))) (by decide) ?_
    refine GH.take 1 (v := (.pointer (some ⟨rb, 0, none⟩))) rfl (by kernel_rfl) (by kernel_rfl) (by kernel_rfl) (fun _ _ _ h => h) (Ex.move rfl) (ulC (ulC (ulC (ulS ulR)))) (by decide) ?_
    refine GH.take 5 (v := (.slice (some ⟨bq1, 0, none⟩) (n + 5) (n + 5))) rfl (by kernel_rfl) (by kernel_rfl) (by kernel_rfl) (fun _ _ _ h => h) (Ex.move rfl) (ulC (ulC (ulC (ulS ulR)))) (by decide) ?_
    refine GH.many (rs := [2, 6]) (by kernel_rfl) (by simp) ?_
    refine GHs.cons rfl (Ex.wp (v := (.pointer (some ⟨rb, 0, none⟩))) (Ex.nilCheck rfl) (by decide)) (fun _ => (ulC (ulC (ulC (ulS ulR))))) (fun _ _ => ?_) ?_
    · refine GH.take 3 (v := (.pointer (some ⟨rb, 1, none⟩))) rfl (by kernel_rfl) (by kernel_rfl) (by kernel_rfl) (fun _ _ _ h => h) (Ex.cast (Ex.fieldAddr rfl Try.underlying46 rfl T.sz24 (by decide)) rfl) (ulC (ulC (ulC (ulS ulR)))) (by decide) ?_
      refine GH.many (rs := [4, 6]) (by kernel_rfl) (by simp) ?_
      refine GHs.cons rfl (Ex.wp (v := (.slice none 0 0)) (Ex.load rfl T.ag24 (i := 3) rfl rfl) (by decide)) (fun _ => (ulC (ulC (ulC (ulS ulR))))) (fun _ _ => ?_) ?_
      · refine GH.one 6 rfl (by kernel_rfl) (Stp.appendNil (vs := (roomL xs).map u32) rfl rfl Try.underlying41 T.sz63 T.zr63 rfl T.by63 (fun wz hz => hz.rdOf (i := 2) rfl 0) (by simp [roomL_len, hs.1]) (by omega) (by omega) (by omega) (by decide)) (fun _ => (ulS (ulC (ulC (ulC (ulS ulR)))))) (fun xq6 hq7 => ?_)
        refine GH.one 7 rfl (by kernel_rfl) (Stp.buildSlice (cs := [(.slice (some ⟨xq6.1, 0, none⟩) (n + 5) xq6.2.1)]) (vs := [(0, (.slice (some ⟨xq6.1, 0, none⟩) (n + 5) xq6.2.1))]) Try.underlying24 T.zr41 T.sz41 rfl (by decide) (by decide) (by first | rfl | kernel_rfl) (by decide)) (fun _ => (ulS (ulS (ulC (ulC (ulC (ulS ulR))))))) (fun bq8 _ => ?_)
        refine GH.one 8 rfl (by kernel_rfl) (Stp.appendNil (vs := [(.slice (some ⟨xq6.1, 0, none⟩) (n + 5) xq6.2.1)]) rfl rfl Try.underlying24 T.sz41 T.zr41 rfl T.by41 (fun wz hz => hz.rdOf (i := 0) rfl 0) rfl (by decide) (by decide) (by decide) (by decide)) (fun _ => (ulS (ulS (ulS (ulC (ulC (ulC (ulS ulR)))))))) (fun xq9 hq10 => ?_)
        refine GH.one 9 rfl (by kernel_rfl) (Ex.wp (v := (.pointer (some ⟨rb, 0, none⟩))) (Ex.nilCheck rfl) (by decide)) (fun _ => (ulS (ulS (ulS (ulC (ulC (ulC (ulS ulR)))))))) (fun _ _ => ?_)
        refine GH.take 10 (v := (.pointer (some ⟨rb, 1, none⟩))) rfl (by kernel_rfl) (by kernel_rfl) (by kernel_rfl) (fun _ _ _ h => h) (Ex.cast (Ex.fieldAddr rfl Try.underlying46 rfl T.sz24 (by decide)) rfl) (ulS (ulS (ulS (ulC (ulC (ulC (ulS ulR))))))) (by decide) ?_
        refine GH.one 11 rfl (by kernel_rfl) (Stp.st6 (cs' := [(.slice (some ⟨xq4.1, 0, none⟩) 1 xq4.2.1), (.slice (some ⟨xq9.1, 0, none⟩) 1 xq9.2.1), (.slice none 0 0), (.slice none 0 0), (.slice none 0 0), (.slice none 0 0), (.slice none 0 0), (.slice none 0 0)]) rfl rfl rfl T.sz24 rfl rfl rfl) (fun _ => (ulS (ulS (ulS (ulC (ulC (ulC (ulS ulR)))))))) (fun _ _ => ?_)
        refine GH.done (by kernel_rfl) ?_
        refine GE.thenN ?_
        refine GC.seq ?_
        refine GC.region ?_
        refine GL.val (Ex.move rfl) (by decide) ?_
        refine GL.val (Ex.move rfl) (by decide) ?_
        refine GL.val (v := (.int .i64 ((n : Int)))) (Ex.len rfl Try.underlying41) (by decide) ?_
        refine GL.val (v := (.slice (some ⟨bq1, 0, none⟩) n (n + 5))) (Ex.sliceH (m := n) rfl rfl Try.underlying41 T.sz63 rfl (by omega)) (by decide) ?_
        refine GL.val (Ex.assign rfl) (by decide) ?_
        refine GL.nil ?_
        refine GE.thenN ?_
        refine GC.ret ?_
        refine GC.ret1 rfl (Rv.tmp rfl) (fun wN HN => ?_)
        exact HN.frm (xq9, xq6, xq4, bq1) ⟨hq5.1, hq10.1⟩ (by rfl) (ulC (ulS (ulC (ulC (ulS (ulC (ulC ulR)))))))
      refine GHs.cons rfl (Stp.appendNil (vs := (roomL xs).map u32) rfl rfl Try.underlying41 T.sz63 T.zr63 rfl T.by63 (fun wz hz => hz.rdOf (i := 2) rfl 0) (by simp [roomL_len, hs.1]) (by omega) (by omega) (by omega) (by decide)) (fun _ => (ulS (ulC (ulC (ulC (ulS ulR)))))) (fun xq11 hq12 => ?_) ?_
      · refine GH.many (rs := [4, 7]) (by kernel_rfl) (by simp) ?_
        refine GHs.cons rfl (Ex.wp (v := (.slice none 0 0)) (Ex.load rfl T.ag24 (i := 4) rfl rfl) (by decide)) (fun _ => (ulS (ulC (ulC (ulC (ulS ulR)))))) (fun _ _ => ?_) ?_
        · refine GH.one 7 rfl (by kernel_rfl) (Stp.buildSlice (cs := [(.slice (some ⟨xq11.1, 0, none⟩) (n + 5) xq11.2.1)]) (vs := [(0, (.slice (some ⟨xq11.1, 0, none⟩) (n + 5) xq11.2.1))]) Try.underlying24 T.zr41 T.sz41 rfl (by decide) (by decide) (by first | rfl | kernel_rfl) (by decide)) (fun _ => (ulS (ulS (ulC (ulC (ulC (ulS ulR))))))) (fun bq13 _ => ?_)
          refine GH.one 8 rfl (by kernel_rfl) (Stp.appendNil (vs := [(.slice (some ⟨xq11.1, 0, none⟩) (n + 5) xq11.2.1)]) rfl rfl Try.underlying24 T.sz41 T.zr41 rfl T.by41 (fun wz hz => hz.rdOf (i := 0) rfl 0) rfl (by decide) (by decide) (by decide) (by decide)) (fun _ => (ulS (ulS (ulS (ulC (ulC (ulC (ulS ulR)))))))) (fun xq14 hq15 => ?_)
          refine GH.one 9 rfl (by kernel_rfl) (Ex.wp (v := (.pointer (some ⟨rb, 0, none⟩))) (Ex.nilCheck rfl) (by decide)) (fun _ => (ulS (ulS (ulS (ulC (ulC (ulC (ulS ulR)))))))) (fun _ _ => ?_)
          refine GH.take 10 (v := (.pointer (some ⟨rb, 1, none⟩))) rfl (by kernel_rfl) (by kernel_rfl) (by kernel_rfl) (fun _ _ _ h => h) (Ex.cast (Ex.fieldAddr rfl Try.underlying46 rfl T.sz24 (by decide)) rfl) (ulS (ulS (ulS (ulC (ulC (ulC (ulS ulR))))))) (by decide) ?_
          refine GH.one 11 rfl (by kernel_rfl) (Stp.st6 (cs' := [(.slice (some ⟨xq4.1, 0, none⟩) 1 xq4.2.1), (.slice (some ⟨xq14.1, 0, none⟩) 1 xq14.2.1), (.slice none 0 0), (.slice none 0 0), (.slice none 0 0), (.slice none 0 0), (.slice none 0 0), (.slice none 0 0)]) rfl rfl rfl T.sz24 rfl rfl rfl) (fun _ => (ulS (ulS (ulS (ulC (ulC (ulC (ulS ulR)))))))) (fun _ _ => ?_)
          refine GH.done (by kernel_rfl) ?_
          refine GE.thenN ?_
          refine GC.seq ?_
          refine GC.region ?_
          refine GL.val (Ex.move rfl) (by decide) ?_
          refine GL.val (Ex.move rfl) (by decide) ?_
          refine GL.val (v := (.int .i64 ((n : Int)))) (Ex.len rfl Try.underlying41) (by decide) ?_
          refine GL.val (v := (.slice (some ⟨bq1, 0, none⟩) n (n + 5))) (Ex.sliceH (m := n) rfl rfl Try.underlying41 T.sz63 rfl (by omega)) (by decide) ?_
          refine GL.val (Ex.assign rfl) (by decide) ?_
          refine GL.nil ?_
          refine GE.thenN ?_
          refine GC.ret ?_
          refine GC.ret1 rfl (Rv.tmp rfl) (fun wN HN => ?_)
          exact HN.frm (xq14, xq11, xq4, bq1) ⟨hq5.1, hq15.1⟩ (by rfl) (ulC (ulS (ulC (ulC (ulS (ulC (ulC ulR)))))))
        refine GHs.cons rfl (Stp.buildSlice (cs := [(.slice (some ⟨xq11.1, 0, none⟩) (n + 5) xq11.2.1)]) (vs := [(0, (.slice (some ⟨xq11.1, 0, none⟩) (n + 5) xq11.2.1))]) Try.underlying24 T.zr41 T.sz41 rfl (by decide) (by decide) (by first | rfl | kernel_rfl) (by decide)) (fun _ => (ulS (ulS (ulC (ulC (ulC (ulS ulR))))))) (fun bq16 _ => ?_) ?_
        · refine GH.one 4 rfl (by kernel_rfl) (Ex.wp (v := (.slice none 0 0)) (Ex.load rfl T.ag24 (i := 5) rfl rfl) (by decide)) (fun _ => (ulS (ulS (ulC (ulC (ulC (ulS ulR))))))) (fun _ _ => ?_)
          refine GH.one 8 rfl (by kernel_rfl) (Stp.appendNil (vs := [(.slice (some ⟨xq11.1, 0, none⟩) (n + 5) xq11.2.1)]) rfl rfl Try.underlying24 T.sz41 T.zr41 rfl T.by41 (fun wz hz => hz.rdOf (i := 0) rfl 0) rfl (by decide) (by decide) (by decide) (by decide)) (fun _ => (ulS (ulS (ulS (ulC (ulC (ulC (ulS ulR)))))))) (fun xq17 hq18 => ?_)
          refine GH.one 9 rfl (by kernel_rfl) (Ex.wp (v := (.pointer (some ⟨rb, 0, none⟩))) (Ex.nilCheck rfl) (by decide)) (fun _ => (ulS (ulS (ulS (ulC (ulC (ulC (ulS ulR)))))))) (fun _ _ => ?_)
          refine GH.take 10 (v := (.pointer (some ⟨rb, 1, none⟩))) rfl (by kernel_rfl) (by kernel_rfl) (by kernel_rfl) (fun _ _ _ h => h) (Ex.cast (Ex.fieldAddr rfl Try.underlying46 rfl T.sz24 (by decide)) rfl) (ulS (ulS (ulS (ulC (ulC (ulC (ulS ulR))))))) (by decide) ?_
          refine GH.one 11 rfl (by kernel_rfl) (Stp.st6 (cs' := [(.slice (some ⟨xq4.1, 0, none⟩) 1 xq4.2.1), (.slice (some ⟨xq17.1, 0, none⟩) 1 xq17.2.1), (.slice none 0 0), (.slice none 0 0), (.slice none 0 0), (.slice none 0 0), (.slice none 0 0), (.slice none 0 0)]) rfl rfl rfl T.sz24 rfl rfl rfl) (fun _ => (ulS (ulS (ulS (ulC (ulC (ulC (ulS ulR)))))))) (fun _ _ => ?_)
          refine GH.done (by kernel_rfl) ?_
          refine GE.thenN ?_
          refine GC.seq ?_
          refine GC.region ?_
          refine GL.val (Ex.move rfl) (by decide) ?_
          refine GL.val (Ex.move rfl) (by decide) ?_
          refine GL.val (v := (.int .i64 ((n : Int)))) (Ex.len rfl Try.underlying41) (by decide) ?_
          refine GL.val (v := (.slice (some ⟨bq1, 0, none⟩) n (n + 5))) (Ex.sliceH (m := n) rfl rfl Try.underlying41 T.sz63 rfl (by omega)) (by decide) ?_
          refine GL.val (Ex.assign rfl) (by decide) ?_
          refine GL.nil ?_
          refine GE.thenN ?_
          refine GC.ret ?_
          refine GC.ret1 rfl (Rv.tmp rfl) (fun wN HN => ?_)
          exact HN.frm (xq17, xq11, xq4, bq1) ⟨hq5.1, hq18.1⟩ (by rfl) (ulC (ulS (ulC (ulC (ulS (ulC (ulC ulR)))))))
        exact GHs.nil
      exact GHs.nil
    refine GHs.cons rfl (Stp.appendNil (vs := (roomL xs).map u32) rfl rfl Try.underlying41 T.sz63 T.zr63 rfl T.by63 (fun wz hz => hz.rdOf (i := 2) rfl 0) (by simp [roomL_len, hs.1]) (by omega) (by omega) (by omega) (by decide)) (fun _ => (ulS (ulC (ulC (ulC (ulS ulR)))))) (fun xq19 hq20 => ?_) ?_
    · refine GH.many (rs := [2, 7]) (by kernel_rfl) (by simp) ?_
      refine GHs.cons rfl (Ex.wp (v := (.pointer (some ⟨rb, 0, none⟩))) (Ex.nilCheck rfl) (by decide)) (fun _ => (ulS (ulC (ulC (ulC (ulS ulR)))))) (fun _ _ => ?_) ?_
      · refine GH.take 3 (v := (.pointer (some ⟨rb, 1, none⟩))) rfl (by kernel_rfl) (by kernel_rfl) (by kernel_rfl) (fun _ _ _ h => h) (Ex.cast (Ex.fieldAddr rfl Try.underlying46 rfl T.sz24 (by decide)) rfl) (ulS (ulC (ulC (ulC (ulS ulR))))) (by decide) ?_
        refine GH.many (rs := [4, 7]) (by kernel_rfl) (by simp) ?_
        refine GHs.cons rfl (Ex.wp (v := (.slice none 0 0)) (Ex.load rfl T.ag24 (i := 4) rfl rfl) (by decide)) (fun _ => (ulS (ulC (ulC (ulC (ulS ulR)))))) (fun _ _ => ?_) ?_
        · refine GH.one 7 rfl (by kernel_rfl) (Stp.buildSlice (cs := [(.slice (some ⟨xq19.1, 0, none⟩) (n + 5) xq19.2.1)]) (vs := [(0, (.slice (some ⟨xq19.1, 0, none⟩) (n + 5) xq19.2.1))]) Try.underlying24 T.zr41 T.sz41 rfl (by decide) (by decide) (by first | rfl | kernel_rfl) (by decide)) (fun _ => (ulS (ulS (ulC (ulC (ulC (ulS ulR))))))) (fun bq21 _ => ?_)
          refine GH.one 8 rfl (by kernel_rfl) (Stp.appendNil (vs := [(.slice (some ⟨xq19.1, 0, none⟩) (n + 5) xq19.2.1)]) rfl rfl Try.underlying24 T.sz41 T.zr41 rfl T.by41 (fun wz hz => hz.rdOf (i := 0) rfl 0) rfl (by decide) (by decide) (by decide) (by decide)) (fun _ => (ulS (ulS (ulS (ulC (ulC (ulC (ulS ulR)))))))) (fun xq22 hq23 => ?_)
          refine GH.one 9 rfl (by kernel_rfl) (Ex.wp (v := (.pointer (some ⟨rb, 0, none⟩))) (Ex.nilCheck rfl) (by decide)) (fun _ => (ulS (ulS (ulS (ulC (ulC (ulC (ulS ulR)))))))) (fun _ _ => ?_)
          refine GH.take 10 (v := (.pointer (some ⟨rb, 1, none⟩))) rfl (by kernel_rfl) (by kernel_rfl) (by kernel_rfl) (fun _ _ _ h => h) (Ex.cast (Ex.fieldAddr rfl Try.underlying46 rfl T.sz24 (by decide)) rfl) (ulS (ulS (ulS (ulC (ulC (ulC (ulS ulR))))))) (by decide) ?_
          refine GH.one 11 rfl (by kernel_rfl) (Stp.st6 (cs' := [(.slice (some ⟨xq4.1, 0, none⟩) 1 xq4.2.1), (.slice (some ⟨xq22.1, 0, none⟩) 1 xq22.2.1), (.slice none 0 0), (.slice none 0 0), (.slice none 0 0), (.slice none 0 0), (.slice none 0 0), (.slice none 0 0)]) rfl rfl rfl T.sz24 rfl rfl rfl) (fun _ => (ulS (ulS (ulS (ulC (ulC (ulC (ulS ulR)))))))) (fun _ _ => ?_)
          refine GH.done (by kernel_rfl) ?_
          refine GE.thenN ?_
          refine GC.seq ?_
          refine GC.region ?_
          refine GL.val (Ex.move rfl) (by decide) ?_
          refine GL.val (Ex.move rfl) (by decide) ?_
          refine GL.val (v := (.int .i64 ((n : Int)))) (Ex.len rfl Try.underlying41) (by decide) ?_
          refine GL.val (v := (.slice (some ⟨bq1, 0, none⟩) n (n + 5))) (Ex.sliceH (m := n) rfl rfl Try.underlying41 T.sz63 rfl (by omega)) (by decide) ?_
          refine GL.val (Ex.assign rfl) (by decide) ?_
          refine GL.nil ?_
          refine GE.thenN ?_
          refine GC.ret ?_
          refine GC.ret1 rfl (Rv.tmp rfl) (fun wN HN => ?_)
          exact HN.frm (xq22, xq19, xq4, bq1) ⟨hq5.1, hq23.1⟩ (by rfl) (ulC (ulS (ulC (ulC (ulS (ulC (ulC ulR)))))))
        refine GHs.cons rfl (Stp.buildSlice (cs := [(.slice (some ⟨xq19.1, 0, none⟩) (n + 5) xq19.2.1)]) (vs := [(0, (.slice (some ⟨xq19.1, 0, none⟩) (n + 5) xq19.2.1))]) Try.underlying24 T.zr41 T.sz41 rfl (by decide) (by decide) (by first | rfl | kernel_rfl) (by decide)) (fun _ => (ulS (ulS (ulC (ulC (ulC (ulS ulR))))))) (fun bq24 _ => ?_) ?_
        · refine GH.one 4 rfl (by kernel_rfl) (Ex.wp (v := (.slice none 0 0)) (Ex.load rfl T.ag24 (i := 5) rfl rfl) (by decide)) (fun _ => (ulS (ulS (ulC (ulC (ulC (ulS ulR))))))) (fun _ _ => ?_)
          refine GH.one 8 rfl (by kernel_rfl) (Stp.appendNil (vs := [(.slice (some ⟨xq19.1, 0, none⟩) (n + 5) xq19.2.1)]) rfl rfl Try.underlying24 T.sz41 T.zr41 rfl T.by41 (fun wz hz => hz.rdOf (i := 0) rfl 0) rfl (by decide) (by decide) (by decide) (by decide)) (fun _ => (ulS (ulS (ulS (ulC (ulC (ulC (ulS ulR)))))))) (fun xq25 hq26 => ?_)
          refine GH.one 9 rfl (by kernel_rfl) (Ex.wp (v := (.pointer (some ⟨rb, 0, none⟩))) (Ex.nilCheck rfl) (by decide)) (fun _ => (ulS (ulS (ulS (ulC (ulC (ulC (ulS ulR)))))))) (fun _ _ => ?_)
          refine GH.take 10 (v := (.pointer (some ⟨rb, 1, none⟩))) rfl (by kernel_rfl) (by kernel_rfl) (by kernel_rfl) (fun _ _ _ h => h) (Ex.cast (Ex.fieldAddr rfl Try.underlying46 rfl T.sz24 (by decide)) rfl) (ulS (ulS (ulS (ulC (ulC (ulC (ulS ulR))))))) (by decide) ?_
          refine GH.one 11 rfl (by kernel_rfl) (Stp.st6 (cs' := [(.slice (some ⟨xq4.1, 0, none⟩) 1 xq4.2.1), (.slice (some ⟨xq25.1, 0, none⟩) 1 xq25.2.1), (.slice none 0 0), (.slice none 0 0), (.slice none 0 0), (.slice none 0 0), (.slice none 0 0), (.slice none 0 0)]) rfl rfl rfl T.sz24 rfl rfl rfl) (fun _ => (ulS (ulS (ulS (ulC (ulC (ulC (ulS ulR)))))))) (fun _ _ => ?_)
          refine GH.done (by kernel_rfl) ?_
          refine GE.thenN ?_
          refine GC.seq ?_
          refine GC.region ?_
          refine GL.val (Ex.move rfl) (by decide) ?_
          refine GL.val (Ex.move rfl) (by decide) ?_
          refine GL.val (v := (.int .i64 ((n : Int)))) (Ex.len rfl Try.underlying41) (by decide) ?_
          refine GL.val (v := (.slice (some ⟨bq1, 0, none⟩) n (n + 5))) (Ex.sliceH (m := n) rfl rfl Try.underlying41 T.sz63 rfl (by omega)) (by decide) ?_
          refine GL.val (Ex.assign rfl) (by decide) ?_
          refine GL.nil ?_
          refine GE.thenN ?_
          refine GC.ret ?_
          refine GC.ret1 rfl (Rv.tmp rfl) (fun wN HN => ?_)
          exact HN.frm (xq25, xq19, xq4, bq1) ⟨hq5.1, hq26.1⟩ (by rfl) (ulC (ulS (ulC (ulC (ulS (ulC (ulC ulR)))))))
        exact GHs.nil
      refine GHs.cons rfl (Stp.buildSlice (cs := [(.slice (some ⟨xq19.1, 0, none⟩) (n + 5) xq19.2.1)]) (vs := [(0, (.slice (some ⟨xq19.1, 0, none⟩) (n + 5) xq19.2.1))]) Try.underlying24 T.zr41 T.sz41 rfl (by decide) (by decide) (by first | rfl | kernel_rfl) (by decide)) (fun _ => (ulS (ulS (ulC (ulC (ulC (ulS ulR))))))) (fun bq27 _ => ?_) ?_
      · refine GH.one 2 rfl (by kernel_rfl) (Ex.wp (v := (.pointer (some ⟨rb, 0, none⟩))) (Ex.nilCheck rfl) (by decide)) (fun _ => (ulS (ulS (ulC (ulC (ulC (ulS ulR))))))) (fun _ _ => ?_)
        refine GH.take 3 (v := (.pointer (some ⟨rb, 1, none⟩))) rfl (by kernel_rfl) (by kernel_rfl) (by kernel_rfl) (fun _ _ _ h => h) (Ex.cast (Ex.fieldAddr rfl Try.underlying46 rfl T.sz24 (by decide)) rfl) (ulS (ulS (ulC (ulC (ulC (ulS ulR)))))) (by decide) ?_
        refine GH.one 4 rfl (by kernel_rfl) (Ex.wp (v := (.slice none 0 0)) (Ex.load rfl T.ag24 (i := 5) rfl rfl) (by decide)) (fun _ => (ulS (ulS (ulC (ulC (ulC (ulS ulR))))))) (fun _ _ => ?_)
        refine GH.one 8 rfl (by kernel_rfl) (Stp.appendNil (vs := [(.slice (some ⟨xq19.1, 0, none⟩) (n + 5) xq19.2.1)]) rfl rfl Try.underlying24 T.sz41 T.zr41 rfl T.by41 (fun wz hz => hz.rdOf (i := 0) rfl 0) rfl (by decide) (by decide) (by decide) (by decide)) (fun _ => (ulS (ulS (ulS (ulC (ulC (ulC (ulS ulR)))))))) (fun xq28 hq29 => ?_)
        refine GH.one 9 rfl (by kernel_rfl) (Ex.wp (v := (.pointer (some ⟨rb, 0, none⟩))) (Ex.nilCheck rfl) (by decide)) (fun _ => (ulS (ulS (ulS (ulC (ulC (ulC (ulS ulR)))))))) (fun _ _ => ?_)
        refine GH.take 10 (v := (.pointer (some ⟨rb, 1, none⟩))) rfl (by kernel_rfl) (by kernel_rfl) (by kernel_rfl) (fun _ _ _ h => h) (Ex.cast (Ex.fieldAddr rfl Try.underlying46 rfl T.sz24 (by decide)) rfl) (ulS (ulS (ulS (ulC (ulC (ulC (ulS ulR))))))) (by decide) ?_
        refine GH.one 11 rfl (by kernel_rfl) (Stp.st6 (cs' := [(.slice (some ⟨xq4.1, 0, none⟩) 1 xq4.2.1), (.slice (some ⟨xq28.1, 0, none⟩) 1 xq28.2.1), (.slice none 0 0), (.slice none 0 0), (.slice none 0 0), (.slice none 0 0), (.slice none 0 0), (.slice none 0 0)]) rfl rfl rfl T.sz24 rfl rfl rfl) (fun _ => (ulS (ulS (ulS (ulC (ulC (ulC (ulS ulR)))))))) (fun _ _ => ?_)
        refine GH.done (by kernel_rfl) ?_
        refine GE.thenN ?_
        refine GC.seq ?_
        refine GC.region ?_
        refine GL.val (Ex.move rfl) (by decide) ?_
        refine GL.val (Ex.move rfl) (by decide) ?_
        refine GL.val (v := (.int .i64 ((n : Int)))) (Ex.len rfl Try.underlying41) (by decide) ?_
        refine GL.val (v := (.slice (some ⟨bq1, 0, none⟩) n (n + 5))) (Ex.sliceH (m := n) rfl rfl Try.underlying41 T.sz63 rfl (by omega)) (by decide) ?_
        refine GL.val (Ex.assign rfl) (by decide) ?_
        refine GL.nil ?_
        refine GE.thenN ?_
        refine GC.ret ?_
        refine GC.ret1 rfl (Rv.tmp rfl) (fun wN HN => ?_)
        exact HN.frm (xq28, xq19, xq4, bq1) ⟨hq5.1, hq29.1⟩ (by rfl) (ulC (ulS (ulC (ulC (ulS (ulC (ulC ulR)))))))
      exact GHs.nil
    exact GHs.nil

set_option maxRecDepth 100000 in
set_option maxHeartbeats 1000000 in
theorem room_p0 (w0 : World) (R : List Blk) (W H : Int) (rb n cap : Nat) (ad : Option Addr) (xs : List Int) (w : World) (hs : Lst w0 ad n xs) (hb : n ≤ 35184372087808) (hp0 : Hp None w0 (⟨rb, [(.slice none 0 0), (.slice none 0 0), (.slice none 0 0), (.slice none 0 0), (.slice none 0 0), (.slice none 0 0), (.slice none 0 0), (.slice none 0 0)], 46, true⟩ :: R) w) :
    Calls Try.prog 19 #[(.pointer (some ⟨rb, 0, none⟩)), (.agg #[(.int .i64 W), (.int .i64 H), (.slice ad n cap)])] w (Frm (σ := (Nat × Nat × List Value) × (Nat × Nat × List Value) × (Nat × Nat × List Value) × Nat) None w0 (fun x => ([(Value.slice (some ⟨x.2.2.2, 0, none⟩) (n + 5) (n + 5))] ++ x.2.2.1.2.2 : List Value).length = x.2.2.1.2.1 * 1 ∧ ([(Value.slice (some ⟨x.2.1.1, 0, none⟩) (n + 5) x.2.1.2.1)] ++ x.1.2.2 : List Value).length = x.1.2.1 * 1) (fun x => (.agg #[(.int .i64 W), (.int .i64 H), (.slice (some ⟨x.2.2.2, 0, none⟩) n (n + 5))])) (fun x => (⟨x.1.1, [(Value.slice (some ⟨x.2.1.1, 0, none⟩) (n + 5) x.2.1.2.1)] ++ x.1.2.2, 41, true⟩ :: ⟨x.2.1.1, (roomL xs).map u32 ++ x.2.1.2.2, 63, true⟩ :: ⟨x.2.2.1.1, [(Value.slice (some ⟨x.2.2.2, 0, none⟩) (n + 5) (n + 5))] ++ x.2.2.1.2.2, 41, true⟩ :: ⟨x.2.2.2, (roomL xs).map u32, 63, true⟩ :: ⟨rb, [(.slice (some ⟨x.2.2.1.1, 0, none⟩) 1 x.2.2.1.2.1), (.slice (some ⟨x.1.1, 0, none⟩) 1 x.1.2.1), (.slice none 0 0), (.slice none 0 0), (.slice none 0 0), (.slice none 0 0), (.slice none 0 0), (.slice none 0 0)], 46, true⟩ :: R))) := by
  refine enterF (w0 := w0) (M := None) (L := (⟨rb, [(.slice none 0 0), (.slice none 0 0), (.slice none 0 0), (.slice none 0 0), (.slice none 0 0), (.slice none 0 0), (.slice none 0 0), (.slice none 0 0)], 46, true⟩ :: R)) (n := 11) (l := [(0, (.pointer (some ⟨rb, 0, none⟩))), (1, (.agg #[(.int .i64 W), (.int .i64 H), (.slice ad n cap)]))]) Try.func19 rfl rfl (Args.cons rfl (Args.cons rfl (Args.nil _))) hp0 ?_
  refine GC.seq ?_
  refine GC.region ?_
  refine GL.step (Stp.box (cs := [(.int .i64 W), (.int .i64 H), (.slice ad n cap)]) rfl rfl (by decide)) (fun bq1 _ => ?_)
  refine GL.step (Stp.alloc T.zr43 (by decide)) (fun bq2 _ => ?_)
  refine GL.nil ?_
  refine GE.thenN ?_
  refine GC.seq ?_
  refine GC.region ?_
  refine GL.val (Ex.move rfl) (by decide) ?_
  refine GL.val (v := (.pointer (some ⟨bq1, 2, none⟩))) (Ex.cast (Ex.fieldAddr rfl Try.underlying43 rfl T.sz41 (by decide)) rfl) (by decide) ?_
  refine GL.val (Ex.load rfl T.ag41 (i := 1) rfl rfl) (by decide) ?_
  refine GL.step (Stp.call (vs := [(.pointer (some ⟨rb, 0, none⟩)), (.slice ad n cap)]) rfl rfl T.own40 (by decide) (fun wc hw => room_s0 w0 _ rb n cap ad xs wc hs hb (Hp.pickT (A := [⟨bq2, [(.int .i64 0), (.int .i64 0), (.slice none 0 0)], 43, true⟩, ⟨bq1, [(.int .i64 W), (.int .i64 H), (.slice ad n cap)], 43, true⟩, ⟨rb, [(.slice none 0 0), (.slice none 0 0), (.slice none 0 0), (.slice none 0 0), (.slice none 0 0), (.slice none 0 0), (.slice none 0 0), (.slice none 0 0)], 46, true⟩]) (R := R) hw (idx := [2, 0, 1]) (by decide) rfl))) (fun xq3 hq4 => ?_)
  refine GL.val (v := (.pointer (some ⟨bq1, 2, none⟩))) (Ex.cast (Ex.fieldAddr rfl Try.underlying43 rfl T.sz41 (by decide)) rfl) (by decide) ?_
  refine GL.step (Stp.st6 (cs' := [(.int .i64 W), (.int .i64 H), (.slice (some ⟨xq3.2.2.2, 0, none⟩) n (n + 5))]) rfl rfl rfl T.sz41 rfl rfl rfl) (fun _ _ => ?_)
  refine GL.nil ?_
  refine GE.thenN ?_
  refine GC.seq ?_
  refine GC.region ?_
  refine GL.val (v := (.agg #[(.int .i64 W), (.int .i64 H), (.slice (some ⟨xq3.2.2.2, 0, none⟩) n (n + 5))])) (Ex.loadA rfl T.ag43 T.sz43 (i := 6) rfl (vs := [(.int .i64 W), (.int .i64 H), (.slice (some ⟨xq3.2.2.2, 0, none⟩) n (n + 5))]) rfl rfl) (by decide) ?_
  refine GL.step (Stp.st5 (cs' := [(.int .i64 W), (.int .i64 H), (.slice (some ⟨xq3.2.2.2, 0, none⟩) n (n + 5))]) rfl rfl rfl T.sz43 rfl rfl rfl) (fun _ _ => ?_)
  refine GL.nil ?_
  refine GE.thenN ?_
  refine GC.ret ?_
  refine GC.ret1 rfl (Rv.cellA rfl T.ag43 T.sz43 (L := _) (i := 5) rfl (vs := [(.int .i64 W), (.int .i64 H), (.slice (some ⟨xq3.2.2.2, 0, none⟩) n (n + 5))]) rfl rfl) (fun wN HN => ?_)
  exact HN.frm xq3 hq4 (by rfl) (ulC (ulC (ulC (ulC (ulC (ulS (ulS ulR)))))))

end Go.Proofs.Ytjbpdhofhhinhaa.C
