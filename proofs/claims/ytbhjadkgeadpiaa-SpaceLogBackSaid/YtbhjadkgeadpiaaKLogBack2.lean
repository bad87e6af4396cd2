/- SpaceLogBack: what its code does, walked. -/
import Derived.Test.YtbhjadkgeadpiaaKLogBack1
namespace Go.Proofs.Ytbhjadkgeadpiaa.C
open Go Go.RowKit Sx
set_option linter.unusedVariables false
set_option maxRecDepth 100000 in
set_option maxHeartbeats 1000000 in
theorem round_pos (v b c : Nat) (e : Int) (ng : Bool) (w : World) (hv : 0 < v ∧ v < 4294967296) (hc : Rd w b 0 [.int .u32 ((v : Nat) : Int)]) (he : -100 ≤ e ∧ e ≤ 60) :
  Calls Try.prog 75 #[(.agg #[(.int .i64 23), (.int .i64 8)]), (.agg #[(.int .i64 2), (.bool ng), (.slice (some ⟨b, 0, none⟩) 1 c), (.int .i64 e), (.bool false)])] w (Ret w (fun _ : Unit => True) (fun _ => (.int .u64 ((Lg.sg ng + ((Lg.RD v e : Nat) : Int))))) (fun _ => [])) := by
 have hlg := Lg.log_le hv.1 hv.2
 refine enter (M := None) (L := []) (n := 169) (l := [(0, (.agg #[(.int .i64 23), (.int .i64 8)])), (1, (.agg #[(.int .i64 2), (.bool ng), (.slice (some ⟨b, 0, none⟩) 1 c), (.int .i64 e), (.bool false)]))]) Try.func75 rfl rfl (Args.cons rfl (Args.cons rfl (Args.nil _))) (Hp.start _ _) ?_
 refine GC.seq ?_
 refine GC.region ?_
 refine GL.step (Stp.box (cs := [(.int .i64 23), (.int .i64 8)]) rfl rfl (by decide)) (fun bq1 _ => ?_)
 refine GL.step (Stp.box (cs := [(.int .i64 2), (.bool ng), (.slice (some ⟨b, 0, none⟩) 1 c), (.int .i64 e), (.bool false)]) rfl rfl (by decide)) (fun bq2 _ => ?_)
 refine GL.val (Ex.assign rfl) (by decide) ?_
 refine GL.nil ?_
 refine GE.thenN ?_
 refine GC.seq ?_
 refine GC.seq ?_
 refine GC.region ?_
 refine GL.val (v := (.pointer (some ⟨bq2, 0, none⟩))) (Ex.cast (Ex.fieldAddr rfl Try.underlying38 rfl T.sz3 (by decide)) rfl) (by decide) ?_
 refine GL.val (Ex.load rfl T.ag3 (i := 0) rfl rfl) (by decide) ?_
 refine GL.val (v := (.bool false)) (Ex.cast (Ex.eql rfl rfl) rfl) (by decide) ?_
 refine GL.nil ?_
 refine GE.thenN ?_
 refine GC.cond rfl (fun hq3 => by cases hq3) (fun _ => ?_)
 refine GC.skip ?_
 refine GE.thenN ?_
 refine GC.seq ?_
 refine GC.seq ?_
 refine GC.region ?_
 refine GL.val (v := (.pointer (some ⟨bq2, 0, none⟩))) (Ex.cast (Ex.fieldAddr rfl Try.underlying38 rfl T.sz3 (by decide)) rfl) (by decide) ?_
 refine GL.val (Ex.load rfl T.ag3 (i := 0) rfl rfl) (by decide) ?_
 refine GL.val (v := (.bool false)) (Ex.cast (Ex.eql rfl rfl) rfl) (by decide) ?_
 refine GL.nil ?_
 refine GE.thenN ?_
 refine GC.cond rfl (fun hq4 => by cases hq4) (fun _ => ?_)
 refine GC.skip ?_
 refine GE.thenN ?_
 refine GC.seq ?_
 refine GC.region ?_
 refine GL.val (v := (.pointer (some ⟨bq2, 2, none⟩))) (Ex.cast (Ex.fieldAddr rfl Try.underlying38 rfl T.sz36 (by decide)) rfl) (by decide) ?_
 refine GL.val (Ex.load rfl T.ag36 (i := 0) rfl rfl) (by decide) ?_
 refine GL.val (Ex.assign rfl) (by decide) ?_
 refine GL.nil ?_
 refine GE.thenN ?_
 refine GC.seq ?_
 refine GC.region ?_
 refine GL.val (v := (.pointer (some ⟨bq2, 3, none⟩))) (Ex.cast (Ex.fieldAddr rfl Try.underlying38 rfl T.sz3 (by decide)) rfl) (by decide) ?_
 refine GL.val (Ex.load rfl T.ag3 (i := 0) rfl rfl) (by decide) ?_
 refine GL.val (Ex.assign rfl) (by decide) ?_
 refine GL.nil ?_
 refine GE.thenN ?_
 refine GC.seq ?_
 refine GC.region ?_
 refine GL.val (v := (.agg #[(.int .i64 23), (.int .i64 8)])) (Ex.loadA rfl T.ag67 T.sz67 (i := 1) rfl (vs := [(.int .i64 23), (.int .i64 8)]) rfl rfl) (by decide) ?_
 refine GL.step (Stp.callR (vs := [(.agg #[(.int .i64 23), (.int .i64 8)])]) rfl rfl T.own83 (by decide) (fun wc hw => j83_2  wc )) (fun xq5 hq6 => ?_)
 refine GL.val (v := (.int .i64 (-149))) (Ex.sub' rfl rfl (Z := -149) (by decide)) (by decide) ?_
 refine GL.val (Ex.assign rfl) (by decide) ?_
 refine GL.nil ?_
 refine GE.thenN ?_
 refine GC.seq ?_
 refine GC.drawP [⟨bq2, [(.int .i64 2), (.bool ng), (.slice (some ⟨b, 0, none⟩) 1 c), (.int .i64 e), (.bool false)], 38, true⟩, ⟨bq1, [(.int .i64 23), (.int .i64 8)], 67, true⟩] T.mixed (by kernel_rfl) (by kernel_rfl) (fuel := 10) rfl rfl ?_
 refine GH.take 0 (v := (.slice (some ⟨b, 0, none⟩) 1 c)) rfl (by kernel_rfl) (by kernel_rfl) (by kernel_rfl) (fun _ _ _ h => h) (Ex.move rfl) (ulC (ulC ulN)) (by decide) ?_
 refine GH.take 2 (v := (.int .i64 e)) rfl (by kernel_rfl) (by kernel_rfl) (by kernel_rfl) (fun _ _ _ h => h) (Ex.move rfl) (ulC (ulC ulN)) (by decide) ?_
 refine GH.take 4 (v := (.pointer (some ⟨bq1, 0, none⟩))) rfl (by kernel_rfl) (by kernel_rfl) (by kernel_rfl) (fun _ _ _ h => h) (Ex.cast (Ex.fieldAddr rfl Try.underlying67 rfl T.sz3 (by decide)) rfl) (ulC (ulC ulN)) (by decide) ?_
 refine GH.take 5 (v := (.int .i64 23)) rfl (by kernel_rfl) (by kernel_rfl) (by kernel_rfl) (fun _ _ _ h => h) (Ex.load rfl T.ag3 (i := 1) rfl rfl) (ulC (ulC ulN)) (by decide) ?_
 refine GH.take 6 (v := (.int .i64 24)) rfl (by kernel_rfl) (by kernel_rfl) (by kernel_rfl) (fun _ _ _ h => h) (Ex.add rfl rfl (Z := 24) (by decide)) (ulC (ulC ulN)) (by decide) ?_
 refine GH.take 8 (v := (.int .i64 (-149))) rfl (by kernel_rfl) (by kernel_rfl) (by kernel_rfl) (fun _ _ _ h => h) (Ex.move rfl) (ulC (ulC ulN)) (by decide) ?_
 refine GH.one 1 rfl (by kernel_rfl) (Stp.callR (vs := [(.slice (some ⟨b, 0, none⟩) 1 c)]) rfl rfl T.own88 (by decide) (fun wc hw => bits_pos v b c wc hv (hw.rd hc (fun x => x)))) (fun _ => (ulC (ulC ulN))) (fun xq9 hq10 => ?_)
 refine GH.take 3 (v := (.int .i64 ((((Nat.log2 v : Nat) : Int) + 1 + e)))) rfl (by kernel_rfl) (by kernel_rfl) (by kernel_rfl) (fun _ _ _ h => h) (Ex.add rfl rfl (Z := (((Nat.log2 v : Nat) : Int) + 1 + e)) (by rw [w64 (by omega)]; omega)) (ulC (ulC ulN)) (by decide) ?_
 refine GH.take 7 (v := (.int .i64 ((((Nat.log2 v : Nat) : Int) + e - 23)))) rfl (by kernel_rfl) (by kernel_rfl) (by kernel_rfl) (fun _ _ _ h => h) (Ex.sub' rfl rfl (Z := (((Nat.log2 v : Nat) : Int) + e - 23)) (by rw [w64 (by omega)]; omega)) (ulC (ulC ulN)) (by decide) ?_
 refine GH.take 9 (v := (.int .i64 ((((Nat.log2 v : Nat) : Int) + e - 23)))) rfl (by kernel_rfl) (by kernel_rfl) (by kernel_rfl) (fun _ _ _ h => h) (Ex.maxI rfl rfl (Z := (((Nat.log2 v : Nat) : Int) + e - 23)) (by rw [if_neg (by omega)])) (ulC (ulC ulN)) (by decide) ?_
 refine GH.done (by kernel_rfl) ?_
 refine GE.thenN ?_
 refine GE.tail rfl (Ex.wp (v := (.int .i64 ((((Nat.log2 v : Nat) : Int) + e - 23)))) (Ex.assign rfl) (by decide)) (fun _ _ => ?_)
 refine GE.thenN ?_
 refine GC.seq ?_
 refine GC.region ?_
 refine GL.val (Ex.assign rfl) (by decide) ?_
 refine GL.nil ?_
 refine GE.thenN ?_
 refine GC.seq ?_
 refine GC.seq ?_
 refine GC.region ?_
 refine GL.val (Ex.move rfl) (by decide) ?_
 refine GL.val (Ex.move rfl) (by decide) ?_
 refine GL.val (v := (.bool (decide (e < ((((Nat.log2 v : Nat) : Int) + e - 23)))))) (Ex.gtr rfl rfl) (by decide) ?_
 refine GL.nil ?_
 refine GE.thenN ?_
 refine GC.cond rfl (fun hq11 => ?_) (fun hq11 => ?_)
 ·replace hq11 := of_decide_eq_true hq11
  refine GC.seq ?_
  refine GC.region ?_
  refine GL.val (Ex.move rfl) (by decide) ?_
  refine GL.val (Ex.move rfl) (by decide) ?_
  refine GL.val (Ex.move rfl) (by decide) ?_
  refine GL.val (v := (.int .i64 ((((Nat.log2 v - 23) : Nat) : Int)))) (Ex.sub' rfl rfl (Z := (((Nat.log2 v - 23) : Nat) : Int)) (by rw [w64 (by omega)]; omega)) (by decide) ?_
  refine GL.val (v := (.int .i64 ((((Nat.log2 v - 24) : Nat) : Int)))) (Ex.sub' rfl rfl (Z := (((Nat.log2 v - 24) : Nat) : Int)) (by rw [w64 (by omega)]; omega)) (by decide) ?_
  refine GL.step (Stp.callR (vs := [(.slice (some ⟨b, 0, none⟩) 1 c), (.int .i64 ((((Nat.log2 v - 24) : Nat) : Int)))]) rfl rfl T.own78 (by decide) (fun wc hw => bit_p v b c ((Nat.log2 v - 24)) wc hv (hw.rd hc (fun x => x)) (by omega))) (fun xq12 hq13 => ?_)
  refine GL.val (v := (.bool (decide ((((Lg.bt v ((Nat.log2 v - 24)) : Nat) : Int)) = 1)))) (Ex.eql rfl rfl) (by decide) ?_
  refine GL.val (Ex.assign rfl) (by decide) ?_
  refine GL.nil ?_
  refine GE.thenN ?_
  refine GC.seq ?_
  refine GC.region ?_
  refine GL.val (v := (.pointer (some ⟨bq2, 4, none⟩))) (Ex.cast (Ex.fieldAddr rfl Try.underlying38 rfl T.sz4 (by decide)) rfl) (by decide) ?_
  refine GL.val (Ex.load rfl T.ag4 (i := 0) rfl rfl) (by decide) ?_
  refine GL.val (Ex.assign rfl) (by decide) ?_
  refine GL.nil ?_
  refine GE.thenN ?_
  refine GC.seq ?_
  refine GC.seq ?_
  refine GC.region ?_
  refine GL.val (Ex.assign rfl) (by decide) ?_
  refine GL.nil ?_
  refine GE.thenN ?_
  refine GC.block ?_
  refine GC.loop (σ := Nat × Bool) (fun q => q.1 ≤ (Nat.log2 v - 24) ∧ (q.2 = true ↔ v % 2 ^ q.1 ≠ 0)) (fun q => [(0, (.agg #[(.int .i64 23), (.int .i64 8)])), (1, (.agg #[(.int .i64 2), (.bool ng), (.slice (some ⟨b, 0, none⟩) 1 c), (.int .i64 e), (.bool false)])), (2, (.pointer (some ⟨bq1, 0, none⟩))), (3, (.pointer (some ⟨bq2, 0, none⟩))), (4, (.int .u64 0)), (5, (.slice (some ⟨b, 0, none⟩) 1 c)), (6, (.int .i64 e)), (7, (.int .i64 (-149))), (8, (.int .i64 ((((Nat.log2 v : Nat) : Int) + e - 23)))), (9, (.bool false)), (10, (.bool (decide ((((Lg.bt v ((Nat.log2 v - 24)) : Nat) : Int)) = 1)))), (11, (.bool q.2)), (12, (.int .i64 (((q.1 : Nat) : Int))))]) (fun q => [⟨bq2, [(.int .i64 2), (.bool ng), (.slice (some ⟨b, 0, none⟩) 1 c), (.int .i64 e), (.bool false)], 38, true⟩, ⟨bq1, [(.int .i64 23), (.int .i64 8)], 67, true⟩]) (fun q => (Nat.log2 v - 24) - q.1) ((0, false)) ⟨Nat.zero_le _, Lg.start_bit v⟩ ((sub_cons rfl ((sub_cons rfl ((sub_cons rfl ((sub_cons rfl ((sub_cons rfl ((sub_cons rfl ((sub_cons rfl ((sub_cons rfl ((sub_cons rfl ((sub_cons rfl ((sub_cons rfl ((sub_cons rfl ((sub_cons rfl ((sub_nil _)))))))))))))))))))))))))))) (ulC (ulC ulN)) (fun q hp => ?_)
  obtain ⟨i, rb⟩ := q
  have hpi : i ≤ (Nat.log2 v - 24) ∧ (rb = true ↔ v % 2 ^ i ≠ 0) := hp
  refine GC.seq ?_
  refine GC.seq ?_
  refine GC.region ?_
  refine GL.val (Ex.move rfl) (by decide) ?_
  refine GL.val (Ex.move rfl) (by decide) ?_
  refine GL.val (Ex.move rfl) (by decide) ?_
  refine GL.val (v := (.int .i64 ((((Nat.log2 v - 23) : Nat) : Int)))) (Ex.sub' rfl rfl (Z := (((Nat.log2 v - 23) : Nat) : Int)) (by rw [w64 (by omega)]; omega)) (by decide) ?_
  refine GL.val (v := (.int .i64 ((((Nat.log2 v - 24) : Nat) : Int)))) (Ex.sub' rfl rfl (Z := (((Nat.log2 v - 24) : Nat) : Int)) (by rw [w64 (by omega)]; omega)) (by decide) ?_
  by_cases hq14 : (((i : Nat) : Int)) < ((((Nat.log2 v - 24) : Nat) : Int))
  ·refine GL.val (v := (.bool true)) (Ex.cast (Ex.lss rfl rfl) (congrArg Value.bool (decide_eq_true hq14))) (by decide) ?_
   refine GL.val (Ex.move rfl) (by decide) ?_
   refine GL.stepG (tj := 70) rfl rfl (Ex.wp (v := (.bool rb)) (Ex.move rfl) (by decide)) (fun _ _ => ?_)
   refine GL.stepG (tj := 70) rfl rfl (Ex.wp (v := (.bool (!rb))) (Ex.not rfl) (by decide)) (fun _ _ => ?_)
   refine GL.val (v := (.bool (!rb))) (Ex.pickT rfl rfl) (by decide) ?_
   refine GL.nil ?_
   refine GE.thenN ?_
   refine GC.cond rfl (fun hq15 => ?_) (fun hq15 => ?_)
   ·refine GC.skip ?_
    refine GE.thenN ?_
    refine GC.seq ?_
    refine GC.block ?_
    refine GC.region ?_
    refine GL.val (Ex.move rfl) (by decide) ?_
    refine GL.val (Ex.move rfl) (by decide) ?_
    refine GL.step (Stp.callR (vs := [(.slice (some ⟨b, 0, none⟩) 1 c), (.int .i64 (((i : Nat) : Int)))]) rfl rfl T.own78 (by decide) (fun wc hw => bit_p v b c i wc hv (hw.rd hc (fun x => x)) (by omega))) (fun xq16 hq17 => ?_)
    refine GL.val (v := (.bool (decide ((((Lg.bt v i : Nat) : Int)) = 1)))) (Ex.eql rfl rfl) (by decide) ?_
    refine GL.val (Ex.assign rfl) (by decide) ?_
    refine GL.nil ?_
    refine GE.blockN ?_
    refine GE.thenN ?_
    refine GC.region ?_
    refine GL.val (Ex.move rfl) (by decide) ?_
    refine GL.val (v := (.int .i64 (((i + 1 : Nat) : Int)))) (Ex.add rfl rfl (Z := ((i + 1 : Nat) : Int)) (w64 (by omega))) (by decide) ?_
    refine GL.val (Ex.assign rfl) (by decide) ?_
    refine GL.nil ?_
    refine GE.thenN ?_
    exact Head.mk ((i + 1, decide ((((Lg.bt v i : Nat) : Int)) = 1))) ⟨(by show i + 1 ≤ (Nat.log2 v - 24); omega), Lg.again_bit hpi.2 hq15⟩ (by show (Nat.log2 v - 24) - (i + 1) < (Nat.log2 v - 24) - i; omega) ((sub_cons rfl ((sub_cons rfl ((sub_cons rfl ((sub_cons rfl ((sub_cons rfl ((sub_cons rfl ((sub_cons rfl ((sub_cons rfl ((sub_cons rfl ((sub_cons rfl ((sub_cons rfl ((sub_cons rfl ((sub_cons rfl ((sub_nil _)))))))))))))))))))))))))))) (ulC (ulC ulN))
   ·refine GC.exit ?_
    refine GE.thenE ?_
    refine GE.thenE ?_
    refine GE.blockE ?_
    refine GE.thenN ?_
    refine GC.seq ?_
    have hb := Lg.exit_bit hpi (by first | exact Or.inl (by omega) | exact Or.inr (by simpa using hq15))
    have hqf := Lg.quo_facts (v := v) (by omega)
    have hql := Lg.log_23 hqf.1 hqf.2
    refine GC.region ?_
    refine GL.val (Ex.move rfl) (by decide) ?_
    refine GL.val (Ex.move rfl) (by decide) ?_
    refine GL.val (Ex.move rfl) (by decide) ?_
    refine GL.val (v := (.int .i64 ((((Nat.log2 v - 23) : Nat) : Int)))) (Ex.sub' rfl rfl (Z := (((Nat.log2 v - 23) : Nat) : Int)) (by rw [w64 (by omega)]; omega)) (by decide) ?_
    refine GL.step (Stp.callR (vs := [(.slice (some ⟨b, 0, none⟩) 1 c), (.int .i64 ((((Nat.log2 v - 23) : Nat) : Int)))]) rfl rfl T.own77 (by decide) (fun wc hw => down_pos v b c ((Nat.log2 v - 23)) wc hv (hw.rd hc (fun x => x)) (by omega) (by omega))) (fun xq18 hq19 => ?_)
    refine GL.val (Ex.move rfl) (by decide) ?_
    refine GL.val (Ex.extract rfl rfl) (by decide) ?_
    refine GL.val (Ex.extract rfl rfl) (by decide) ?_
    refine GL.val (Ex.assign rfl) (by decide) ?_
    refine GL.val (Ex.assign rfl) (by decide) ?_
    refine GL.nil ?_
    refine GE.thenN ?_
    refine GC.seq ?_
    refine GC.region ?_
    refine GL.val (Ex.move rfl) (by decide) ?_
    refine GL.val (Ex.assign rfl) (by decide) ?_
    refine GL.nil ?_
    refine GE.thenN ?_
    refine GC.region ?_
    by_cases hq20 : ((((Lg.bt v ((Nat.log2 v - 24)) : Nat) : Int)) = 1)
    ·refine GL.val (v := (.bool true)) (Ex.cast (Ex.move rfl) (congrArg Value.bool (decide_eq_true hq20))) (by decide) ?_
     refine GL.val (Ex.move rfl) (by decide) ?_
     by_cases hq21 : rb = true
     ·refine GL.stepG (tj := 90) rfl rfl (Ex.wp (v := (.bool true)) (Ex.cast (Ex.move rfl) (congrArg Value.bool (hq21))) (by decide)) (fun _ _ => ?_)
      refine GL.stepG (tj := 90) rfl rfl (Ex.wp (v := (.bool true)) (Ex.move rfl) (by decide)) (fun _ _ => ?_)
      refine GL.skipG (tj := 92) rfl rfl rfl (by decide) ?_
      refine GL.skipG (tj := 92) rfl rfl rfl (by decide) ?_
      refine GL.skipG (tj := 92) rfl rfl rfl (by decide) ?_
      refine GL.stepG (tj := 90) rfl rfl (Ex.wp (v := (.bool true)) (Ex.pickT rfl rfl) (by decide)) (fun _ _ => ?_)
      refine GL.val (v := (.bool true)) (Ex.pickT rfl rfl) (by decide) ?_
      refine GL.val (Ex.assign rfl) (by decide) ?_
      refine GL.nil ?_
      refine GE.thenN ?_
      refine GC.seq ?_
      refine GC.seq ?_
      refine GC.region ?_
      refine GL.val (Ex.move rfl) (by decide) ?_
      refine GL.nil ?_
      refine GE.thenN ?_
      refine GC.cond rfl (fun _ => ?_) (fun hq22 => by cases hq22)
      refine GC.region ?_
      refine GL.val (Ex.move rfl) (by decide) ?_
      refine GL.step (Stp.callR (vs := [(.int .u64 1)]) rfl rfl T.own62 (by decide) (fun wc hw => natof_pos 1 wc (by decide))) (fun xq23 hq24 => ?_)
      refine GL.step (Stp.callR (vs := [(.slice (some ⟨xq18.1, 0, none⟩) 1 1), (.slice (some ⟨xq23, 0, none⟩) 1 2)]) rfl rfl T.own64 (by decide) (fun wc hw => plus_1 (v / 2 ^ ((Nat.log2 v - 23))) xq18.1 1 xq23 2 wc (by omega) (Lg.rd1 (hw.rdOf (i := 1) rfl 0)) (Lg.rd1 (hw.rdOf (i := 0) rfl 0)))) (fun xq25 hq26 => ?_)
      refine GL.val (Ex.assign rfl) (by decide) ?_
      refine GL.nil ?_
      refine GE.thenN ?_
      refine GC.seq ?_
      refine GC.seq ?_
      refine GC.draw [⟨xq25, [(.int .u32 ((((v / 2 ^ ((Nat.log2 v - 23))) + 1 : Nat) : Int))), (.int .u32 0)], 23, true⟩, ⟨xq23, [(.int .u32 1), (.int .u32 0)], 23, true⟩, ⟨xq18.1, [(.int .u32 (((v / 2 ^ ((Nat.log2 v - 23)) : Nat) : Int)))], 23, true⟩, ⟨bq2, [(.int .i64 2), (.bool ng), (.slice (some ⟨b, 0, none⟩) 1 c), (.int .i64 e), (.bool false)], 38, true⟩, ⟨bq1, [(.int .i64 23), (.int .i64 8)], 67, true⟩] T.mixed (fuel := 6) rfl rfl ?_
      refine GH.take 0 (v := (.slice (some ⟨xq25, 0, none⟩) 1 2)) rfl (by kernel_rfl) (by kernel_rfl) (by kernel_rfl) (fun _ _ _ h => h) (Ex.move rfl) (ulC (ulC (ulC (ulC (ulC ulN))))) (by decide) ?_
      refine GH.take 2 (v := (.pointer (some ⟨bq1, 0, none⟩))) rfl (by kernel_rfl) (by kernel_rfl) (by kernel_rfl) (fun _ _ _ h => h) (Ex.cast (Ex.fieldAddr rfl Try.underlying67 rfl T.sz3 (by decide)) rfl) (ulC (ulC (ulC (ulC (ulC ulN))))) (by decide) ?_
      refine GH.take 3 (v := (.int .i64 23)) rfl (by kernel_rfl) (by kernel_rfl) (by kernel_rfl) (fun _ _ _ h => h) (Ex.load rfl T.ag3 (i := 4) rfl rfl) (ulC (ulC (ulC (ulC (ulC ulN))))) (by decide) ?_
      refine GH.take 4 (v := (.int .i64 24)) rfl (by kernel_rfl) (by kernel_rfl) (by kernel_rfl) (fun _ _ _ h => h) (Ex.add rfl rfl (Z := 24) (by decide)) (ulC (ulC (ulC (ulC (ulC ulN))))) (by decide) ?_
      refine GH.one 1 rfl (by kernel_rfl) (Stp.callR (vs := [(.slice (some ⟨xq25, 0, none⟩) 1 2)]) rfl rfl T.own88 (by decide) (fun wc hw => bits_pos ((v / 2 ^ ((Nat.log2 v - 23))) + 1) xq25 2 wc (by omega) (Lg.rd1 (hw.rdOf (i := 0) rfl 0)))) (fun _ => (ulC (ulC (ulC (ulC (ulC ulN)))))) (fun xq29 hq30 => ?_)
      refine GH.take 5 (v := (.bool (decide (24 < (((Nat.log2 ((v / 2 ^ ((Nat.log2 v - 23))) + 1) + 1 : Nat) : Int)))))) rfl (by kernel_rfl) (by kernel_rfl) (by kernel_rfl) (fun _ _ _ h => h) (Ex.gtr rfl rfl) (ulC (ulC (ulC (ulC (ulC ulN))))) (by decide) ?_
      refine GH.done (by kernel_rfl) ?_
      refine GE.thenN ?_
      refine GC.cond rfl (fun hq31 => ?_) (fun hq31 => ?_)
      ·replace hq31 := of_decide_eq_true hq31
       have hk24 : (v / 2 ^ (Nat.log2 v - 23)) + 1 = 16777216 := Lg.is_24 (by omega) (by omega)
       have hk23 : ((v / 2 ^ (Nat.log2 v - 23)) + 1) / 2 ^ 1 = 8388608 := by omega
       refine GC.seq ?_
       refine GC.region ?_
       refine GL.val (Ex.move rfl) (by decide) ?_
       refine GL.step (Stp.callR (vs := [(.slice (some ⟨xq25, 0, none⟩) 1 2), (.int .i64 1)]) rfl rfl T.own77 (by decide) (fun wc hw => down_pos ((v / 2 ^ ((Nat.log2 v - 23))) + 1) xq25 2 1 wc (by omega) (Lg.rd1 (hw.rdOf (i := 0) rfl 0)) (by omega) (by omega))) (fun xq32 hq33 => ?_)
       refine GL.val (Ex.move rfl) (by decide) ?_
       refine GL.val (Ex.extract rfl rfl) (by decide) ?_
       refine GL.val (Ex.extract rfl rfl) (by decide) ?_
       refine GL.val (Ex.assign rfl) (by decide) ?_
       refine GL.nil ?_
       refine GE.thenN ?_
       refine GC.region ?_
       refine GL.val (Ex.move rfl) (by decide) ?_
       refine GL.val (v := (.int .i64 (((((Nat.log2 v : Nat) : Int) + e - 23) + 1)))) (Ex.add rfl rfl (Z := ((((Nat.log2 v : Nat) : Int) + e - 23) + 1)) (w64 (by omega))) (by decide) ?_
       refine GL.val (Ex.assign rfl) (by decide) ?_
       refine GL.nil ?_
       refine GE.thenN ?_
       refine GC.seq ?_
       refine GC.region ?_
       refine GL.val (Ex.move rfl) (by decide) ?_
       refine GL.step (Stp.callR (vs := [(.slice (some ⟨xq32.1, 0, none⟩) 1 1)]) rfl rfl T.own89 (by decide) (fun wc hw => low_pos (((v / 2 ^ ((Nat.log2 v - 23))) + 1) / 2 ^ 1) xq32.1 1 wc (by omega) (Lg.rd1 (hw.rdOf (i := 0) rfl 0)))) (fun xq34 hq35 => ?_)
       refine GL.val (Ex.assign rfl) (by decide) ?_
       refine GL.nil ?_
       refine GE.thenN ?_
       refine GC.seq ?_
       refine GC.seq ?_
       refine GC.region ?_
       refine GL.val (Ex.move rfl) (by decide) ?_
       refine GL.val (v := (.pointer (some ⟨bq1, 0, none⟩))) (Ex.cast (Ex.fieldAddr rfl Try.underlying67 rfl T.sz3 (by decide)) rfl) (by decide) ?_
       refine GL.val (Ex.load rfl T.ag3 (i := 5) rfl rfl) (by decide) ?_
       refine GL.val (v := (.int .u64 8388608)) (Ex.shl rfl (m := 23) rfl (by decide) (Z := 8388608) (by decide)) (by decide) ?_
       refine GL.val (v := (.bool false)) (Ex.cast (Ex.lss rfl rfl) (congrArg Value.bool (decide_eq_false (by omega)))) (by decide) ?_
       refine GL.nil ?_
       refine GE.thenN ?_
       refine GC.cond rfl (fun hq36 => by cases hq36) (fun _ => ?_)
       refine GC.skip ?_
       refine GE.thenN ?_
       refine GC.seq ?_
       refine GC.region ?_
       refine GL.val (Ex.move rfl) (by decide) ?_
       refine GL.val (v := (.agg #[(.int .i64 23), (.int .i64 8)])) (Ex.loadA rfl T.ag67 T.sz67 (i := 5) rfl (vs := [(.int .i64 23), (.int .i64 8)]) rfl rfl) (by decide) ?_
       refine GL.step (Stp.callR (vs := [(.agg #[(.int .i64 23), (.int .i64 8)])]) rfl rfl T.own83 (by decide) (fun wc hw => j83_2  wc )) (fun xq37 hq38 => ?_)
       refine GL.val (v := (.int .i64 ((((((Nat.log2 v : Nat) : Int) + e - 23) + 1) + 150)))) (Ex.add rfl rfl (Z := (((((Nat.log2 v : Nat) : Int) + e - 23) + 1) + 150)) (w64 (by omega))) (by decide) ?_
       refine GL.val (Ex.assign rfl) (by decide) ?_
       refine GL.nil ?_
       refine GE.thenN ?_
       refine GC.seq ?_
       refine GC.seq ?_
       refine GC.region ?_
       refine GL.val (Ex.move rfl) (by decide) ?_
       refine GL.val (v := (.int .u64 ((((((Nat.log2 v : Nat) : Int) + e - 23) + 1) + 150)))) (Ex.conv rfl Try.underlying3 Try.underlying70 (Z := (((((Nat.log2 v : Nat) : Int) + e - 23) + 1) + 150)) (wu64b (by omega))) (by decide) ?_
       refine GL.val (v := (.agg #[(.int .i64 23), (.int .i64 8)])) (Ex.loadA rfl T.ag67 T.sz67 (i := 5) rfl (vs := [(.int .i64 23), (.int .i64 8)]) rfl rfl) (by decide) ?_
       refine GL.step (Stp.callR (vs := [(.agg #[(.int .i64 23), (.int .i64 8)])]) rfl rfl T.own82 (by decide) (fun wc hw => j82_1  wc )) (fun xq39 hq40 => ?_)
       refine GL.val (v := (.bool false)) (Ex.cast (Ex.geq rfl rfl) (congrArg Value.bool (decide_eq_false (by omega)))) (by decide) ?_
       refine GL.nil ?_
       refine GE.thenN ?_
       refine GC.cond rfl (fun hq41 => by cases hq41) (fun _ => ?_)
       refine GC.skip ?_
       refine GE.thenN ?_
       refine GC.seq ?_
       refine GC.drawP [⟨xq32.1, [(.int .u32 (((((v / 2 ^ ((Nat.log2 v - 23))) + 1) / 2 ^ 1 : Nat) : Int)))], 23, true⟩, ⟨xq25, [(.int .u32 ((((v / 2 ^ ((Nat.log2 v - 23))) + 1 : Nat) : Int))), (.int .u32 0)], 23, true⟩, ⟨xq23, [(.int .u32 1), (.int .u32 0)], 23, true⟩, ⟨xq18.1, [(.int .u32 (((v / 2 ^ ((Nat.log2 v - 23)) : Nat) : Int)))], 23, true⟩, ⟨bq2, [(.int .i64 2), (.bool ng), (.slice (some ⟨b, 0, none⟩) 1 c), (.int .i64 e), (.bool false)], 38, true⟩, ⟨bq1, [(.int .i64 23), (.int .i64 8)], 67, true⟩] T.mixed (by kernel_rfl) (by kernel_rfl) (fuel := 17) rfl rfl ?_
       refine GH.take 0 (v := (.agg #[(.int .i64 23), (.int .i64 8)])) rfl (by kernel_rfl) (by kernel_rfl) (by kernel_rfl) (fun _ _ _ h => h) (Ex.loadA rfl T.ag67 T.sz67 (i := 5) rfl (vs := [(.int .i64 23), (.int .i64 8)]) rfl rfl) (ulC (ulC (ulC (ulC (ulC (ulC ulN)))))) (by decide) ?_
       refine GH.take 1 (v := (.pointer (some ⟨bq2, 1, none⟩))) rfl (by kernel_rfl) (by kernel_rfl) (by kernel_rfl) (fun _ _ _ h => h) (Ex.cast (Ex.fieldAddr rfl Try.underlying38 rfl T.sz4 (by decide)) rfl) (ulC (ulC (ulC (ulC (ulC (ulC ulN)))))) (by decide) ?_
       refine GH.take 2 (v := (.bool ng)) rfl (by kernel_rfl) (by kernel_rfl) (by kernel_rfl) (fun _ _ _ h => h) (Ex.load rfl T.ag4 (i := 4) rfl rfl) (ulC (ulC (ulC (ulC (ulC (ulC ulN)))))) (by decide) ?_
       refine GH.take 4 (v := (.int .i64 ((((((Nat.log2 v : Nat) : Int) + e - 23) + 1) + 150)))) rfl (by kernel_rfl) (by kernel_rfl) (by kernel_rfl) (fun _ _ _ h => h) (Ex.move rfl) (ulC (ulC (ulC (ulC (ulC (ulC ulN)))))) (by decide) ?_
       refine GH.take 5 (v := (.int .u64 ((((((Nat.log2 v : Nat) : Int) + e - 23) + 1) + 150)))) rfl (by kernel_rfl) (by kernel_rfl) (by kernel_rfl) (fun _ _ _ h => h) (Ex.conv rfl Try.underlying3 Try.underlying70 (Z := (((((Nat.log2 v : Nat) : Int) + e - 23) + 1) + 150)) (wu64b (by omega))) (ulC (ulC (ulC (ulC (ulC (ulC ulN)))))) (by decide) ?_
       refine GH.take 6 (v := (.pointer (some ⟨bq1, 0, none⟩))) rfl (by kernel_rfl) (by kernel_rfl) (by kernel_rfl) (fun _ _ _ h => h) (Ex.cast (Ex.fieldAddr rfl Try.underlying67 rfl T.sz3 (by decide)) rfl) (ulC (ulC (ulC (ulC (ulC (ulC ulN)))))) (by decide) ?_
       refine GH.take 7 (v := (.int .i64 23)) rfl (by kernel_rfl) (by kernel_rfl) (by kernel_rfl) (fun _ _ _ h => h) (Ex.load rfl T.ag3 (i := 5) rfl rfl) (ulC (ulC (ulC (ulC (ulC (ulC ulN)))))) (by decide) ?_
       refine GH.take 8 (v := (.int .u64 ((((((((((Nat.log2 v : Nat) : Int) + e - 23) + 1) + 150)).toNat : Nat) : Int) * 8388608)))) rfl (by kernel_rfl) (by kernel_rfl) (by kernel_rfl) (fun _ _ _ h => h) (Ex.shl rfl (m := 23) rfl (by decide) (Z := ((((((((Nat.log2 v : Nat) : Int) + e - 23) + 1) + 150)).toNat : Nat) : Int) * 8388608) (by rw [show ((2 : Int) ^ 23) = 8388608 by decide, wu64b (by omega)]; omega)) (ulC (ulC (ulC (ulC (ulC (ulC ulN)))))) (by decide) ?_
       refine GH.take 10 (v := (.int .u64 (((((v / 2 ^ ((Nat.log2 v - 23))) + 1) / 2 ^ 1 : Nat) : Int)))) rfl (by kernel_rfl) (by kernel_rfl) (by kernel_rfl) (fun _ _ _ h => h) (Ex.move rfl) (ulC (ulC (ulC (ulC (ulC (ulC ulN)))))) (by decide) ?_
       refine GH.take 11 (v := (.pointer (some ⟨bq1, 0, none⟩))) rfl (by kernel_rfl) (by kernel_rfl) (by kernel_rfl) (fun _ _ _ h => h) (Ex.cast (Ex.fieldAddr rfl Try.underlying67 rfl T.sz3 (by decide)) rfl) (ulC (ulC (ulC (ulC (ulC (ulC ulN)))))) (by decide) ?_
       refine GH.take 12 (v := (.int .i64 23)) rfl (by kernel_rfl) (by kernel_rfl) (by kernel_rfl) (fun _ _ _ h => h) (Ex.load rfl T.ag3 (i := 5) rfl rfl) (ulC (ulC (ulC (ulC (ulC (ulC ulN)))))) (by decide) ?_
       refine GH.take 13 (v := (.int .u64 8388608)) rfl (by kernel_rfl) (by kernel_rfl) (by kernel_rfl) (fun _ _ _ h => h) (Ex.shl rfl (m := 23) rfl (by decide) (Z := 8388608) (by decide)) (ulC (ulC (ulC (ulC (ulC (ulC ulN)))))) (by decide) ?_
       refine GH.take 14 (v := (.int .u64 8388607)) rfl (by kernel_rfl) (by kernel_rfl) (by kernel_rfl) (fun _ _ _ h => h) (Ex.sub' rfl rfl (Z := 8388607) (by decide)) (ulC (ulC (ulC (ulC (ulC (ulC ulN)))))) (by decide) ?_
       refine GH.take 15 (v := (.int .u64 ((((((v / 2 ^ ((Nat.log2 v - 23))) + 1) / 2 ^ 1 - 8388608) : Nat) : Int)))) rfl (by kernel_rfl) (by kernel_rfl) (by kernel_rfl) (fun _ _ _ h => h) (Ex.bits rfl rfl (by simp) (Z := (((((v / 2 ^ ((Nat.log2 v - 23))) + 1) / 2 ^ 1 - 8388608) : Nat) : Int)) (andm64 23 (by omega) (by omega) (by omega) (by omega) rfl)) (ulC (ulC (ulC (ulC (ulC (ulC ulN)))))) (by decide) ?_
       refine GH.one 3 rfl (by kernel_rfl) (Stp.callR (vs := [(.agg #[(.int .i64 23), (.int .i64 8)]), (.bool ng)]) rfl rfl T.own87 (by decide) (fun wc hw => sign_p ng wc)) (fun _ => (ulC (ulC (ulC (ulC (ulC (ulC ulN))))))) (fun xq44 hq45 => ?_)
       refine GH.take 9 (v := (.int .u64 ((Lg.sg ng + ((((((((Nat.log2 v : Nat) : Int) + e - 23) + 1) + 150)).toNat * 8388608 : Nat) : Int))))) rfl (by kernel_rfl) (by kernel_rfl) (by kernel_rfl) (fun _ _ _ h => h) (Ex.bits rfl rfl (by simp) (Z := Lg.sg ng + ((((((((Nat.log2 v : Nat) : Int) + e - 23) + 1) + 150)).toNat * 8388608 : Nat) : Int)) (Lg.or_sign (by omega) (by omega))) (ulC (ulC (ulC (ulC (ulC (ulC ulN)))))) (by decide) ?_
       refine GH.take 16 (v := (.int .u64 ((Lg.sg ng + ((((((((Nat.log2 v : Nat) : Int) + e - 23) + 1) + 150)).toNat * 8388608 + (((v / 2 ^ ((Nat.log2 v - 23))) + 1) / 2 ^ 1 - 8388608) : Nat) : Int))))) rfl (by kernel_rfl) (by kernel_rfl) (by kernel_rfl) (fun _ _ _ h => h) (Ex.bits rfl rfl (by simp) (Z := Lg.sg ng + ((((((((Nat.log2 v : Nat) : Int) + e - 23) + 1) + 150)).toNat * 8388608 + (((v / 2 ^ ((Nat.log2 v - 23))) + 1) / 2 ^ 1 - 8388608) : Nat) : Int)) (Lg.or_low (by omega) (by omega))) (ulC (ulC (ulC (ulC (ulC (ulC ulN)))))) (by decide) ?_
       refine GH.done (by kernel_rfl) ?_
       refine GE.thenN ?_
       refine GE.tail rfl (Ex.wp (v := (.int .u64 ((Lg.sg ng + ((((((((Nat.log2 v : Nat) : Int) + e - 23) + 1) + 150)).toNat * 8388608 + (((v / 2 ^ ((Nat.log2 v - 23))) + 1) / 2 ^ 1 - 8388608) : Nat) : Int))))) (Ex.assign rfl) (by decide)) (fun _ _ => ?_)
       refine GE.thenN ?_
       refine GC.ret ?_
       refine GC.ret1 rfl (Rv.tmp rfl) (fun wN HN => ?_)
       exact HN.ret () trivial (by rw [Lg.RD_of (v := v) (K := ((v / 2 ^ (Nat.log2 v - 23)) + 1)) (e := e) hv.1 hv.2 he ((if_pos (by omega)).trans (Lg.kept_up (by omega) (by omega) (by first | exact Or.inl (hb.1 (by assumption)) | exact Or.inr (by omega)))) (by omega)]) (List.nil_sublist _) rfl
      ·replace hq31 := of_decide_eq_false hq31
       have hk24 : (v / 2 ^ (Nat.log2 v - 23)) + 1 < 16777216 := Lg.lt_24 (by omega)
       refine GC.skip ?_
       refine GE.thenN ?_
       refine GC.seq ?_
       refine GC.region ?_
       refine GL.val (Ex.move rfl) (by decide) ?_
       refine GL.step (Stp.callR (vs := [(.slice (some ⟨xq25, 0, none⟩) 1 2)]) rfl rfl T.own89 (by decide) (fun wc hw => low_pos ((v / 2 ^ ((Nat.log2 v - 23))) + 1) xq25 2 wc (by omega) (Lg.rd1 (hw.rdOf (i := 0) rfl 0)))) (fun xq46 hq47 => ?_)
       refine GL.val (Ex.assign rfl) (by decide) ?_
       refine GL.nil ?_
       refine GE.thenN ?_
       refine GC.seq ?_
       refine GC.seq ?_
       refine GC.region ?_
       refine GL.val (Ex.move rfl) (by decide) ?_
       refine GL.val (v := (.pointer (some ⟨bq1, 0, none⟩))) (Ex.cast (Ex.fieldAddr rfl Try.underlying67 rfl T.sz3 (by decide)) rfl) (by decide) ?_
       refine GL.val (Ex.load rfl T.ag3 (i := 4) rfl rfl) (by decide) ?_
       refine GL.val (v := (.int .u64 8388608)) (Ex.shl rfl (m := 23) rfl (by decide) (Z := 8388608) (by decide)) (by decide) ?_
       refine GL.val (v := (.bool false)) (Ex.cast (Ex.lss rfl rfl) (congrArg Value.bool (decide_eq_false (by omega)))) (by decide) ?_
       refine GL.nil ?_
       refine GE.thenN ?_
       refine GC.cond rfl (fun hq48 => by cases hq48) (fun _ => ?_)
       refine GC.skip ?_
       refine GE.thenN ?_
       refine GC.seq ?_
       refine GC.region ?_
       refine GL.val (Ex.move rfl) (by decide) ?_
       refine GL.val (v := (.agg #[(.int .i64 23), (.int .i64 8)])) (Ex.loadA rfl T.ag67 T.sz67 (i := 4) rfl (vs := [(.int .i64 23), (.int .i64 8)]) rfl rfl) (by decide) ?_
       refine GL.step (Stp.callR (vs := [(.agg #[(.int .i64 23), (.int .i64 8)])]) rfl rfl T.own83 (by decide) (fun wc hw => j83_2  wc )) (fun xq49 hq50 => ?_)
       refine GL.val (v := (.int .i64 (((((Nat.log2 v : Nat) : Int) + e - 23) + 150)))) (Ex.add rfl rfl (Z := ((((Nat.log2 v : Nat) : Int) + e - 23) + 150)) (w64 (by omega))) (by decide) ?_
       refine GL.val (Ex.assign rfl) (by decide) ?_
       refine GL.nil ?_
       refine GE.thenN ?_
       refine GC.seq ?_
       refine GC.seq ?_
       refine GC.region ?_
       refine GL.val (Ex.move rfl) (by decide) ?_
       refine GL.val (v := (.int .u64 (((((Nat.log2 v : Nat) : Int) + e - 23) + 150)))) (Ex.conv rfl Try.underlying3 Try.underlying70 (Z := ((((Nat.log2 v : Nat) : Int) + e - 23) + 150)) (wu64b (by omega))) (by decide) ?_
       refine GL.val (v := (.agg #[(.int .i64 23), (.int .i64 8)])) (Ex.loadA rfl T.ag67 T.sz67 (i := 4) rfl (vs := [(.int .i64 23), (.int .i64 8)]) rfl rfl) (by decide) ?_
       refine GL.step (Stp.callR (vs := [(.agg #[(.int .i64 23), (.int .i64 8)])]) rfl rfl T.own82 (by decide) (fun wc hw => j82_1  wc )) (fun xq51 hq52 => ?_)
       refine GL.val (v := (.bool false)) (Ex.cast (Ex.geq rfl rfl) (congrArg Value.bool (decide_eq_false (by omega)))) (by decide) ?_
       refine GL.nil ?_
       refine GE.thenN ?_
       refine GC.cond rfl (fun hq53 => by cases hq53) (fun _ => ?_)
       refine GC.skip ?_
       refine GE.thenN ?_
       refine GC.seq ?_
       refine GC.drawP [⟨xq25, [(.int .u32 ((((v / 2 ^ ((Nat.log2 v - 23))) + 1 : Nat) : Int))), (.int .u32 0)], 23, true⟩, ⟨xq23, [(.int .u32 1), (.int .u32 0)], 23, true⟩, ⟨xq18.1, [(.int .u32 (((v / 2 ^ ((Nat.log2 v - 23)) : Nat) : Int)))], 23, true⟩, ⟨bq2, [(.int .i64 2), (.bool ng), (.slice (some ⟨b, 0, none⟩) 1 c), (.int .i64 e), (.bool false)], 38, true⟩, ⟨bq1, [(.int .i64 23), (.int .i64 8)], 67, true⟩] T.mixed (by kernel_rfl) (by kernel_rfl) (fuel := 17) rfl rfl ?_
       refine GH.take 0 (v := (.agg #[(.int .i64 23), (.int .i64 8)])) rfl (by kernel_rfl) (by kernel_rfl) (by kernel_rfl) (fun _ _ _ h => h) (Ex.loadA rfl T.ag67 T.sz67 (i := 4) rfl (vs := [(.int .i64 23), (.int .i64 8)]) rfl rfl) (ulC (ulC (ulC (ulC (ulC ulN))))) (by decide) ?_
       refine GH.take 1 (v := (.pointer (some ⟨bq2, 1, none⟩))) rfl (by kernel_rfl) (by kernel_rfl) (by kernel_rfl) (fun _ _ _ h => h) (Ex.cast (Ex.fieldAddr rfl Try.underlying38 rfl T.sz4 (by decide)) rfl) (ulC (ulC (ulC (ulC (ulC ulN))))) (by decide) ?_
       refine GH.take 2 (v := (.bool ng)) rfl (by kernel_rfl) (by kernel_rfl) (by kernel_rfl) (fun _ _ _ h => h) (Ex.load rfl T.ag4 (i := 3) rfl rfl) (ulC (ulC (ulC (ulC (ulC ulN))))) (by decide) ?_
       refine GH.take 4 (v := (.int .i64 (((((Nat.log2 v : Nat) : Int) + e - 23) + 150)))) rfl (by kernel_rfl) (by kernel_rfl) (by kernel_rfl) (fun _ _ _ h => h) (Ex.move rfl) (ulC (ulC (ulC (ulC (ulC ulN))))) (by decide) ?_
       refine GH.take 5 (v := (.int .u64 (((((Nat.log2 v : Nat) : Int) + e - 23) + 150)))) rfl (by kernel_rfl) (by kernel_rfl) (by kernel_rfl) (fun _ _ _ h => h) (Ex.conv rfl Try.underlying3 Try.underlying70 (Z := ((((Nat.log2 v : Nat) : Int) + e - 23) + 150)) (wu64b (by omega))) (ulC (ulC (ulC (ulC (ulC ulN))))) (by decide) ?_
       refine GH.take 6 (v := (.pointer (some ⟨bq1, 0, none⟩))) rfl (by kernel_rfl) (by kernel_rfl) (by kernel_rfl) (fun _ _ _ h => h) (Ex.cast (Ex.fieldAddr rfl Try.underlying67 rfl T.sz3 (by decide)) rfl) (ulC (ulC (ulC (ulC (ulC ulN))))) (by decide) ?_
       refine GH.take 7 (v := (.int .i64 23)) rfl (by kernel_rfl) (by kernel_rfl) (by kernel_rfl) (fun _ _ _ h => h) (Ex.load rfl T.ag3 (i := 4) rfl rfl) (ulC (ulC (ulC (ulC (ulC ulN))))) (by decide) ?_
       refine GH.take 8 (v := (.int .u64 (((((((((Nat.log2 v : Nat) : Int) + e - 23) + 150)).toNat : Nat) : Int) * 8388608)))) rfl (by kernel_rfl) (by kernel_rfl) (by kernel_rfl) (fun _ _ _ h => h) (Ex.shl rfl (m := 23) rfl (by decide) (Z := (((((((Nat.log2 v : Nat) : Int) + e - 23) + 150)).toNat : Nat) : Int) * 8388608) (by rw [show ((2 : Int) ^ 23) = 8388608 by decide, wu64b (by omega)]; omega)) (ulC (ulC (ulC (ulC (ulC ulN))))) (by decide) ?_
       refine GH.take 10 (v := (.int .u64 ((((v / 2 ^ ((Nat.log2 v - 23))) + 1 : Nat) : Int)))) rfl (by kernel_rfl) (by kernel_rfl) (by kernel_rfl) (fun _ _ _ h => h) (Ex.move rfl) (ulC (ulC (ulC (ulC (ulC ulN))))) (by decide) ?_
       refine GH.take 11 (v := (.pointer (some ⟨bq1, 0, none⟩))) rfl (by kernel_rfl) (by kernel_rfl) (by kernel_rfl) (fun _ _ _ h => h) (Ex.cast (Ex.fieldAddr rfl Try.underlying67 rfl T.sz3 (by decide)) rfl) (ulC (ulC (ulC (ulC (ulC ulN))))) (by decide) ?_
       refine GH.take 12 (v := (.int .i64 23)) rfl (by kernel_rfl) (by kernel_rfl) (by kernel_rfl) (fun _ _ _ h => h) (Ex.load rfl T.ag3 (i := 4) rfl rfl) (ulC (ulC (ulC (ulC (ulC ulN))))) (by decide) ?_
       refine GH.take 13 (v := (.int .u64 8388608)) rfl (by kernel_rfl) (by kernel_rfl) (by kernel_rfl) (fun _ _ _ h => h) (Ex.shl rfl (m := 23) rfl (by decide) (Z := 8388608) (by decide)) (ulC (ulC (ulC (ulC (ulC ulN))))) (by decide) ?_
       refine GH.take 14 (v := (.int .u64 8388607)) rfl (by kernel_rfl) (by kernel_rfl) (by kernel_rfl) (fun _ _ _ h => h) (Ex.sub' rfl rfl (Z := 8388607) (by decide)) (ulC (ulC (ulC (ulC (ulC ulN))))) (by decide) ?_
       refine GH.take 15 (v := (.int .u64 (((((v / 2 ^ ((Nat.log2 v - 23))) + 1 - 8388608) : Nat) : Int)))) rfl (by kernel_rfl) (by kernel_rfl) (by kernel_rfl) (fun _ _ _ h => h) (Ex.bits rfl rfl (by simp) (Z := ((((v / 2 ^ ((Nat.log2 v - 23))) + 1 - 8388608) : Nat) : Int)) (andm64 23 (by omega) (by omega) (by omega) (by omega) rfl)) (ulC (ulC (ulC (ulC (ulC ulN))))) (by decide) ?_
       refine GH.one 3 rfl (by kernel_rfl) (Stp.callR (vs := [(.agg #[(.int .i64 23), (.int .i64 8)]), (.bool ng)]) rfl rfl T.own87 (by decide) (fun wc hw => sign_p ng wc)) (fun _ => (ulC (ulC (ulC (ulC (ulC ulN)))))) (fun xq56 hq57 => ?_)
       refine GH.take 9 (v := (.int .u64 ((Lg.sg ng + (((((((Nat.log2 v : Nat) : Int) + e - 23) + 150)).toNat * 8388608 : Nat) : Int))))) rfl (by kernel_rfl) (by kernel_rfl) (by kernel_rfl) (fun _ _ _ h => h) (Ex.bits rfl rfl (by simp) (Z := Lg.sg ng + (((((((Nat.log2 v : Nat) : Int) + e - 23) + 150)).toNat * 8388608 : Nat) : Int)) (Lg.or_sign (by omega) (by omega))) (ulC (ulC (ulC (ulC (ulC ulN))))) (by decide) ?_
       refine GH.take 16 (v := (.int .u64 ((Lg.sg ng + (((((((Nat.log2 v : Nat) : Int) + e - 23) + 150)).toNat * 8388608 + ((v / 2 ^ ((Nat.log2 v - 23))) + 1 - 8388608) : Nat) : Int))))) rfl (by kernel_rfl) (by kernel_rfl) (by kernel_rfl) (fun _ _ _ h => h) (Ex.bits rfl rfl (by simp) (Z := Lg.sg ng + (((((((Nat.log2 v : Nat) : Int) + e - 23) + 150)).toNat * 8388608 + ((v / 2 ^ ((Nat.log2 v - 23))) + 1 - 8388608) : Nat) : Int)) (Lg.or_low (by omega) (by omega))) (ulC (ulC (ulC (ulC (ulC ulN))))) (by decide) ?_
       refine GH.done (by kernel_rfl) ?_
       refine GE.thenN ?_
       refine GE.tail rfl (Ex.wp (v := (.int .u64 ((Lg.sg ng + (((((((Nat.log2 v : Nat) : Int) + e - 23) + 150)).toNat * 8388608 + ((v / 2 ^ ((Nat.log2 v - 23))) + 1 - 8388608) : Nat) : Int))))) (Ex.assign rfl) (by decide)) (fun _ _ => ?_)
       refine GE.thenN ?_
       refine GC.ret ?_
       refine GC.ret1 rfl (Rv.tmp rfl) (fun wN HN => ?_)
       exact HN.ret () trivial (by rw [Lg.RD_of (v := v) (K := ((v / 2 ^ (Nat.log2 v - 23)) + 1)) (e := e) hv.1 hv.2 he ((if_pos (by omega)).trans (Lg.kept_up (by omega) (by omega) (by first | exact Or.inl (hb.1 (by assumption)) | exact Or.inr (by omega)))) (by omega)]) (List.nil_sublist _) rfl
     ·refine GL.stepG (tj := 90) rfl rfl (Ex.wp (v := (.bool false)) (Ex.cast (Ex.move rfl) (congrArg Value.bool ((Bool.eq_false_iff.2 hq21)))) (by decide)) (fun _ _ => ?_)
      refine GL.stepG (tj := 90) rfl rfl (Ex.wp (v := (.bool false)) (Ex.move rfl) (by decide)) (fun _ _ => ?_)
      refine GL.stepG (tj := 92) rfl rfl (Ex.wp (v := (.slice (some ⟨xq18.1, 0, none⟩) 1 1)) (Ex.move rfl) (by decide)) (fun _ _ => ?_)
      refine GL.stepG (tj := 92) rfl rfl (Stp.callR (vs := [(.slice (some ⟨xq18.1, 0, none⟩) 1 1), (.int .i64 0)]) rfl rfl T.own78 (by decide) (fun wc hw => bit_p (v / 2 ^ ((Nat.log2 v - 23))) xq18.1 1 0 wc (by omega) (Lg.rd1 (hw.rdOf (i := 0) rfl 0)) (by omega))) (fun xq58 hq59 => ?_)
      refine GL.stepG (tj := 92) rfl rfl (Ex.wp (v := (.bool (decide ((((Lg.bt (v / 2 ^ ((Nat.log2 v - 23))) 0 : Nat) : Int)) = 1)))) (Ex.eql rfl rfl) (by decide)) (fun _ _ => ?_)
      refine GL.stepG (tj := 90) rfl rfl (Ex.wp (v := (.bool (decide ((((Lg.bt (v / 2 ^ ((Nat.log2 v - 23))) 0 : Nat) : Int)) = 1)))) (Ex.pickF rfl rfl) (by decide)) (fun _ _ => ?_)
      refine GL.val (v := (.bool (decide ((((Lg.bt (v / 2 ^ ((Nat.log2 v - 23))) 0 : Nat) : Int)) = 1)))) (Ex.pickT rfl rfl) (by decide) ?_
      refine GL.val (Ex.assign rfl) (by decide) ?_
      refine GL.nil ?_
      refine GE.thenN ?_
      refine GC.seq ?_
      refine GC.seq ?_
      refine GC.region ?_
      refine GL.val (Ex.move rfl) (by decide) ?_
      refine GL.nil ?_
      refine GE.thenN ?_
      refine GC.cond rfl (fun hq60 => ?_) (fun hq60 => ?_)
      ·replace hq60 := of_decide_eq_true hq60
       refine GC.region ?_
       refine GL.val (Ex.move rfl) (by decide) ?_
       refine GL.step (Stp.callR (vs := [(.int .u64 1)]) rfl rfl T.own62 (by decide) (fun wc hw => natof_pos 1 wc (by decide))) (fun xq61 hq62 => ?_)
       refine GL.step (Stp.callR (vs := [(.slice (some ⟨xq18.1, 0, none⟩) 1 1), (.slice (some ⟨xq61, 0, none⟩) 1 2)]) rfl rfl T.own64 (by decide) (fun wc hw => plus_1 (v / 2 ^ ((Nat.log2 v - 23))) xq18.1 1 xq61 2 wc (by omega) (Lg.rd1 (hw.rdOf (i := 1) rfl 0)) (Lg.rd1 (hw.rdOf (i := 0) rfl 0)))) (fun xq63 hq64 => ?_)
       refine GL.val (Ex.assign rfl) (by decide) ?_
       refine GL.nil ?_
       refine GE.thenN ?_
       refine GC.seq ?_
       refine GC.seq ?_
       refine GC.draw [⟨xq63, [(.int .u32 ((((v / 2 ^ ((Nat.log2 v - 23))) + 1 : Nat) : Int))), (.int .u32 0)], 23, true⟩, ⟨xq61, [(.int .u32 1), (.int .u32 0)], 23, true⟩, ⟨xq18.1, [(.int .u32 (((v / 2 ^ ((Nat.log2 v - 23)) : Nat) : Int)))], 23, true⟩, ⟨bq2, [(.int .i64 2), (.bool ng), (.slice (some ⟨b, 0, none⟩) 1 c), (.int .i64 e), (.bool false)], 38, true⟩, ⟨bq1, [(.int .i64 23), (.int .i64 8)], 67, true⟩] T.mixed (fuel := 6) rfl rfl ?_
       refine GH.take 0 (v := (.slice (some ⟨xq63, 0, none⟩) 1 2)) rfl (by kernel_rfl) (by kernel_rfl) (by kernel_rfl) (fun _ _ _ h => h) (Ex.move rfl) (ulC (ulC (ulC (ulC (ulC ulN))))) (by decide) ?_
       refine GH.take 2 (v := (.pointer (some ⟨bq1, 0, none⟩))) rfl (by kernel_rfl) (by kernel_rfl) (by kernel_rfl) (fun _ _ _ h => h) (Ex.cast (Ex.fieldAddr rfl Try.underlying67 rfl T.sz3 (by decide)) rfl) (ulC (ulC (ulC (ulC (ulC ulN))))) (by decide) ?_
       refine GH.take 3 (v := (.int .i64 23)) rfl (by kernel_rfl) (by kernel_rfl) (by kernel_rfl) (fun _ _ _ h => h) (Ex.load rfl T.ag3 (i := 4) rfl rfl) (ulC (ulC (ulC (ulC (ulC ulN))))) (by decide) ?_
       refine GH.take 4 (v := (.int .i64 24)) rfl (by kernel_rfl) (by kernel_rfl) (by kernel_rfl) (fun _ _ _ h => h) (Ex.add rfl rfl (Z := 24) (by decide)) (ulC (ulC (ulC (ulC (ulC ulN))))) (by decide) ?_
       refine GH.one 1 rfl (by kernel_rfl) (Stp.callR (vs := [(.slice (some ⟨xq63, 0, none⟩) 1 2)]) rfl rfl T.own88 (by decide) (fun wc hw => bits_pos ((v / 2 ^ ((Nat.log2 v - 23))) + 1) xq63 2 wc (by omega) (Lg.rd1 (hw.rdOf (i := 0) rfl 0)))) (fun _ => (ulC (ulC (ulC (ulC (ulC ulN)))))) (fun xq67 hq68 => ?_)
       refine GH.take 5 (v := (.bool (decide (24 < (((Nat.log2 ((v / 2 ^ ((Nat.log2 v - 23))) + 1) + 1 : Nat) : Int)))))) rfl (by kernel_rfl) (by kernel_rfl) (by kernel_rfl) (fun _ _ _ h => h) (Ex.gtr rfl rfl) (ulC (ulC (ulC (ulC (ulC ulN))))) (by decide) ?_
       refine GH.done (by kernel_rfl) ?_
       refine GE.thenN ?_
       refine GC.cond rfl (fun hq69 => ?_) (fun hq69 => ?_)
       ·replace hq69 := of_decide_eq_true hq69
        have hk24 : (v / 2 ^ (Nat.log2 v - 23)) + 1 = 16777216 := Lg.is_24 (by omega) (by omega)
        have hk23 : ((v / 2 ^ (Nat.log2 v - 23)) + 1) / 2 ^ 1 = 8388608 := by omega
        refine GC.seq ?_
        refine GC.region ?_
        refine GL.val (Ex.move rfl) (by decide) ?_
        refine GL.step (Stp.callR (vs := [(.slice (some ⟨xq63, 0, none⟩) 1 2), (.int .i64 1)]) rfl rfl T.own77 (by decide) (fun wc hw => down_pos ((v / 2 ^ ((Nat.log2 v - 23))) + 1) xq63 2 1 wc (by omega) (Lg.rd1 (hw.rdOf (i := 0) rfl 0)) (by omega) (by omega))) (fun xq70 hq71 => ?_)
        refine GL.val (Ex.move rfl) (by decide) ?_
        refine GL.val (Ex.extract rfl rfl) (by decide) ?_
        refine GL.val (Ex.extract rfl rfl) (by decide) ?_
        refine GL.val (Ex.assign rfl) (by decide) ?_
        refine GL.nil ?_
        refine GE.thenN ?_
        refine GC.region ?_
        refine GL.val (Ex.move rfl) (by decide) ?_
        refine GL.val (v := (.int .i64 (((((Nat.log2 v : Nat) : Int) + e - 23) + 1)))) (Ex.add rfl rfl (Z := ((((Nat.log2 v : Nat) : Int) + e - 23) + 1)) (w64 (by omega))) (by decide) ?_
        refine GL.val (Ex.assign rfl) (by decide) ?_
        refine GL.nil ?_
        refine GE.thenN ?_
        refine GC.seq ?_
        refine GC.region ?_
        refine GL.val (Ex.move rfl) (by decide) ?_
        refine GL.step (Stp.callR (vs := [(.slice (some ⟨xq70.1, 0, none⟩) 1 1)]) rfl rfl T.own89 (by decide) (fun wc hw => low_pos (((v / 2 ^ ((Nat.log2 v - 23))) + 1) / 2 ^ 1) xq70.1 1 wc (by omega) (Lg.rd1 (hw.rdOf (i := 0) rfl 0)))) (fun xq72 hq73 => ?_)
        refine GL.val (Ex.assign rfl) (by decide) ?_
        refine GL.nil ?_
        refine GE.thenN ?_
        refine GC.seq ?_
        refine GC.seq ?_
        refine GC.region ?_
        refine GL.val (Ex.move rfl) (by decide) ?_
        refine GL.val (v := (.pointer (some ⟨bq1, 0, none⟩))) (Ex.cast (Ex.fieldAddr rfl Try.underlying67 rfl T.sz3 (by decide)) rfl) (by decide) ?_
        refine GL.val (Ex.load rfl T.ag3 (i := 5) rfl rfl) (by decide) ?_
        refine GL.val (v := (.int .u64 8388608)) (Ex.shl rfl (m := 23) rfl (by decide) (Z := 8388608) (by decide)) (by decide) ?_
        refine GL.val (v := (.bool false)) (Ex.cast (Ex.lss rfl rfl) (congrArg Value.bool (decide_eq_false (by omega)))) (by decide) ?_
        refine GL.nil ?_
        refine GE.thenN ?_
        refine GC.cond rfl (fun hq74 => by cases hq74) (fun _ => ?_)
        refine GC.skip ?_
        refine GE.thenN ?_
        refine GC.seq ?_
        refine GC.region ?_
        refine GL.val (Ex.move rfl) (by decide) ?_
        refine GL.val (v := (.agg #[(.int .i64 23), (.int .i64 8)])) (Ex.loadA rfl T.ag67 T.sz67 (i := 5) rfl (vs := [(.int .i64 23), (.int .i64 8)]) rfl rfl) (by decide) ?_
        refine GL.step (Stp.callR (vs := [(.agg #[(.int .i64 23), (.int .i64 8)])]) rfl rfl T.own83 (by decide) (fun wc hw => j83_2  wc )) (fun xq75 hq76 => ?_)
        refine GL.val (v := (.int .i64 ((((((Nat.log2 v : Nat) : Int) + e - 23) + 1) + 150)))) (Ex.add rfl rfl (Z := (((((Nat.log2 v : Nat) : Int) + e - 23) + 1) + 150)) (w64 (by omega))) (by decide) ?_
        refine GL.val (Ex.assign rfl) (by decide) ?_
        refine GL.nil ?_
        refine GE.thenN ?_
        refine GC.seq ?_
        refine GC.seq ?_
        refine GC.region ?_
        refine GL.val (Ex.move rfl) (by decide) ?_
        refine GL.val (v := (.int .u64 ((((((Nat.log2 v : Nat) : Int) + e - 23) + 1) + 150)))) (Ex.conv rfl Try.underlying3 Try.underlying70 (Z := (((((Nat.log2 v : Nat) : Int) + e - 23) + 1) + 150)) (wu64b (by omega))) (by decide) ?_
        refine GL.val (v := (.agg #[(.int .i64 23), (.int .i64 8)])) (Ex.loadA rfl T.ag67 T.sz67 (i := 5) rfl (vs := [(.int .i64 23), (.int .i64 8)]) rfl rfl) (by decide) ?_
        refine GL.step (Stp.callR (vs := [(.agg #[(.int .i64 23), (.int .i64 8)])]) rfl rfl T.own82 (by decide) (fun wc hw => j82_1  wc )) (fun xq77 hq78 => ?_)
        refine GL.val (v := (.bool false)) (Ex.cast (Ex.geq rfl rfl) (congrArg Value.bool (decide_eq_false (by omega)))) (by decide) ?_
        refine GL.nil ?_
        refine GE.thenN ?_
        refine GC.cond rfl (fun hq79 => by cases hq79) (fun _ => ?_)
        refine GC.skip ?_
        refine GE.thenN ?_
        refine GC.seq ?_
        refine GC.drawP [⟨xq70.1, [(.int .u32 (((((v / 2 ^ ((Nat.log2 v - 23))) + 1) / 2 ^ 1 : Nat) : Int)))], 23, true⟩, ⟨xq63, [(.int .u32 ((((v / 2 ^ ((Nat.log2 v - 23))) + 1 : Nat) : Int))), (.int .u32 0)], 23, true⟩, ⟨xq61, [(.int .u32 1), (.int .u32 0)], 23, true⟩, ⟨xq18.1, [(.int .u32 (((v / 2 ^ ((Nat.log2 v - 23)) : Nat) : Int)))], 23, true⟩, ⟨bq2, [(.int .i64 2), (.bool ng), (.slice (some ⟨b, 0, none⟩) 1 c), (.int .i64 e), (.bool false)], 38, true⟩, ⟨bq1, [(.int .i64 23), (.int .i64 8)], 67, true⟩] T.mixed (by kernel_rfl) (by kernel_rfl) (fuel := 17) rfl rfl ?_
        refine GH.take 0 (v := (.agg #[(.int .i64 23), (.int .i64 8)])) rfl (by kernel_rfl) (by kernel_rfl) (by kernel_rfl) (fun _ _ _ h => h) (Ex.loadA rfl T.ag67 T.sz67 (i := 5) rfl (vs := [(.int .i64 23), (.int .i64 8)]) rfl rfl) (ulC (ulC (ulC (ulC (ulC (ulC ulN)))))) (by decide) ?_
        refine GH.take 1 (v := (.pointer (some ⟨bq2, 1, none⟩))) rfl (by kernel_rfl) (by kernel_rfl) (by kernel_rfl) (fun _ _ _ h => h) (Ex.cast (Ex.fieldAddr rfl Try.underlying38 rfl T.sz4 (by decide)) rfl) (ulC (ulC (ulC (ulC (ulC (ulC ulN)))))) (by decide) ?_
        refine GH.take 2 (v := (.bool ng)) rfl (by kernel_rfl) (by kernel_rfl) (by kernel_rfl) (fun _ _ _ h => h) (Ex.load rfl T.ag4 (i := 4) rfl rfl) (ulC (ulC (ulC (ulC (ulC (ulC ulN)))))) (by decide) ?_
        refine GH.take 4 (v := (.int .i64 ((((((Nat.log2 v : Nat) : Int) + e - 23) + 1) + 150)))) rfl (by kernel_rfl) (by kernel_rfl) (by kernel_rfl) (fun _ _ _ h => h) (Ex.move rfl) (ulC (ulC (ulC (ulC (ulC (ulC ulN)))))) (by decide) ?_
        refine GH.take 5 (v := (.int .u64 ((((((Nat.log2 v : Nat) : Int) + e - 23) + 1) + 150)))) rfl (by kernel_rfl) (by kernel_rfl) (by kernel_rfl) (fun _ _ _ h => h) (Ex.conv rfl Try.underlying3 Try.underlying70 (Z := (((((Nat.log2 v : Nat) : Int) + e - 23) + 1) + 150)) (wu64b (by omega))) (ulC (ulC (ulC (ulC (ulC (ulC ulN)))))) (by decide) ?_
        refine GH.take 6 (v := (.pointer (some ⟨bq1, 0, none⟩))) rfl (by kernel_rfl) (by kernel_rfl) (by kernel_rfl) (fun _ _ _ h => h) (Ex.cast (Ex.fieldAddr rfl Try.underlying67 rfl T.sz3 (by decide)) rfl) (ulC (ulC (ulC (ulC (ulC (ulC ulN)))))) (by decide) ?_
        refine GH.take 7 (v := (.int .i64 23)) rfl (by kernel_rfl) (by kernel_rfl) (by kernel_rfl) (fun _ _ _ h => h) (Ex.load rfl T.ag3 (i := 5) rfl rfl) (ulC (ulC (ulC (ulC (ulC (ulC ulN)))))) (by decide) ?_
        refine GH.take 8 (v := (.int .u64 ((((((((((Nat.log2 v : Nat) : Int) + e - 23) + 1) + 150)).toNat : Nat) : Int) * 8388608)))) rfl (by kernel_rfl) (by kernel_rfl) (by kernel_rfl) (fun _ _ _ h => h) (Ex.shl rfl (m := 23) rfl (by decide) (Z := ((((((((Nat.log2 v : Nat) : Int) + e - 23) + 1) + 150)).toNat : Nat) : Int) * 8388608) (by rw [show ((2 : Int) ^ 23) = 8388608 by decide, wu64b (by omega)]; omega)) (ulC (ulC (ulC (ulC (ulC (ulC ulN)))))) (by decide) ?_
        refine GH.take 10 (v := (.int .u64 (((((v / 2 ^ ((Nat.log2 v - 23))) + 1) / 2 ^ 1 : Nat) : Int)))) rfl (by kernel_rfl) (by kernel_rfl) (by kernel_rfl) (fun _ _ _ h => h) (Ex.move rfl) (ulC (ulC (ulC (ulC (ulC (ulC ulN)))))) (by decide) ?_
        refine GH.take 11 (v := (.pointer (some ⟨bq1, 0, none⟩))) rfl (by kernel_rfl) (by kernel_rfl) (by kernel_rfl) (fun _ _ _ h => h) (Ex.cast (Ex.fieldAddr rfl Try.underlying67 rfl T.sz3 (by decide)) rfl) (ulC (ulC (ulC (ulC (ulC (ulC ulN)))))) (by decide) ?_
        refine GH.take 12 (v := (.int .i64 23)) rfl (by kernel_rfl) (by kernel_rfl) (by kernel_rfl) (fun _ _ _ h => h) (Ex.load rfl T.ag3 (i := 5) rfl rfl) (ulC (ulC (ulC (ulC (ulC (ulC ulN)))))) (by decide) ?_
        refine GH.take 13 (v := (.int .u64 8388608)) rfl (by kernel_rfl) (by kernel_rfl) (by kernel_rfl) (fun _ _ _ h => h) (Ex.shl rfl (m := 23) rfl (by decide) (Z := 8388608) (by decide)) (ulC (ulC (ulC (ulC (ulC (ulC ulN)))))) (by decide) ?_
        refine GH.take 14 (v := (.int .u64 8388607)) rfl (by kernel_rfl) (by kernel_rfl) (by kernel_rfl) (fun _ _ _ h => h) (Ex.sub' rfl rfl (Z := 8388607) (by decide)) (ulC (ulC (ulC (ulC (ulC (ulC ulN)))))) (by decide) ?_
        refine GH.take 15 (v := (.int .u64 ((((((v / 2 ^ ((Nat.log2 v - 23))) + 1) / 2 ^ 1 - 8388608) : Nat) : Int)))) rfl (by kernel_rfl) (by kernel_rfl) (by kernel_rfl) (fun _ _ _ h => h) (Ex.bits rfl rfl (by simp) (Z := (((((v / 2 ^ ((Nat.log2 v - 23))) + 1) / 2 ^ 1 - 8388608) : Nat) : Int)) (andm64 23 (by omega) (by omega) (by omega) (by omega) rfl)) (ulC (ulC (ulC (ulC (ulC (ulC ulN)))))) (by decide) ?_
        refine GH.one 3 rfl (by kernel_rfl) (Stp.callR (vs := [(.agg #[(.int .i64 23), (.int .i64 8)]), (.bool ng)]) rfl rfl T.own87 (by decide) (fun wc hw => sign_p ng wc)) (fun _ => (ulC (ulC (ulC (ulC (ulC (ulC ulN))))))) (fun xq82 hq83 => ?_)
        refine GH.take 9 (v := (.int .u64 ((Lg.sg ng + ((((((((Nat.log2 v : Nat) : Int) + e - 23) + 1) + 150)).toNat * 8388608 : Nat) : Int))))) rfl (by kernel_rfl) (by kernel_rfl) (by kernel_rfl) (fun _ _ _ h => h) (Ex.bits rfl rfl (by simp) (Z := Lg.sg ng + ((((((((Nat.log2 v : Nat) : Int) + e - 23) + 1) + 150)).toNat * 8388608 : Nat) : Int)) (Lg.or_sign (by omega) (by omega))) (ulC (ulC (ulC (ulC (ulC (ulC ulN)))))) (by decide) ?_
        refine GH.take 16 (v := (.int .u64 ((Lg.sg ng + ((((((((Nat.log2 v : Nat) : Int) + e - 23) + 1) + 150)).toNat * 8388608 + (((v / 2 ^ ((Nat.log2 v - 23))) + 1) / 2 ^ 1 - 8388608) : Nat) : Int))))) rfl (by kernel_rfl) (by kernel_rfl) (by kernel_rfl) (fun _ _ _ h => h) (Ex.bits rfl rfl (by simp) (Z := Lg.sg ng + ((((((((Nat.log2 v : Nat) : Int) + e - 23) + 1) + 150)).toNat * 8388608 + (((v / 2 ^ ((Nat.log2 v - 23))) + 1) / 2 ^ 1 - 8388608) : Nat) : Int)) (Lg.or_low (by omega) (by omega))) (ulC (ulC (ulC (ulC (ulC (ulC ulN)))))) (by decide) ?_
        refine GH.done (by kernel_rfl) ?_
        refine GE.thenN ?_
        refine GE.tail rfl (Ex.wp (v := (.int .u64 ((Lg.sg ng + ((((((((Nat.log2 v : Nat) : Int) + e - 23) + 1) + 150)).toNat * 8388608 + (((v / 2 ^ ((Nat.log2 v - 23))) + 1) / 2 ^ 1 - 8388608) : Nat) : Int))))) (Ex.assign rfl) (by decide)) (fun _ _ => ?_)
        refine GE.thenN ?_
        refine GC.ret ?_
        refine GC.ret1 rfl (Rv.tmp rfl) (fun wN HN => ?_)
        exact HN.ret () trivial (by rw [Lg.RD_of (v := v) (K := ((v / 2 ^ (Nat.log2 v - 23)) + 1)) (e := e) hv.1 hv.2 he ((if_pos (by omega)).trans (Lg.kept_up (by omega) (by omega) (by first | exact Or.inl (hb.1 (by assumption)) | exact Or.inr (by omega)))) (by omega)]) (List.nil_sublist _) rfl
       ·replace hq69 := of_decide_eq_false hq69
        have hk24 : (v / 2 ^ (Nat.log2 v - 23)) + 1 < 16777216 := Lg.lt_24 (by omega)
        refine GC.skip ?_
        refine GE.thenN ?_
        refine GC.seq ?_
        refine GC.region ?_
        refine GL.val (Ex.move rfl) (by decide) ?_
        refine GL.step (Stp.callR (vs := [(.slice (some ⟨xq63, 0, none⟩) 1 2)]) rfl rfl T.own89 (by decide) (fun wc hw => low_pos ((v / 2 ^ ((Nat.log2 v - 23))) + 1) xq63 2 wc (by omega) (Lg.rd1 (hw.rdOf (i := 0) rfl 0)))) (fun xq84 hq85 => ?_)
        refine GL.val (Ex.assign rfl) (by decide) ?_
        refine GL.nil ?_
        refine GE.thenN ?_
        refine GC.seq ?_
        refine GC.seq ?_
        refine GC.region ?_
        refine GL.val (Ex.move rfl) (by decide) ?_
        refine GL.val (v := (.pointer (some ⟨bq1, 0, none⟩))) (Ex.cast (Ex.fieldAddr rfl Try.underlying67 rfl T.sz3 (by decide)) rfl) (by decide) ?_
        refine GL.val (Ex.load rfl T.ag3 (i := 4) rfl rfl) (by decide) ?_
        refine GL.val (v := (.int .u64 8388608)) (Ex.shl rfl (m := 23) rfl (by decide) (Z := 8388608) (by decide)) (by decide) ?_
        refine GL.val (v := (.bool false)) (Ex.cast (Ex.lss rfl rfl) (congrArg Value.bool (decide_eq_false (by omega)))) (by decide) ?_
        refine GL.nil ?_
        refine GE.thenN ?_
        refine GC.cond rfl (fun hq86 => by cases hq86) (fun _ => ?_)
        refine GC.skip ?_
        refine GE.thenN ?_
        refine GC.seq ?_
        refine GC.region ?_
        refine GL.val (Ex.move rfl) (by decide) ?_
        refine GL.val (v := (.agg #[(.int .i64 23), (.int .i64 8)])) (Ex.loadA rfl T.ag67 T.sz67 (i := 4) rfl (vs := [(.int .i64 23), (.int .i64 8)]) rfl rfl) (by decide) ?_
        refine GL.step (Stp.callR (vs := [(.agg #[(.int .i64 23), (.int .i64 8)])]) rfl rfl T.own83 (by decide) (fun wc hw => j83_2  wc )) (fun xq87 hq88 => ?_)
        refine GL.val (v := (.int .i64 (((((Nat.log2 v : Nat) : Int) + e - 23) + 150)))) (Ex.add rfl rfl (Z := ((((Nat.log2 v : Nat) : Int) + e - 23) + 150)) (w64 (by omega))) (by decide) ?_
        refine GL.val (Ex.assign rfl) (by decide) ?_
        refine GL.nil ?_
        refine GE.thenN ?_
        refine GC.seq ?_
        refine GC.seq ?_
        refine GC.region ?_
        refine GL.val (Ex.move rfl) (by decide) ?_
        refine GL.val (v := (.int .u64 (((((Nat.log2 v : Nat) : Int) + e - 23) + 150)))) (Ex.conv rfl Try.underlying3 Try.underlying70 (Z := ((((Nat.log2 v : Nat) : Int) + e - 23) + 150)) (wu64b (by omega))) (by decide) ?_
        refine GL.val (v := (.agg #[(.int .i64 23), (.int .i64 8)])) (Ex.loadA rfl T.ag67 T.sz67 (i := 4) rfl (vs := [(.int .i64 23), (.int .i64 8)]) rfl rfl) (by decide) ?_
        refine GL.step (Stp.callR (vs := [(.agg #[(.int .i64 23), (.int .i64 8)])]) rfl rfl T.own82 (by decide) (fun wc hw => j82_1  wc )) (fun xq89 hq90 => ?_)
        refine GL.val (v := (.bool false)) (Ex.cast (Ex.geq rfl rfl) (congrArg Value.bool (decide_eq_false (by omega)))) (by decide) ?_
        refine GL.nil ?_
        refine GE.thenN ?_
        refine GC.cond rfl (fun hq91 => by cases hq91) (fun _ => ?_)
        refine GC.skip ?_
        refine GE.thenN ?_
        refine GC.seq ?_
        refine GC.drawP [⟨xq63, [(.int .u32 ((((v / 2 ^ ((Nat.log2 v - 23))) + 1 : Nat) : Int))), (.int .u32 0)], 23, true⟩, ⟨xq61, [(.int .u32 1), (.int .u32 0)], 23, true⟩, ⟨xq18.1, [(.int .u32 (((v / 2 ^ ((Nat.log2 v - 23)) : Nat) : Int)))], 23, true⟩, ⟨bq2, [(.int .i64 2), (.bool ng), (.slice (some ⟨b, 0, none⟩) 1 c), (.int .i64 e), (.bool false)], 38, true⟩, ⟨bq1, [(.int .i64 23), (.int .i64 8)], 67, true⟩] T.mixed (by kernel_rfl) (by kernel_rfl) (fuel := 17) rfl rfl ?_
        refine GH.take 0 (v := (.agg #[(.int .i64 23), (.int .i64 8)])) rfl (by kernel_rfl) (by kernel_rfl) (by kernel_rfl) (fun _ _ _ h => h) (Ex.loadA rfl T.ag67 T.sz67 (i := 4) rfl (vs := [(.int .i64 23), (.int .i64 8)]) rfl rfl) (ulC (ulC (ulC (ulC (ulC ulN))))) (by decide) ?_
        refine GH.take 1 (v := (.pointer (some ⟨bq2, 1, none⟩))) rfl (by kernel_rfl) (by kernel_rfl) (by kernel_rfl) (fun _ _ _ h => h) (Ex.cast (Ex.fieldAddr rfl Try.underlying38 rfl T.sz4 (by decide)) rfl) (ulC (ulC (ulC (ulC (ulC ulN))))) (by decide) ?_
        refine GH.take 2 (v := (.bool ng)) rfl (by kernel_rfl) (by kernel_rfl) (by kernel_rfl) (fun _ _ _ h => h) (Ex.load rfl T.ag4 (i := 3) rfl rfl) (ulC (ulC (ulC (ulC (ulC ulN))))) (by decide) ?_
        refine GH.take 4 (v := (.int .i64 (((((Nat.log2 v : Nat) : Int) + e - 23) + 150)))) rfl (by kernel_rfl) (by kernel_rfl) (by kernel_rfl) (fun _ _ _ h => h) (Ex.move rfl) (ulC (ulC (ulC (ulC (ulC ulN))))) (by decide) ?_
        refine GH.take 5 (v := (.int .u64 (((((Nat.log2 v : Nat) : Int) + e - 23) + 150)))) rfl (by kernel_rfl) (by kernel_rfl) (by kernel_rfl) (fun _ _ _ h => h) (Ex.conv rfl Try.underlying3 Try.underlying70 (Z := ((((Nat.log2 v : Nat) : Int) + e - 23) + 150)) (wu64b (by omega))) (ulC (ulC (ulC (ulC (ulC ulN))))) (by decide) ?_
        refine GH.take 6 (v := (.pointer (some ⟨bq1, 0, none⟩))) rfl (by kernel_rfl) (by kernel_rfl) (by kernel_rfl) (fun _ _ _ h => h) (Ex.cast (Ex.fieldAddr rfl Try.underlying67 rfl T.sz3 (by decide)) rfl) (ulC (ulC (ulC (ulC (ulC ulN))))) (by decide) ?_
        refine GH.take 7 (v := (.int .i64 23)) rfl (by kernel_rfl) (by kernel_rfl) (by kernel_rfl) (fun _ _ _ h => h) (Ex.load rfl T.ag3 (i := 4) rfl rfl) (ulC (ulC (ulC (ulC (ulC ulN))))) (by decide) ?_
        refine GH.take 8 (v := (.int .u64 (((((((((Nat.log2 v : Nat) : Int) + e - 23) + 150)).toNat : Nat) : Int) * 8388608)))) rfl (by kernel_rfl) (by kernel_rfl) (by kernel_rfl) (fun _ _ _ h => h) (Ex.shl rfl (m := 23) rfl (by decide) (Z := (((((((Nat.log2 v : Nat) : Int) + e - 23) + 150)).toNat : Nat) : Int) * 8388608) (by rw [show ((2 : Int) ^ 23) = 8388608 by decide, wu64b (by omega)]; omega)) (ulC (ulC (ulC (ulC (ulC ulN))))) (by decide) ?_
        refine GH.take 10 (v := (.int .u64 ((((v / 2 ^ ((Nat.log2 v - 23))) + 1 : Nat) : Int)))) rfl (by kernel_rfl) (by kernel_rfl) (by kernel_rfl) (fun _ _ _ h => h) (Ex.move rfl) (ulC (ulC (ulC (ulC (ulC ulN))))) (by decide) ?_
        refine GH.take 11 (v := (.pointer (some ⟨bq1, 0, none⟩))) rfl (by kernel_rfl) (by kernel_rfl) (by kernel_rfl) (fun _ _ _ h => h) (Ex.cast (Ex.fieldAddr rfl Try.underlying67 rfl T.sz3 (by decide)) rfl) (ulC (ulC (ulC (ulC (ulC ulN))))) (by decide) ?_
        refine GH.take 12 (v := (.int .i64 23)) rfl (by kernel_rfl) (by kernel_rfl) (by kernel_rfl) (fun _ _ _ h => h) (Ex.load rfl T.ag3 (i := 4) rfl rfl) (ulC (ulC (ulC (ulC (ulC ulN))))) (by decide) ?_
        refine GH.take 13 (v := (.int .u64 8388608)) rfl (by kernel_rfl) (by kernel_rfl) (by kernel_rfl) (fun _ _ _ h => h) (Ex.shl rfl (m := 23) rfl (by decide) (Z := 8388608) (by decide)) (ulC (ulC (ulC (ulC (ulC ulN))))) (by decide) ?_
        refine GH.take 14 (v := (.int .u64 8388607)) rfl (by kernel_rfl) (by kernel_rfl) (by kernel_rfl) (fun _ _ _ h => h) (Ex.sub' rfl rfl (Z := 8388607) (by decide)) (ulC (ulC (ulC (ulC (ulC ulN))))) (by decide) ?_
        refine GH.take 15 (v := (.int .u64 (((((v / 2 ^ ((Nat.log2 v - 23))) + 1 - 8388608) : Nat) : Int)))) rfl (by kernel_rfl) (by kernel_rfl) (by kernel_rfl) (fun _ _ _ h => h) (Ex.bits rfl rfl (by simp) (Z := ((((v / 2 ^ ((Nat.log2 v - 23))) + 1 - 8388608) : Nat) : Int)) (andm64 23 (by omega) (by omega) (by omega) (by omega) rfl)) (ulC (ulC (ulC (ulC (ulC ulN))))) (by decide) ?_
        refine GH.one 3 rfl (by kernel_rfl) (Stp.callR (vs := [(.agg #[(.int .i64 23), (.int .i64 8)]), (.bool ng)]) rfl rfl T.own87 (by decide) (fun wc hw => sign_p ng wc)) (fun _ => (ulC (ulC (ulC (ulC (ulC ulN)))))) (fun xq94 hq95 => ?_)
        refine GH.take 9 (v := (.int .u64 ((Lg.sg ng + (((((((Nat.log2 v : Nat) : Int) + e - 23) + 150)).toNat * 8388608 : Nat) : Int))))) rfl (by kernel_rfl) (by kernel_rfl) (by kernel_rfl) (fun _ _ _ h => h) (Ex.bits rfl rfl (by simp) (Z := Lg.sg ng + (((((((Nat.log2 v : Nat) : Int) + e - 23) + 150)).toNat * 8388608 : Nat) : Int)) (Lg.or_sign (by omega) (by omega))) (ulC (ulC (ulC (ulC (ulC ulN))))) (by decide) ?_
        refine GH.take 16 (v := (.int .u64 ((Lg.sg ng + (((((((Nat.log2 v : Nat) : Int) + e - 23) + 150)).toNat * 8388608 + ((v / 2 ^ ((Nat.log2 v - 23))) + 1 - 8388608) : Nat) : Int))))) rfl (by kernel_rfl) (by kernel_rfl) (by kernel_rfl) (fun _ _ _ h => h) (Ex.bits rfl rfl (by simp) (Z := Lg.sg ng + (((((((Nat.log2 v : Nat) : Int) + e - 23) + 150)).toNat * 8388608 + ((v / 2 ^ ((Nat.log2 v - 23))) + 1 - 8388608) : Nat) : Int)) (Lg.or_low (by omega) (by omega))) (ulC (ulC (ulC (ulC (ulC ulN))))) (by decide) ?_
        refine GH.done (by kernel_rfl) ?_
        refine GE.thenN ?_
        refine GE.tail rfl (Ex.wp (v := (.int .u64 ((Lg.sg ng + (((((((Nat.log2 v : Nat) : Int) + e - 23) + 150)).toNat * 8388608 + ((v / 2 ^ ((Nat.log2 v - 23))) + 1 - 8388608) : Nat) : Int))))) (Ex.assign rfl) (by decide)) (fun _ _ => ?_)
        refine GE.thenN ?_
        refine GC.ret ?_
        refine GC.ret1 rfl (Rv.tmp rfl) (fun wN HN => ?_)
        exact HN.ret () trivial (by rw [Lg.RD_of (v := v) (K := ((v / 2 ^ (Nat.log2 v - 23)) + 1)) (e := e) hv.1 hv.2 he ((if_pos (by omega)).trans (Lg.kept_up (by omega) (by omega) (by first | exact Or.inl (hb.1 (by assumption)) | exact Or.inr (by omega)))) (by omega)]) (List.nil_sublist _) rfl
      ·replace hq60 := of_decide_eq_false hq60
       refine GC.skip ?_
       refine GE.thenN ?_
       refine GC.seq ?_
       refine GC.seq ?_
       refine GC.draw [⟨xq18.1, [(.int .u32 (((v / 2 ^ ((Nat.log2 v - 23)) : Nat) : Int)))], 23, true⟩, ⟨bq2, [(.int .i64 2), (.bool ng), (.slice (some ⟨b, 0, none⟩) 1 c), (.int .i64 e), (.bool false)], 38, true⟩, ⟨bq1, [(.int .i64 23), (.int .i64 8)], 67, true⟩] T.mixed (fuel := 6) rfl rfl ?_
       refine GH.take 0 (v := (.slice (some ⟨xq18.1, 0, none⟩) 1 1)) rfl (by kernel_rfl) (by kernel_rfl) (by kernel_rfl) (fun _ _ _ h => h) (Ex.move rfl) (ulC (ulC (ulC ulN))) (by decide) ?_
       refine GH.take 2 (v := (.pointer (some ⟨bq1, 0, none⟩))) rfl (by kernel_rfl) (by kernel_rfl) (by kernel_rfl) (fun _ _ _ h => h) (Ex.cast (Ex.fieldAddr rfl Try.underlying67 rfl T.sz3 (by decide)) rfl) (ulC (ulC (ulC ulN))) (by decide) ?_
       refine GH.take 3 (v := (.int .i64 23)) rfl (by kernel_rfl) (by kernel_rfl) (by kernel_rfl) (fun _ _ _ h => h) (Ex.load rfl T.ag3 (i := 2) rfl rfl) (ulC (ulC (ulC ulN))) (by decide) ?_
       refine GH.take 4 (v := (.int .i64 24)) rfl (by kernel_rfl) (by kernel_rfl) (by kernel_rfl) (fun _ _ _ h => h) (Ex.add rfl rfl (Z := 24) (by decide)) (ulC (ulC (ulC ulN))) (by decide) ?_
       refine GH.one 1 rfl (by kernel_rfl) (Stp.callR (vs := [(.slice (some ⟨xq18.1, 0, none⟩) 1 1)]) rfl rfl T.own88 (by decide) (fun wc hw => bits_pos (v / 2 ^ ((Nat.log2 v - 23))) xq18.1 1 wc (by omega) (Lg.rd1 (hw.rdOf (i := 0) rfl 0)))) (fun _ => (ulC (ulC (ulC ulN)))) (fun xq98 hq99 => ?_)
       refine GH.take 5 (v := (.bool false)) rfl (by kernel_rfl) (by kernel_rfl) (by kernel_rfl) (fun _ _ _ h => h) (Ex.cast (Ex.gtr rfl rfl) (congrArg Value.bool (decide_eq_false (by omega)))) (ulC (ulC (ulC ulN))) (by decide) ?_
       refine GH.done (by kernel_rfl) ?_
       refine GE.thenN ?_
       refine GC.cond rfl (fun hq100 => by cases hq100) (fun _ => ?_)
       refine GC.skip ?_
       refine GE.thenN ?_
       refine GC.seq ?_
       refine GC.region ?_
       refine GL.val (Ex.move rfl) (by decide) ?_
       refine GL.step (Stp.callR (vs := [(.slice (some ⟨xq18.1, 0, none⟩) 1 1)]) rfl rfl T.own89 (by decide) (fun wc hw => low_pos (v / 2 ^ ((Nat.log2 v - 23))) xq18.1 1 wc (by omega) (Lg.rd1 (hw.rdOf (i := 0) rfl 0)))) (fun xq101 hq102 => ?_)
       refine GL.val (Ex.assign rfl) (by decide) ?_
       refine GL.nil ?_
       refine GE.thenN ?_
       refine GC.seq ?_
       refine GC.seq ?_
       refine GC.region ?_
       refine GL.val (Ex.move rfl) (by decide) ?_
       refine GL.val (v := (.pointer (some ⟨bq1, 0, none⟩))) (Ex.cast (Ex.fieldAddr rfl Try.underlying67 rfl T.sz3 (by decide)) rfl) (by decide) ?_
       refine GL.val (Ex.load rfl T.ag3 (i := 2) rfl rfl) (by decide) ?_
       refine GL.val (v := (.int .u64 8388608)) (Ex.shl rfl (m := 23) rfl (by decide) (Z := 8388608) (by decide)) (by decide) ?_
       refine GL.val (v := (.bool false)) (Ex.cast (Ex.lss rfl rfl) (congrArg Value.bool (decide_eq_false (by omega)))) (by decide) ?_
       refine GL.nil ?_
       refine GE.thenN ?_
       refine GC.cond rfl (fun hq103 => by cases hq103) (fun _ => ?_)
       refine GC.skip ?_
       refine GE.thenN ?_
       refine GC.seq ?_
       refine GC.region ?_
       refine GL.val (Ex.move rfl) (by decide) ?_
       refine GL.val (v := (.agg #[(.int .i64 23), (.int .i64 8)])) (Ex.loadA rfl T.ag67 T.sz67 (i := 2) rfl (vs := [(.int .i64 23), (.int .i64 8)]) rfl rfl) (by decide) ?_
       refine GL.step (Stp.callR (vs := [(.agg #[(.int .i64 23), (.int .i64 8)])]) rfl rfl T.own83 (by decide) (fun wc hw => j83_2  wc )) (fun xq104 hq105 => ?_)
       refine GL.val (v := (.int .i64 (((((Nat.log2 v : Nat) : Int) + e - 23) + 150)))) (Ex.add rfl rfl (Z := ((((Nat.log2 v : Nat) : Int) + e - 23) + 150)) (w64 (by omega))) (by decide) ?_
       refine GL.val (Ex.assign rfl) (by decide) ?_
       refine GL.nil ?_
       refine GE.thenN ?_
       refine GC.seq ?_
       refine GC.seq ?_
       refine GC.region ?_
       refine GL.val (Ex.move rfl) (by decide) ?_
       refine GL.val (v := (.int .u64 (((((Nat.log2 v : Nat) : Int) + e - 23) + 150)))) (Ex.conv rfl Try.underlying3 Try.underlying70 (Z := ((((Nat.log2 v : Nat) : Int) + e - 23) + 150)) (wu64b (by omega))) (by decide) ?_
       refine GL.val (v := (.agg #[(.int .i64 23), (.int .i64 8)])) (Ex.loadA rfl T.ag67 T.sz67 (i := 2) rfl (vs := [(.int .i64 23), (.int .i64 8)]) rfl rfl) (by decide) ?_
       refine GL.step (Stp.callR (vs := [(.agg #[(.int .i64 23), (.int .i64 8)])]) rfl rfl T.own82 (by decide) (fun wc hw => j82_1  wc )) (fun xq106 hq107 => ?_)
       refine GL.val (v := (.bool false)) (Ex.cast (Ex.geq rfl rfl) (congrArg Value.bool (decide_eq_false (by omega)))) (by decide) ?_
       refine GL.nil ?_
       refine GE.thenN ?_
       refine GC.cond rfl (fun hq108 => by cases hq108) (fun _ => ?_)
       refine GC.skip ?_
       refine GE.thenN ?_
       refine GC.seq ?_
       refine GC.drawP [⟨xq18.1, [(.int .u32 (((v / 2 ^ ((Nat.log2 v - 23)) : Nat) : Int)))], 23, true⟩, ⟨bq2, [(.int .i64 2), (.bool ng), (.slice (some ⟨b, 0, none⟩) 1 c), (.int .i64 e), (.bool false)], 38, true⟩, ⟨bq1, [(.int .i64 23), (.int .i64 8)], 67, true⟩] T.mixed (by kernel_rfl) (by kernel_rfl) (fuel := 17) rfl rfl ?_
       refine GH.take 0 (v := (.agg #[(.int .i64 23), (.int .i64 8)])) rfl (by kernel_rfl) (by kernel_rfl) (by kernel_rfl) (fun _ _ _ h => h) (Ex.loadA rfl T.ag67 T.sz67 (i := 2) rfl (vs := [(.int .i64 23), (.int .i64 8)]) rfl rfl) (ulC (ulC (ulC ulN))) (by decide) ?_
       refine GH.take 1 (v := (.pointer (some ⟨bq2, 1, none⟩))) rfl (by kernel_rfl) (by kernel_rfl) (by kernel_rfl) (fun _ _ _ h => h) (Ex.cast (Ex.fieldAddr rfl Try.underlying38 rfl T.sz4 (by decide)) rfl) (ulC (ulC (ulC ulN))) (by decide) ?_
       refine GH.take 2 (v := (.bool ng)) rfl (by kernel_rfl) (by kernel_rfl) (by kernel_rfl) (fun _ _ _ h => h) (Ex.load rfl T.ag4 (i := 1) rfl rfl) (ulC (ulC (ulC ulN))) (by decide) ?_
       refine GH.take 4 (v := (.int .i64 (((((Nat.log2 v : Nat) : Int) + e - 23) + 150)))) rfl (by kernel_rfl) (by kernel_rfl) (by kernel_rfl) (fun _ _ _ h => h) (Ex.move rfl) (ulC (ulC (ulC ulN))) (by decide) ?_
       refine GH.take 5 (v := (.int .u64 (((((Nat.log2 v : Nat) : Int) + e - 23) + 150)))) rfl (by kernel_rfl) (by kernel_rfl) (by kernel_rfl) (fun _ _ _ h => h) (Ex.conv rfl Try.underlying3 Try.underlying70 (Z := ((((Nat.log2 v : Nat) : Int) + e - 23) + 150)) (wu64b (by omega))) (ulC (ulC (ulC ulN))) (by decide) ?_
       refine GH.take 6 (v := (.pointer (some ⟨bq1, 0, none⟩))) rfl (by kernel_rfl) (by kernel_rfl) (by kernel_rfl) (fun _ _ _ h => h) (Ex.cast (Ex.fieldAddr rfl Try.underlying67 rfl T.sz3 (by decide)) rfl) (ulC (ulC (ulC ulN))) (by decide) ?_
       refine GH.take 7 (v := (.int .i64 23)) rfl (by kernel_rfl) (by kernel_rfl) (by kernel_rfl) (fun _ _ _ h => h) (Ex.load rfl T.ag3 (i := 2) rfl rfl) (ulC (ulC (ulC ulN))) (by decide) ?_
       refine GH.take 8 (v := (.int .u64 (((((((((Nat.log2 v : Nat) : Int) + e - 23) + 150)).toNat : Nat) : Int) * 8388608)))) rfl (by kernel_rfl) (by kernel_rfl) (by kernel_rfl) (fun _ _ _ h => h) (Ex.shl rfl (m := 23) rfl (by decide) (Z := (((((((Nat.log2 v : Nat) : Int) + e - 23) + 150)).toNat : Nat) : Int) * 8388608) (by rw [show ((2 : Int) ^ 23) = 8388608 by decide, wu64b (by omega)]; omega)) (ulC (ulC (ulC ulN))) (by decide) ?_
       refine GH.take 10 (v := (.int .u64 (((v / 2 ^ ((Nat.log2 v - 23)) : Nat) : Int)))) rfl (by kernel_rfl) (by kernel_rfl) (by kernel_rfl) (fun _ _ _ h => h) (Ex.move rfl) (ulC (ulC (ulC ulN))) (by decide) ?_
       refine GH.take 11 (v := (.pointer (some ⟨bq1, 0, none⟩))) rfl (by kernel_rfl) (by kernel_rfl) (by kernel_rfl) (fun _ _ _ h => h) (Ex.cast (Ex.fieldAddr rfl Try.underlying67 rfl T.sz3 (by decide)) rfl) (ulC (ulC (ulC ulN))) (by decide) ?_
       refine GH.take 12 (v := (.int .i64 23)) rfl (by kernel_rfl) (by kernel_rfl) (by kernel_rfl) (fun _ _ _ h => h) (Ex.load rfl T.ag3 (i := 2) rfl rfl) (ulC (ulC (ulC ulN))) (by decide) ?_
       refine GH.take 13 (v := (.int .u64 8388608)) rfl (by kernel_rfl) (by kernel_rfl) (by kernel_rfl) (fun _ _ _ h => h) (Ex.shl rfl (m := 23) rfl (by decide) (Z := 8388608) (by decide)) (ulC (ulC (ulC ulN))) (by decide) ?_
       refine GH.take 14 (v := (.int .u64 8388607)) rfl (by kernel_rfl) (by kernel_rfl) (by kernel_rfl) (fun _ _ _ h => h) (Ex.sub' rfl rfl (Z := 8388607) (by decide)) (ulC (ulC (ulC ulN))) (by decide) ?_
       refine GH.take 15 (v := (.int .u64 ((((v / 2 ^ ((Nat.log2 v - 23)) - 8388608) : Nat) : Int)))) rfl (by kernel_rfl) (by kernel_rfl) (by kernel_rfl) (fun _ _ _ h => h) (Ex.bits rfl rfl (by simp) (Z := (((v / 2 ^ ((Nat.log2 v - 23)) - 8388608) : Nat) : Int)) (andm64 23 (by omega) (by omega) (by omega) (by omega) rfl)) (ulC (ulC (ulC ulN))) (by decide) ?_
       refine GH.one 3 rfl (by kernel_rfl) (Stp.callR (vs := [(.agg #[(.int .i64 23), (.int .i64 8)]), (.bool ng)]) rfl rfl T.own87 (by decide) (fun wc hw => sign_p ng wc)) (fun _ => (ulC (ulC (ulC ulN)))) (fun xq111 hq112 => ?_)
       refine GH.take 9 (v := (.int .u64 ((Lg.sg ng + (((((((Nat.log2 v : Nat) : Int) + e - 23) + 150)).toNat * 8388608 : Nat) : Int))))) rfl (by kernel_rfl) (by kernel_rfl) (by kernel_rfl) (fun _ _ _ h => h) (Ex.bits rfl rfl (by simp) (Z := Lg.sg ng + (((((((Nat.log2 v : Nat) : Int) + e - 23) + 150)).toNat * 8388608 : Nat) : Int)) (Lg.or_sign (by omega) (by omega))) (ulC (ulC (ulC ulN))) (by decide) ?_
       refine GH.take 16 (v := (.int .u64 ((Lg.sg ng + (((((((Nat.log2 v : Nat) : Int) + e - 23) + 150)).toNat * 8388608 + (v / 2 ^ ((Nat.log2 v - 23)) - 8388608) : Nat) : Int))))) rfl (by kernel_rfl) (by kernel_rfl) (by kernel_rfl) (fun _ _ _ h => h) (Ex.bits rfl rfl (by simp) (Z := Lg.sg ng + (((((((Nat.log2 v : Nat) : Int) + e - 23) + 150)).toNat * 8388608 + (v / 2 ^ ((Nat.log2 v - 23)) - 8388608) : Nat) : Int)) (Lg.or_low (by omega) (by omega))) (ulC (ulC (ulC ulN))) (by decide) ?_
       refine GH.done (by kernel_rfl) ?_
       refine GE.thenN ?_
       refine GE.tail rfl (Ex.wp (v := (.int .u64 ((Lg.sg ng + (((((((Nat.log2 v : Nat) : Int) + e - 23) + 150)).toNat * 8388608 + (v / 2 ^ ((Nat.log2 v - 23)) - 8388608) : Nat) : Int))))) (Ex.assign rfl) (by decide)) (fun _ _ => ?_)
       refine GE.thenN ?_
       refine GC.ret ?_
       refine GC.ret1 rfl (Rv.tmp rfl) (fun wN HN => ?_)
       exact HN.ret () trivial (by rw [Lg.RD_of (v := v) (K := (v / 2 ^ (Nat.log2 v - 23))) (e := e) hv.1 hv.2 he ((if_pos (by omega)).trans (Lg.kept_no (by omega) (by first | exact fun q => absurd q.1 (by omega) | exact fun q => by rcases q.2 with z | z; exact absurd (hb.2 z) (by assumption); omega))) (by omega)]) (List.nil_sublist _) rfl
    ·refine GL.val (v := (.bool false)) (Ex.cast (Ex.move rfl) (congrArg Value.bool (decide_eq_false hq20))) (by decide) ?_
     refine GL.val (Ex.move rfl) (by decide) ?_
     refine GL.skipG (tj := 90) rfl rfl rfl (by decide) ?_
     refine GL.skipG (tj := 90) rfl rfl rfl (by decide) ?_
     refine GL.skipU (tj := 92) rfl rfl (by decide) ?_
     refine GL.skipU (tj := 92) rfl rfl (by decide) ?_
     refine GL.skipU (tj := 92) rfl rfl (by decide) ?_
     refine GL.skipG (tj := 90) rfl rfl rfl (by decide) ?_
     refine GL.val (v := (.bool false)) (Ex.pickF rfl rfl) (by decide) ?_
     refine GL.val (Ex.assign rfl) (by decide) ?_
     refine GL.nil ?_
     refine GE.thenN ?_
     refine GC.seq ?_
     refine GC.seq ?_
     refine GC.region ?_
     refine GL.val (Ex.move rfl) (by decide) ?_
     refine GL.nil ?_
     refine GE.thenN ?_
     refine GC.cond rfl (fun hq113 => by cases hq113) (fun _ => ?_)
     refine GC.skip ?_
     refine GE.thenN ?_
     refine GC.seq ?_
     refine GC.seq ?_
     refine GC.draw [⟨xq18.1, [(.int .u32 (((v / 2 ^ ((Nat.log2 v - 23)) : Nat) : Int)))], 23, true⟩, ⟨bq2, [(.int .i64 2), (.bool ng), (.slice (some ⟨b, 0, none⟩) 1 c), (.int .i64 e), (.bool false)], 38, true⟩, ⟨bq1, [(.int .i64 23), (.int .i64 8)], 67, true⟩] T.mixed (fuel := 6) rfl rfl ?_
     refine GH.take 0 (v := (.slice (some ⟨xq18.1, 0, none⟩) 1 1)) rfl (by kernel_rfl) (by kernel_rfl) (by kernel_rfl) (fun _ _ _ h => h) (Ex.move rfl) (ulC (ulC (ulC ulN))) (by decide) ?_
     refine GH.take 2 (v := (.pointer (some ⟨bq1, 0, none⟩))) rfl (by kernel_rfl) (by kernel_rfl) (by kernel_rfl) (fun _ _ _ h => h) (Ex.cast (Ex.fieldAddr rfl Try.underlying67 rfl T.sz3 (by decide)) rfl) (ulC (ulC (ulC ulN))) (by decide) ?_
     refine GH.take 3 (v := (.int .i64 23)) rfl (by kernel_rfl) (by kernel_rfl) (by kernel_rfl) (fun _ _ _ h => h) (Ex.load rfl T.ag3 (i := 2) rfl rfl) (ulC (ulC (ulC ulN))) (by decide) ?_
     refine GH.take 4 (v := (.int .i64 24)) rfl (by kernel_rfl) (by kernel_rfl) (by kernel_rfl) (fun _ _ _ h => h) (Ex.add rfl rfl (Z := 24) (by decide)) (ulC (ulC (ulC ulN))) (by decide) ?_
     refine GH.one 1 rfl (by kernel_rfl) (Stp.callR (vs := [(.slice (some ⟨xq18.1, 0, none⟩) 1 1)]) rfl rfl T.own88 (by decide) (fun wc hw => bits_pos (v / 2 ^ ((Nat.log2 v - 23))) xq18.1 1 wc (by omega) (Lg.rd1 (hw.rdOf (i := 0) rfl 0)))) (fun _ => (ulC (ulC (ulC ulN)))) (fun xq116 hq117 => ?_)
     refine GH.take 5 (v := (.bool false)) rfl (by kernel_rfl) (by kernel_rfl) (by kernel_rfl) (fun _ _ _ h => h) (Ex.cast (Ex.gtr rfl rfl) (congrArg Value.bool (decide_eq_false (by omega)))) (ulC (ulC (ulC ulN))) (by decide) ?_
     refine GH.done (by kernel_rfl) ?_
     refine GE.thenN ?_
     refine GC.cond rfl (fun hq118 => by cases hq118) (fun _ => ?_)
     refine GC.skip ?_
     refine GE.thenN ?_
     refine GC.seq ?_
     refine GC.region ?_
     refine GL.val (Ex.move rfl) (by decide) ?_
     refine GL.step (Stp.callR (vs := [(.slice (some ⟨xq18.1, 0, none⟩) 1 1)]) rfl rfl T.own89 (by decide) (fun wc hw => low_pos (v / 2 ^ ((Nat.log2 v - 23))) xq18.1 1 wc (by omega) (Lg.rd1 (hw.rdOf (i := 0) rfl 0)))) (fun xq119 hq120 => ?_)
     refine GL.val (Ex.assign rfl) (by decide) ?_
     refine GL.nil ?_
     refine GE.thenN ?_
     refine GC.seq ?_
     refine GC.seq ?_
     refine GC.region ?_
     refine GL.val (Ex.move rfl) (by decide) ?_
     refine GL.val (v := (.pointer (some ⟨bq1, 0, none⟩))) (Ex.cast (Ex.fieldAddr rfl Try.underlying67 rfl T.sz3 (by decide)) rfl) (by decide) ?_
     refine GL.val (Ex.load rfl T.ag3 (i := 2) rfl rfl) (by decide) ?_
     refine GL.val (v := (.int .u64 8388608)) (Ex.shl rfl (m := 23) rfl (by decide) (Z := 8388608) (by decide)) (by decide) ?_
     refine GL.val (v := (.bool false)) (Ex.cast (Ex.lss rfl rfl) (congrArg Value.bool (decide_eq_false (by omega)))) (by decide) ?_
     refine GL.nil ?_
     refine GE.thenN ?_
     refine GC.cond rfl (fun hq121 => by cases hq121) (fun _ => ?_)
     refine GC.skip ?_
     refine GE.thenN ?_
     refine GC.seq ?_
     refine GC.region ?_
     refine GL.val (Ex.move rfl) (by decide) ?_
     refine GL.val (v := (.agg #[(.int .i64 23), (.int .i64 8)])) (Ex.loadA rfl T.ag67 T.sz67 (i := 2) rfl (vs := [(.int .i64 23), (.int .i64 8)]) rfl rfl) (by decide) ?_
     refine GL.step (Stp.callR (vs := [(.agg #[(.int .i64 23), (.int .i64 8)])]) rfl rfl T.own83 (by decide) (fun wc hw => j83_2  wc )) (fun xq122 hq123 => ?_)
     refine GL.val (v := (.int .i64 (((((Nat.log2 v : Nat) : Int) + e - 23) + 150)))) (Ex.add rfl rfl (Z := ((((Nat.log2 v : Nat) : Int) + e - 23) + 150)) (w64 (by omega))) (by decide) ?_
     refine GL.val (Ex.assign rfl) (by decide) ?_
     refine GL.nil ?_
     refine GE.thenN ?_
     refine GC.seq ?_
     refine GC.seq ?_
     refine GC.region ?_
     refine GL.val (Ex.move rfl) (by decide) ?_
     refine GL.val (v := (.int .u64 (((((Nat.log2 v : Nat) : Int) + e - 23) + 150)))) (Ex.conv rfl Try.underlying3 Try.underlying70 (Z := ((((Nat.log2 v : Nat) : Int) + e - 23) + 150)) (wu64b (by omega))) (by decide) ?_
     refine GL.val (v := (.agg #[(.int .i64 23), (.int .i64 8)])) (Ex.loadA rfl T.ag67 T.sz67 (i := 2) rfl (vs := [(.int .i64 23), (.int .i64 8)]) rfl rfl) (by decide) ?_
     refine GL.step (Stp.callR (vs := [(.agg #[(.int .i64 23), (.int .i64 8)])]) rfl rfl T.own82 (by decide) (fun wc hw => j82_1  wc )) (fun xq124 hq125 => ?_)
     refine GL.val (v := (.bool false)) (Ex.cast (Ex.geq rfl rfl) (congrArg Value.bool (decide_eq_false (by omega)))) (by decide) ?_
     refine GL.nil ?_
     refine GE.thenN ?_
     refine GC.cond rfl (fun hq126 => by cases hq126) (fun _ => ?_)
     refine GC.skip ?_
     refine GE.thenN ?_
     refine GC.seq ?_
     refine GC.drawP [⟨xq18.1, [(.int .u32 (((v / 2 ^ ((Nat.log2 v - 23)) : Nat) : Int)))], 23, true⟩, ⟨bq2, [(.int .i64 2), (.bool ng), (.slice (some ⟨b, 0, none⟩) 1 c), (.int .i64 e), (.bool false)], 38, true⟩, ⟨bq1, [(.int .i64 23), (.int .i64 8)], 67, true⟩] T.mixed (by kernel_rfl) (by kernel_rfl) (fuel := 17) rfl rfl ?_
     refine GH.take 0 (v := (.agg #[(.int .i64 23), (.int .i64 8)])) rfl (by kernel_rfl) (by kernel_rfl) (by kernel_rfl) (fun _ _ _ h => h) (Ex.loadA rfl T.ag67 T.sz67 (i := 2) rfl (vs := [(.int .i64 23), (.int .i64 8)]) rfl rfl) (ulC (ulC (ulC ulN))) (by decide) ?_
     refine GH.take 1 (v := (.pointer (some ⟨bq2, 1, none⟩))) rfl (by kernel_rfl) (by kernel_rfl) (by kernel_rfl) (fun _ _ _ h => h) (Ex.cast (Ex.fieldAddr rfl Try.underlying38 rfl T.sz4 (by decide)) rfl) (ulC (ulC (ulC ulN))) (by decide) ?_
     refine GH.take 2 (v := (.bool ng)) rfl (by kernel_rfl) (by kernel_rfl) (by kernel_rfl) (fun _ _ _ h => h) (Ex.load rfl T.ag4 (i := 1) rfl rfl) (ulC (ulC (ulC ulN))) (by decide) ?_
     refine GH.take 4 (v := (.int .i64 (((((Nat.log2 v : Nat) : Int) + e - 23) + 150)))) rfl (by kernel_rfl) (by kernel_rfl) (by kernel_rfl) (fun _ _ _ h => h) (Ex.move rfl) (ulC (ulC (ulC ulN))) (by decide) ?_
     refine GH.take 5 (v := (.int .u64 (((((Nat.log2 v : Nat) : Int) + e - 23) + 150)))) rfl (by kernel_rfl) (by kernel_rfl) (by kernel_rfl) (fun _ _ _ h => h) (Ex.conv rfl Try.underlying3 Try.underlying70 (Z := ((((Nat.log2 v : Nat) : Int) + e - 23) + 150)) (wu64b (by omega))) (ulC (ulC (ulC ulN))) (by decide) ?_
     refine GH.take 6 (v := (.pointer (some ⟨bq1, 0, none⟩))) rfl (by kernel_rfl) (by kernel_rfl) (by kernel_rfl) (fun _ _ _ h => h) (Ex.cast (Ex.fieldAddr rfl Try.underlying67 rfl T.sz3 (by decide)) rfl) (ulC (ulC (ulC ulN))) (by decide) ?_
     refine GH.take 7 (v := (.int .i64 23)) rfl (by kernel_rfl) (by kernel_rfl) (by kernel_rfl) (fun _ _ _ h => h) (Ex.load rfl T.ag3 (i := 2) rfl rfl) (ulC (ulC (ulC ulN))) (by decide) ?_
     refine GH.take 8 (v := (.int .u64 (((((((((Nat.log2 v : Nat) : Int) + e - 23) + 150)).toNat : Nat) : Int) * 8388608)))) rfl (by kernel_rfl) (by kernel_rfl) (by kernel_rfl) (fun _ _ _ h => h) (Ex.shl rfl (m := 23) rfl (by decide) (Z := (((((((Nat.log2 v : Nat) : Int) + e - 23) + 150)).toNat : Nat) : Int) * 8388608) (by rw [show ((2 : Int) ^ 23) = 8388608 by decide, wu64b (by omega)]; omega)) (ulC (ulC (ulC ulN))) (by decide) ?_
     refine GH.take 10 (v := (.int .u64 (((v / 2 ^ ((Nat.log2 v - 23)) : Nat) : Int)))) rfl (by kernel_rfl) (by kernel_rfl) (by kernel_rfl) (fun _ _ _ h => h) (Ex.move rfl) (ulC (ulC (ulC ulN))) (by decide) ?_
     refine GH.take 11 (v := (.pointer (some ⟨bq1, 0, none⟩))) rfl (by kernel_rfl) (by kernel_rfl) (by kernel_rfl) (fun _ _ _ h => h) (Ex.cast (Ex.fieldAddr rfl Try.underlying67 rfl T.sz3 (by decide)) rfl) (ulC (ulC (ulC ulN))) (by decide) ?_
     refine GH.take 12 (v := (.int .i64 23)) rfl (by kernel_rfl) (by kernel_rfl) (by kernel_rfl) (fun _ _ _ h => h) (Ex.load rfl T.ag3 (i := 2) rfl rfl) (ulC (ulC (ulC ulN))) (by decide) ?_
     refine GH.take 13 (v := (.int .u64 8388608)) rfl (by kernel_rfl) (by kernel_rfl) (by kernel_rfl) (fun _ _ _ h => h) (Ex.shl rfl (m := 23) rfl (by decide) (Z := 8388608) (by decide)) (ulC (ulC (ulC ulN))) (by decide) ?_
     refine GH.take 14 (v := (.int .u64 8388607)) rfl (by kernel_rfl) (by kernel_rfl) (by kernel_rfl) (fun _ _ _ h => h) (Ex.sub' rfl rfl (Z := 8388607) (by decide)) (ulC (ulC (ulC ulN))) (by decide) ?_
     refine GH.take 15 (v := (.int .u64 ((((v / 2 ^ ((Nat.log2 v - 23)) - 8388608) : Nat) : Int)))) rfl (by kernel_rfl) (by kernel_rfl) (by kernel_rfl) (fun _ _ _ h => h) (Ex.bits rfl rfl (by simp) (Z := (((v / 2 ^ ((Nat.log2 v - 23)) - 8388608) : Nat) : Int)) (andm64 23 (by omega) (by omega) (by omega) (by omega) rfl)) (ulC (ulC (ulC ulN))) (by decide) ?_
     refine GH.one 3 rfl (by kernel_rfl) (Stp.callR (vs := [(.agg #[(.int .i64 23), (.int .i64 8)]), (.bool ng)]) rfl rfl T.own87 (by decide) (fun wc hw => sign_p ng wc)) (fun _ => (ulC (ulC (ulC ulN)))) (fun xq129 hq130 => ?_)
     refine GH.take 9 (v := (.int .u64 ((Lg.sg ng + (((((((Nat.log2 v : Nat) : Int) + e - 23) + 150)).toNat * 8388608 : Nat) : Int))))) rfl (by kernel_rfl) (by kernel_rfl) (by kernel_rfl) (fun _ _ _ h => h) (Ex.bits rfl rfl (by simp) (Z := Lg.sg ng + (((((((Nat.log2 v : Nat) : Int) + e - 23) + 150)).toNat * 8388608 : Nat) : Int)) (Lg.or_sign (by omega) (by omega))) (ulC (ulC (ulC ulN))) (by decide) ?_
     refine GH.take 16 (v := (.int .u64 ((Lg.sg ng + (((((((Nat.log2 v : Nat) : Int) + e - 23) + 150)).toNat * 8388608 + (v / 2 ^ ((Nat.log2 v - 23)) - 8388608) : Nat) : Int))))) rfl (by kernel_rfl) (by kernel_rfl) (by kernel_rfl) (fun _ _ _ h => h) (Ex.bits rfl rfl (by simp) (Z := Lg.sg ng + (((((((Nat.log2 v : Nat) : Int) + e - 23) + 150)).toNat * 8388608 + (v / 2 ^ ((Nat.log2 v - 23)) - 8388608) : Nat) : Int)) (Lg.or_low (by omega) (by omega))) (ulC (ulC (ulC ulN))) (by decide) ?_
     refine GH.done (by kernel_rfl) ?_
     refine GE.thenN ?_
     refine GE.tail rfl (Ex.wp (v := (.int .u64 ((Lg.sg ng + (((((((Nat.log2 v : Nat) : Int) + e - 23) + 150)).toNat * 8388608 + (v / 2 ^ ((Nat.log2 v - 23)) - 8388608) : Nat) : Int))))) (Ex.assign rfl) (by decide)) (fun _ _ => ?_)
     refine GE.thenN ?_
     refine GC.ret ?_
     refine GC.ret1 rfl (Rv.tmp rfl) (fun wN HN => ?_)
     exact HN.ret () trivial (by rw [Lg.RD_of (v := v) (K := (v / 2 ^ (Nat.log2 v - 23))) (e := e) hv.1 hv.2 he ((if_pos (by omega)).trans (Lg.kept_no (by omega) (by first | exact fun q => absurd q.1 (by omega) | exact fun q => by rcases q.2 with z | z; exact absurd (hb.2 z) (by assumption); omega))) (by omega)]) (List.nil_sublist _) rfl
  ·refine GL.val (v := (.bool false)) (Ex.cast (Ex.lss rfl rfl) (congrArg Value.bool (decide_eq_false hq14))) (by decide) ?_
   refine GL.val (Ex.move rfl) (by decide) ?_
   refine GL.skipG (tj := 70) rfl rfl rfl (by decide) ?_
   refine GL.skipG (tj := 70) rfl rfl rfl (by decide) ?_
   refine GL.val (v := (.bool false)) (Ex.pickF rfl rfl) (by decide) ?_
   refine GL.nil ?_
   refine GE.thenN ?_
   refine GC.cond rfl (fun hq131 => by cases hq131) (fun _ => ?_)
   refine GC.exit ?_
   refine GE.thenE ?_
   refine GE.thenE ?_
   refine GE.blockE ?_
   refine GE.thenN ?_
   refine GC.seq ?_
   have hb := Lg.exit_bit hpi (by first | exact Or.inl (by omega) | exact Or.inr (by simpa using hq15))
   have hqf := Lg.quo_facts (v := v) (by omega)
   have hql := Lg.log_23 hqf.1 hqf.2
   refine GC.region ?_
   refine GL.val (Ex.move rfl) (by decide) ?_
   refine GL.val (Ex.move rfl) (by decide) ?_
   refine GL.val (Ex.move rfl) (by decide) ?_
   refine GL.val (v := (.int .i64 ((((Nat.log2 v - 23) : Nat) : Int)))) (Ex.sub' rfl rfl (Z := (((Nat.log2 v - 23) : Nat) : Int)) (by rw [w64 (by omega)]; omega)) (by decide) ?_
   refine GL.step (Stp.callR (vs := [(.slice (some ⟨b, 0, none⟩) 1 c), (.int .i64 ((((Nat.log2 v - 23) : Nat) : Int)))]) rfl rfl T.own77 (by decide) (fun wc hw => down_pos v b c ((Nat.log2 v - 23)) wc hv (hw.rd hc (fun x => x)) (by omega) (by omega))) (fun xq132 hq133 => ?_)
   refine GL.val (Ex.move rfl) (by decide) ?_
   refine GL.val (Ex.extract rfl rfl) (by decide) ?_
   refine GL.val (Ex.extract rfl rfl) (by decide) ?_
   refine GL.val (Ex.assign rfl) (by decide) ?_
   refine GL.val (Ex.assign rfl) (by decide) ?_
   refine GL.nil ?_
   refine GE.thenN ?_
   refine GC.seq ?_
   refine GC.region ?_
   refine GL.val (Ex.move rfl) (by decide) ?_
   refine GL.val (Ex.assign rfl) (by decide) ?_
   refine GL.nil ?_
   refine GE.thenN ?_
   refine GC.region ?_
   by_cases hq134 : ((((Lg.bt v ((Nat.log2 v - 24)) : Nat) : Int)) = 1)
   ·refine GL.val (v := (.bool true)) (Ex.cast (Ex.move rfl) (congrArg Value.bool (decide_eq_true hq134))) (by decide) ?_
    refine GL.val (Ex.move rfl) (by decide) ?_
    by_cases hq135 : rb = true
    ·refine GL.stepG (tj := 90) rfl rfl (Ex.wp (v := (.bool true)) (Ex.cast (Ex.move rfl) (congrArg Value.bool (hq135))) (by decide)) (fun _ _ => ?_)
     refine GL.stepG (tj := 90) rfl rfl (Ex.wp (v := (.bool true)) (Ex.move rfl) (by decide)) (fun _ _ => ?_)
     refine GL.skipG (tj := 92) rfl rfl rfl (by decide) ?_
     refine GL.skipG (tj := 92) rfl rfl rfl (by decide) ?_
     refine GL.skipG (tj := 92) rfl rfl rfl (by decide) ?_
     refine GL.stepG (tj := 90) rfl rfl (Ex.wp (v := (.bool true)) (Ex.pickT rfl rfl) (by decide)) (fun _ _ => ?_)
     refine GL.val (v := (.bool true)) (Ex.pickT rfl rfl) (by decide) ?_
     refine GL.val (Ex.assign rfl) (by decide) ?_
     refine GL.nil ?_
     refine GE.thenN ?_
     refine GC.seq ?_
     refine GC.seq ?_
     refine GC.region ?_
     refine GL.val (Ex.move rfl) (by decide) ?_
     refine GL.nil ?_
     refine GE.thenN ?_
     refine GC.cond rfl (fun _ => ?_) (fun hq136 => by cases hq136)
     refine GC.region ?_
     refine GL.val (Ex.move rfl) (by decide) ?_
     refine GL.step (Stp.callR (vs := [(.int .u64 1)]) rfl rfl T.own62 (by decide) (fun wc hw => natof_pos 1 wc (by decide))) (fun xq137 hq138 => ?_)
     refine GL.step (Stp.callR (vs := [(.slice (some ⟨xq132.1, 0, none⟩) 1 1), (.slice (some ⟨xq137, 0, none⟩) 1 2)]) rfl rfl T.own64 (by decide) (fun wc hw => plus_1 (v / 2 ^ ((Nat.log2 v - 23))) xq132.1 1 xq137 2 wc (by omega) (Lg.rd1 (hw.rdOf (i := 1) rfl 0)) (Lg.rd1 (hw.rdOf (i := 0) rfl 0)))) (fun xq139 hq140 => ?_)
     refine GL.val (Ex.assign rfl) (by decide) ?_
     refine GL.nil ?_
     refine GE.thenN ?_
     refine GC.seq ?_
     refine GC.seq ?_
     refine GC.draw [⟨xq139, [(.int .u32 ((((v / 2 ^ ((Nat.log2 v - 23))) + 1 : Nat) : Int))), (.int .u32 0)], 23, true⟩, ⟨xq137, [(.int .u32 1), (.int .u32 0)], 23, true⟩, ⟨xq132.1, [(.int .u32 (((v / 2 ^ ((Nat.log2 v - 23)) : Nat) : Int)))], 23, true⟩, ⟨bq2, [(.int .i64 2), (.bool ng), (.slice (some ⟨b, 0, none⟩) 1 c), (.int .i64 e), (.bool false)], 38, true⟩, ⟨bq1, [(.int .i64 23), (.int .i64 8)], 67, true⟩] T.mixed (fuel := 6) rfl rfl ?_
     refine GH.take 0 (v := (.slice (some ⟨xq139, 0, none⟩) 1 2)) rfl (by kernel_rfl) (by kernel_rfl) (by kernel_rfl) (fun _ _ _ h => h) (Ex.move rfl) (ulC (ulC (ulC (ulC (ulC ulN))))) (by decide) ?_
     refine GH.take 2 (v := (.pointer (some ⟨bq1, 0, none⟩))) rfl (by kernel_rfl) (by kernel_rfl) (by kernel_rfl) (fun _ _ _ h => h) (Ex.cast (Ex.fieldAddr rfl Try.underlying67 rfl T.sz3 (by decide)) rfl) (ulC (ulC (ulC (ulC (ulC ulN))))) (by decide) ?_
     refine GH.take 3 (v := (.int .i64 23)) rfl (by kernel_rfl) (by kernel_rfl) (by kernel_rfl) (fun _ _ _ h => h) (Ex.load rfl T.ag3 (i := 4) rfl rfl) (ulC (ulC (ulC (ulC (ulC ulN))))) (by decide) ?_
     refine GH.take 4 (v := (.int .i64 24)) rfl (by kernel_rfl) (by kernel_rfl) (by kernel_rfl) (fun _ _ _ h => h) (Ex.add rfl rfl (Z := 24) (by decide)) (ulC (ulC (ulC (ulC (ulC ulN))))) (by decide) ?_
     refine GH.one 1 rfl (by kernel_rfl) (Stp.callR (vs := [(.slice (some ⟨xq139, 0, none⟩) 1 2)]) rfl rfl T.own88 (by decide) (fun wc hw => bits_pos ((v / 2 ^ ((Nat.log2 v - 23))) + 1) xq139 2 wc (by omega) (Lg.rd1 (hw.rdOf (i := 0) rfl 0)))) (fun _ => (ulC (ulC (ulC (ulC (ulC ulN)))))) (fun xq143 hq144 => ?_)
     refine GH.take 5 (v := (.bool (decide (24 < (((Nat.log2 ((v / 2 ^ ((Nat.log2 v - 23))) + 1) + 1 : Nat) : Int)))))) rfl (by kernel_rfl) (by kernel_rfl) (by kernel_rfl) (fun _ _ _ h => h) (Ex.gtr rfl rfl) (ulC (ulC (ulC (ulC (ulC ulN))))) (by decide) ?_
     refine GH.done (by kernel_rfl) ?_
     refine GE.thenN ?_
     refine GC.cond rfl (fun hq145 => ?_) (fun hq145 => ?_)
     ·replace hq145 := of_decide_eq_true hq145
      have hk24 : (v / 2 ^ (Nat.log2 v - 23)) + 1 = 16777216 := Lg.is_24 (by omega) (by omega)
      have hk23 : ((v / 2 ^ (Nat.log2 v - 23)) + 1) / 2 ^ 1 = 8388608 := by omega
      refine GC.seq ?_
      refine GC.region ?_
      refine GL.val (Ex.move rfl) (by decide) ?_
      refine GL.step (Stp.callR (vs := [(.slice (some ⟨xq139, 0, none⟩) 1 2), (.int .i64 1)]) rfl rfl T.own77 (by decide) (fun wc hw => down_pos ((v / 2 ^ ((Nat.log2 v - 23))) + 1) xq139 2 1 wc (by omega) (Lg.rd1 (hw.rdOf (i := 0) rfl 0)) (by omega) (by omega))) (fun xq146 hq147 => ?_)
      refine GL.val (Ex.move rfl) (by decide) ?_
      refine GL.val (Ex.extract rfl rfl) (by decide) ?_
      refine GL.val (Ex.extract rfl rfl) (by decide) ?_
      refine GL.val (Ex.assign rfl) (by decide) ?_
      refine GL.nil ?_
      refine GE.thenN ?_
      refine GC.region ?_
      refine GL.val (Ex.move rfl) (by decide) ?_
      refine GL.val (v := (.int .i64 (((((Nat.log2 v : Nat) : Int) + e - 23) + 1)))) (Ex.add rfl rfl (Z := ((((Nat.log2 v : Nat) : Int) + e - 23) + 1)) (w64 (by omega))) (by decide) ?_
      refine GL.val (Ex.assign rfl) (by decide) ?_
      refine GL.nil ?_
      refine GE.thenN ?_
      refine GC.seq ?_
      refine GC.region ?_
      refine GL.val (Ex.move rfl) (by decide) ?_
      refine GL.step (Stp.callR (vs := [(.slice (some ⟨xq146.1, 0, none⟩) 1 1)]) rfl rfl T.own89 (by decide) (fun wc hw => low_pos (((v / 2 ^ ((Nat.log2 v - 23))) + 1) / 2 ^ 1) xq146.1 1 wc (by omega) (Lg.rd1 (hw.rdOf (i := 0) rfl 0)))) (fun xq148 hq149 => ?_)
      refine GL.val (Ex.assign rfl) (by decide) ?_
      refine GL.nil ?_
      refine GE.thenN ?_
      refine GC.seq ?_
      refine GC.seq ?_
      refine GC.region ?_
      refine GL.val (Ex.move rfl) (by decide) ?_
      refine GL.val (v := (.pointer (some ⟨bq1, 0, none⟩))) (Ex.cast (Ex.fieldAddr rfl Try.underlying67 rfl T.sz3 (by decide)) rfl) (by decide) ?_
      refine GL.val (Ex.load rfl T.ag3 (i := 5) rfl rfl) (by decide) ?_
      refine GL.val (v := (.int .u64 8388608)) (Ex.shl rfl (m := 23) rfl (by decide) (Z := 8388608) (by decide)) (by decide) ?_
      refine GL.val (v := (.bool false)) (Ex.cast (Ex.lss rfl rfl) (congrArg Value.bool (decide_eq_false (by omega)))) (by decide) ?_
      refine GL.nil ?_
      refine GE.thenN ?_
      refine GC.cond rfl (fun hq150 => by cases hq150) (fun _ => ?_)
      refine GC.skip ?_
      refine GE.thenN ?_
      refine GC.seq ?_
      refine GC.region ?_
      refine GL.val (Ex.move rfl) (by decide) ?_
      refine GL.val (v := (.agg #[(.int .i64 23), (.int .i64 8)])) (Ex.loadA rfl T.ag67 T.sz67 (i := 5) rfl (vs := [(.int .i64 23), (.int .i64 8)]) rfl rfl) (by decide) ?_
      refine GL.step (Stp.callR (vs := [(.agg #[(.int .i64 23), (.int .i64 8)])]) rfl rfl T.own83 (by decide) (fun wc hw => j83_2  wc )) (fun xq151 hq152 => ?_)
      refine GL.val (v := (.int .i64 ((((((Nat.log2 v : Nat) : Int) + e - 23) + 1) + 150)))) (Ex.add rfl rfl (Z := (((((Nat.log2 v : Nat) : Int) + e - 23) + 1) + 150)) (w64 (by omega))) (by decide) ?_
      refine GL.val (Ex.assign rfl) (by decide) ?_
      refine GL.nil ?_
      refine GE.thenN ?_
      refine GC.seq ?_
      refine GC.seq ?_
      refine GC.region ?_
      refine GL.val (Ex.move rfl) (by decide) ?_
      refine GL.val (v := (.int .u64 ((((((Nat.log2 v : Nat) : Int) + e - 23) + 1) + 150)))) (Ex.conv rfl Try.underlying3 Try.underlying70 (Z := (((((Nat.log2 v : Nat) : Int) + e - 23) + 1) + 150)) (wu64b (by omega))) (by decide) ?_
      refine GL.val (v := (.agg #[(.int .i64 23), (.int .i64 8)])) (Ex.loadA rfl T.ag67 T.sz67 (i := 5) rfl (vs := [(.int .i64 23), (.int .i64 8)]) rfl rfl) (by decide) ?_
      refine GL.step (Stp.callR (vs := [(.agg #[(.int .i64 23), (.int .i64 8)])]) rfl rfl T.own82 (by decide) (fun wc hw => j82_1  wc )) (fun xq153 hq154 => ?_)
      refine GL.val (v := (.bool false)) (Ex.cast (Ex.geq rfl rfl) (congrArg Value.bool (decide_eq_false (by omega)))) (by decide) ?_
      refine GL.nil ?_
      refine GE.thenN ?_
      refine GC.cond rfl (fun hq155 => by cases hq155) (fun _ => ?_)
      refine GC.skip ?_
      refine GE.thenN ?_
      refine GC.seq ?_
      refine GC.drawP [⟨xq146.1, [(.int .u32 (((((v / 2 ^ ((Nat.log2 v - 23))) + 1) / 2 ^ 1 : Nat) : Int)))], 23, true⟩, ⟨xq139, [(.int .u32 ((((v / 2 ^ ((Nat.log2 v - 23))) + 1 : Nat) : Int))), (.int .u32 0)], 23, true⟩, ⟨xq137, [(.int .u32 1), (.int .u32 0)], 23, true⟩, ⟨xq132.1, [(.int .u32 (((v / 2 ^ ((Nat.log2 v - 23)) : Nat) : Int)))], 23, true⟩, ⟨bq2, [(.int .i64 2), (.bool ng), (.slice (some ⟨b, 0, none⟩) 1 c), (.int .i64 e), (.bool false)], 38, true⟩, ⟨bq1, [(.int .i64 23), (.int .i64 8)], 67, true⟩] T.mixed (by kernel_rfl) (by kernel_rfl) (fuel := 17) rfl rfl ?_
      refine GH.take 0 (v := (.agg #[(.int .i64 23), (.int .i64 8)])) rfl (by kernel_rfl) (by kernel_rfl) (by kernel_rfl) (fun _ _ _ h => h) (Ex.loadA rfl T.ag67 T.sz67 (i := 5) rfl (vs := [(.int .i64 23), (.int .i64 8)]) rfl rfl) (ulC (ulC (ulC (ulC (ulC (ulC ulN)))))) (by decide) ?_
      refine GH.take 1 (v := (.pointer (some ⟨bq2, 1, none⟩))) rfl (by kernel_rfl) (by kernel_rfl) (by kernel_rfl) (fun _ _ _ h => h) (Ex.cast (Ex.fieldAddr rfl Try.underlying38 rfl T.sz4 (by decide)) rfl) (ulC (ulC (ulC (ulC (ulC (ulC ulN)))))) (by decide) ?_
      refine GH.take 2 (v := (.bool ng)) rfl (by kernel_rfl) (by kernel_rfl) (by kernel_rfl) (fun _ _ _ h => h) (Ex.load rfl T.ag4 (i := 4) rfl rfl) (ulC (ulC (ulC (ulC (ulC (ulC ulN)))))) (by decide) ?_
      refine GH.take 4 (v := (.int .i64 ((((((Nat.log2 v : Nat) : Int) + e - 23) + 1) + 150)))) rfl (by kernel_rfl) (by kernel_rfl) (by kernel_rfl) (fun _ _ _ h => h) (Ex.move rfl) (ulC (ulC (ulC (ulC (ulC (ulC ulN)))))) (by decide) ?_
      refine GH.take 5 (v := (.int .u64 ((((((Nat.log2 v : Nat) : Int) + e - 23) + 1) + 150)))) rfl (by kernel_rfl) (by kernel_rfl) (by kernel_rfl) (fun _ _ _ h => h) (Ex.conv rfl Try.underlying3 Try.underlying70 (Z := (((((Nat.log2 v : Nat) : Int) + e - 23) + 1) + 150)) (wu64b (by omega))) (ulC (ulC (ulC (ulC (ulC (ulC ulN)))))) (by decide) ?_
      refine GH.take 6 (v := (.pointer (some ⟨bq1, 0, none⟩))) rfl (by kernel_rfl) (by kernel_rfl) (by kernel_rfl) (fun _ _ _ h => h) (Ex.cast (Ex.fieldAddr rfl Try.underlying67 rfl T.sz3 (by decide)) rfl) (ulC (ulC (ulC (ulC (ulC (ulC ulN)))))) (by decide) ?_
      refine GH.take 7 (v := (.int .i64 23)) rfl (by kernel_rfl) (by kernel_rfl) (by kernel_rfl) (fun _ _ _ h => h) (Ex.load rfl T.ag3 (i := 5) rfl rfl) (ulC (ulC (ulC (ulC (ulC (ulC ulN)))))) (by decide) ?_
      refine GH.take 8 (v := (.int .u64 ((((((((((Nat.log2 v : Nat) : Int) + e - 23) + 1) + 150)).toNat : Nat) : Int) * 8388608)))) rfl (by kernel_rfl) (by kernel_rfl) (by kernel_rfl) (fun _ _ _ h => h) (Ex.shl rfl (m := 23) rfl (by decide) (Z := ((((((((Nat.log2 v : Nat) : Int) + e - 23) + 1) + 150)).toNat : Nat) : Int) * 8388608) (by rw [show ((2 : Int) ^ 23) = 8388608 by decide, wu64b (by omega)]; omega)) (ulC (ulC (ulC (ulC (ulC (ulC ulN)))))) (by decide) ?_
      refine GH.take 10 (v := (.int .u64 (((((v / 2 ^ ((Nat.log2 v - 23))) + 1) / 2 ^ 1 : Nat) : Int)))) rfl (by kernel_rfl) (by kernel_rfl) (by kernel_rfl) (fun _ _ _ h => h) (Ex.move rfl) (ulC (ulC (ulC (ulC (ulC (ulC ulN)))))) (by decide) ?_
      refine GH.take 11 (v := (.pointer (some ⟨bq1, 0, none⟩))) rfl (by kernel_rfl) (by kernel_rfl) (by kernel_rfl) (fun _ _ _ h => h) (Ex.cast (Ex.fieldAddr rfl Try.underlying67 rfl T.sz3 (by decide)) rfl) (ulC (ulC (ulC (ulC (ulC (ulC ulN)))))) (by decide) ?_
      refine GH.take 12 (v := (.int .i64 23)) rfl (by kernel_rfl) (by kernel_rfl) (by kernel_rfl) (fun _ _ _ h => h) (Ex.load rfl T.ag3 (i := 5) rfl rfl) (ulC (ulC (ulC (ulC (ulC (ulC ulN)))))) (by decide) ?_
      refine GH.take 13 (v := (.int .u64 8388608)) rfl (by kernel_rfl) (by kernel_rfl) (by kernel_rfl) (fun _ _ _ h => h) (Ex.shl rfl (m := 23) rfl (by decide) (Z := 8388608) (by decide)) (ulC (ulC (ulC (ulC (ulC (ulC ulN)))))) (by decide) ?_
      refine GH.take 14 (v := (.int .u64 8388607)) rfl (by kernel_rfl) (by kernel_rfl) (by kernel_rfl) (fun _ _ _ h => h) (Ex.sub' rfl rfl (Z := 8388607) (by decide)) (ulC (ulC (ulC (ulC (ulC (ulC ulN)))))) (by decide) ?_
      refine GH.take 15 (v := (.int .u64 ((((((v / 2 ^ ((Nat.log2 v - 23))) + 1) / 2 ^ 1 - 8388608) : Nat) : Int)))) rfl (by kernel_rfl) (by kernel_rfl) (by kernel_rfl) (fun _ _ _ h => h) (Ex.bits rfl rfl (by simp) (Z := (((((v / 2 ^ ((Nat.log2 v - 23))) + 1) / 2 ^ 1 - 8388608) : Nat) : Int)) (andm64 23 (by omega) (by omega) (by omega) (by omega) rfl)) (ulC (ulC (ulC (ulC (ulC (ulC ulN)))))) (by decide) ?_
      refine GH.one 3 rfl (by kernel_rfl) (Stp.callR (vs := [(.agg #[(.int .i64 23), (.int .i64 8)]), (.bool ng)]) rfl rfl T.own87 (by decide) (fun wc hw => sign_p ng wc)) (fun _ => (ulC (ulC (ulC (ulC (ulC (ulC ulN))))))) (fun xq158 hq159 => ?_)
      refine GH.take 9 (v := (.int .u64 ((Lg.sg ng + ((((((((Nat.log2 v : Nat) : Int) + e - 23) + 1) + 150)).toNat * 8388608 : Nat) : Int))))) rfl (by kernel_rfl) (by kernel_rfl) (by kernel_rfl) (fun _ _ _ h => h) (Ex.bits rfl rfl (by simp) (Z := Lg.sg ng + ((((((((Nat.log2 v : Nat) : Int) + e - 23) + 1) + 150)).toNat * 8388608 : Nat) : Int)) (Lg.or_sign (by omega) (by omega))) (ulC (ulC (ulC (ulC (ulC (ulC ulN)))))) (by decide) ?_
      refine GH.take 16 (v := (.int .u64 ((Lg.sg ng + ((((((((Nat.log2 v : Nat) : Int) + e - 23) + 1) + 150)).toNat * 8388608 + (((v / 2 ^ ((Nat.log2 v - 23))) + 1) / 2 ^ 1 - 8388608) : Nat) : Int))))) rfl (by kernel_rfl) (by kernel_rfl) (by kernel_rfl) (fun _ _ _ h => h) (Ex.bits rfl rfl (by simp) (Z := Lg.sg ng + ((((((((Nat.log2 v : Nat) : Int) + e - 23) + 1) + 150)).toNat * 8388608 + (((v / 2 ^ ((Nat.log2 v - 23))) + 1) / 2 ^ 1 - 8388608) : Nat) : Int)) (Lg.or_low (by omega) (by omega))) (ulC (ulC (ulC (ulC (ulC (ulC ulN)))))) (by decide) ?_
      refine GH.done (by kernel_rfl) ?_
      refine GE.thenN ?_
      refine GE.tail rfl (Ex.wp (v := (.int .u64 ((Lg.sg ng + ((((((((Nat.log2 v : Nat) : Int) + e - 23) + 1) + 150)).toNat * 8388608 + (((v / 2 ^ ((Nat.log2 v - 23))) + 1) / 2 ^ 1 - 8388608) : Nat) : Int))))) (Ex.assign rfl) (by decide)) (fun _ _ => ?_)
      refine GE.thenN ?_
      refine GC.ret ?_
      refine GC.ret1 rfl (Rv.tmp rfl) (fun wN HN => ?_)
      exact HN.ret () trivial (by rw [Lg.RD_of (v := v) (K := ((v / 2 ^ (Nat.log2 v - 23)) + 1)) (e := e) hv.1 hv.2 he ((if_pos (by omega)).trans (Lg.kept_up (by omega) (by omega) (by first | exact Or.inl (hb.1 (by assumption)) | exact Or.inr (by omega)))) (by omega)]) (List.nil_sublist _) rfl
     ·replace hq145 := of_decide_eq_false hq145
      have hk24 : (v / 2 ^ (Nat.log2 v - 23)) + 1 < 16777216 := Lg.lt_24 (by omega)
      refine GC.skip ?_
      refine GE.thenN ?_
      refine GC.seq ?_
      refine GC.region ?_
      refine GL.val (Ex.move rfl) (by decide) ?_
      refine GL.step (Stp.callR (vs := [(.slice (some ⟨xq139, 0, none⟩) 1 2)]) rfl rfl T.own89 (by decide) (fun wc hw => low_pos ((v / 2 ^ ((Nat.log2 v - 23))) + 1) xq139 2 wc (by omega) (Lg.rd1 (hw.rdOf (i := 0) rfl 0)))) (fun xq160 hq161 => ?_)
      refine GL.val (Ex.assign rfl) (by decide) ?_
      refine GL.nil ?_
      refine GE.thenN ?_
      refine GC.seq ?_
      refine GC.seq ?_
      refine GC.region ?_
      refine GL.val (Ex.move rfl) (by decide) ?_
      refine GL.val (v := (.pointer (some ⟨bq1, 0, none⟩))) (Ex.cast (Ex.fieldAddr rfl Try.underlying67 rfl T.sz3 (by decide)) rfl) (by decide) ?_
      refine GL.val (Ex.load rfl T.ag3 (i := 4) rfl rfl) (by decide) ?_
      refine GL.val (v := (.int .u64 8388608)) (Ex.shl rfl (m := 23) rfl (by decide) (Z := 8388608) (by decide)) (by decide) ?_
      refine GL.val (v := (.bool false)) (Ex.cast (Ex.lss rfl rfl) (congrArg Value.bool (decide_eq_false (by omega)))) (by decide) ?_
      refine GL.nil ?_
      refine GE.thenN ?_
      refine GC.cond rfl (fun hq162 => by cases hq162) (fun _ => ?_)
      refine GC.skip ?_
      refine GE.thenN ?_
      refine GC.seq ?_
      refine GC.region ?_
      refine GL.val (Ex.move rfl) (by decide) ?_
      refine GL.val (v := (.agg #[(.int .i64 23), (.int .i64 8)])) (Ex.loadA rfl T.ag67 T.sz67 (i := 4) rfl (vs := [(.int .i64 23), (.int .i64 8)]) rfl rfl) (by decide) ?_
      refine GL.step (Stp.callR (vs := [(.agg #[(.int .i64 23), (.int .i64 8)])]) rfl rfl T.own83 (by decide) (fun wc hw => j83_2  wc )) (fun xq163 hq164 => ?_)
      refine GL.val (v := (.int .i64 (((((Nat.log2 v : Nat) : Int) + e - 23) + 150)))) (Ex.add rfl rfl (Z := ((((Nat.log2 v : Nat) : Int) + e - 23) + 150)) (w64 (by omega))) (by decide) ?_
      refine GL.val (Ex.assign rfl) (by decide) ?_
      refine GL.nil ?_
      refine GE.thenN ?_
      refine GC.seq ?_
      refine GC.seq ?_
      refine GC.region ?_
      refine GL.val (Ex.move rfl) (by decide) ?_
      refine GL.val (v := (.int .u64 (((((Nat.log2 v : Nat) : Int) + e - 23) + 150)))) (Ex.conv rfl Try.underlying3 Try.underlying70 (Z := ((((Nat.log2 v : Nat) : Int) + e - 23) + 150)) (wu64b (by omega))) (by decide) ?_
      refine GL.val (v := (.agg #[(.int .i64 23), (.int .i64 8)])) (Ex.loadA rfl T.ag67 T.sz67 (i := 4) rfl (vs := [(.int .i64 23), (.int .i64 8)]) rfl rfl) (by decide) ?_
      refine GL.step (Stp.callR (vs := [(.agg #[(.int .i64 23), (.int .i64 8)])]) rfl rfl T.own82 (by decide) (fun wc hw => j82_1  wc )) (fun xq165 hq166 => ?_)
      refine GL.val (v := (.bool false)) (Ex.cast (Ex.geq rfl rfl) (congrArg Value.bool (decide_eq_false (by omega)))) (by decide) ?_
      refine GL.nil ?_
      refine GE.thenN ?_
      refine GC.cond rfl (fun hq167 => by cases hq167) (fun _ => ?_)
      refine GC.skip ?_
      refine GE.thenN ?_
      refine GC.seq ?_
      refine GC.drawP [⟨xq139, [(.int .u32 ((((v / 2 ^ ((Nat.log2 v - 23))) + 1 : Nat) : Int))), (.int .u32 0)], 23, true⟩, ⟨xq137, [(.int .u32 1), (.int .u32 0)], 23, true⟩, ⟨xq132.1, [(.int .u32 (((v / 2 ^ ((Nat.log2 v - 23)) : Nat) : Int)))], 23, true⟩, ⟨bq2, [(.int .i64 2), (.bool ng), (.slice (some ⟨b, 0, none⟩) 1 c), (.int .i64 e), (.bool false)], 38, true⟩, ⟨bq1, [(.int .i64 23), (.int .i64 8)], 67, true⟩] T.mixed (by kernel_rfl) (by kernel_rfl) (fuel := 17) rfl rfl ?_
      refine GH.take 0 (v := (.agg #[(.int .i64 23), (.int .i64 8)])) rfl (by kernel_rfl) (by kernel_rfl) (by kernel_rfl) (fun _ _ _ h => h) (Ex.loadA rfl T.ag67 T.sz67 (i := 4) rfl (vs := [(.int .i64 23), (.int .i64 8)]) rfl rfl) (ulC (ulC (ulC (ulC (ulC ulN))))) (by decide) ?_
      refine GH.take 1 (v := (.pointer (some ⟨bq2, 1, none⟩))) rfl (by kernel_rfl) (by kernel_rfl) (by kernel_rfl) (fun _ _ _ h => h) (Ex.cast (Ex.fieldAddr rfl Try.underlying38 rfl T.sz4 (by decide)) rfl) (ulC (ulC (ulC (ulC (ulC ulN))))) (by decide) ?_
      refine GH.take 2 (v := (.bool ng)) rfl (by kernel_rfl) (by kernel_rfl) (by kernel_rfl) (fun _ _ _ h => h) (Ex.load rfl T.ag4 (i := 3) rfl rfl) (ulC (ulC (ulC (ulC (ulC ulN))))) (by decide) ?_
      refine GH.take 4 (v := (.int .i64 (((((Nat.log2 v : Nat) : Int) + e - 23) + 150)))) rfl (by kernel_rfl) (by kernel_rfl) (by kernel_rfl) (fun _ _ _ h => h) (Ex.move rfl) (ulC (ulC (ulC (ulC (ulC ulN))))) (by decide) ?_
      refine GH.take 5 (v := (.int .u64 (((((Nat.log2 v : Nat) : Int) + e - 23) + 150)))) rfl (by kernel_rfl) (by kernel_rfl) (by kernel_rfl) (fun _ _ _ h => h) (Ex.conv rfl Try.underlying3 Try.underlying70 (Z := ((((Nat.log2 v : Nat) : Int) + e - 23) + 150)) (wu64b (by omega))) (ulC (ulC (ulC (ulC (ulC ulN))))) (by decide) ?_
      refine GH.take 6 (v := (.pointer (some ⟨bq1, 0, none⟩))) rfl (by kernel_rfl) (by kernel_rfl) (by kernel_rfl) (fun _ _ _ h => h) (Ex.cast (Ex.fieldAddr rfl Try.underlying67 rfl T.sz3 (by decide)) rfl) (ulC (ulC (ulC (ulC (ulC ulN))))) (by decide) ?_
      refine GH.take 7 (v := (.int .i64 23)) rfl (by kernel_rfl) (by kernel_rfl) (by kernel_rfl) (fun _ _ _ h => h) (Ex.load rfl T.ag3 (i := 4) rfl rfl) (ulC (ulC (ulC (ulC (ulC ulN))))) (by decide) ?_
      refine GH.take 8 (v := (.int .u64 (((((((((Nat.log2 v : Nat) : Int) + e - 23) + 150)).toNat : Nat) : Int) * 8388608)))) rfl (by kernel_rfl) (by kernel_rfl) (by kernel_rfl) (fun _ _ _ h => h) (Ex.shl rfl (m := 23) rfl (by decide) (Z := (((((((Nat.log2 v : Nat) : Int) + e - 23) + 150)).toNat : Nat) : Int) * 8388608) (by rw [show ((2 : Int) ^ 23) = 8388608 by decide, wu64b (by omega)]; omega)) (ulC (ulC (ulC (ulC (ulC ulN))))) (by decide) ?_
      refine GH.take 10 (v := (.int .u64 ((((v / 2 ^ ((Nat.log2 v - 23))) + 1 : Nat) : Int)))) rfl (by kernel_rfl) (by kernel_rfl) (by kernel_rfl) (fun _ _ _ h => h) (Ex.move rfl) (ulC (ulC (ulC (ulC (ulC ulN))))) (by decide) ?_
      refine GH.take 11 (v := (.pointer (some ⟨bq1, 0, none⟩))) rfl (by kernel_rfl) (by kernel_rfl) (by kernel_rfl) (fun _ _ _ h => h) (Ex.cast (Ex.fieldAddr rfl Try.underlying67 rfl T.sz3 (by decide)) rfl) (ulC (ulC (ulC (ulC (ulC ulN))))) (by decide) ?_
      refine GH.take 12 (v := (.int .i64 23)) rfl (by kernel_rfl) (by kernel_rfl) (by kernel_rfl) (fun _ _ _ h => h) (Ex.load rfl T.ag3 (i := 4) rfl rfl) (ulC (ulC (ulC (ulC (ulC ulN))))) (by decide) ?_
      refine GH.take 13 (v := (.int .u64 8388608)) rfl (by kernel_rfl) (by kernel_rfl) (by kernel_rfl) (fun _ _ _ h => h) (Ex.shl rfl (m := 23) rfl (by decide) (Z := 8388608) (by decide)) (ulC (ulC (ulC (ulC (ulC ulN))))) (by decide) ?_
      refine GH.take 14 (v := (.int .u64 8388607)) rfl (by kernel_rfl) (by kernel_rfl) (by kernel_rfl) (fun _ _ _ h => h) (Ex.sub' rfl rfl (Z := 8388607) (by decide)) (ulC (ulC (ulC (ulC (ulC ulN))))) (by decide) ?_
      refine GH.take 15 (v := (.int .u64 (((((v / 2 ^ ((Nat.log2 v - 23))) + 1 - 8388608) : Nat) : Int)))) rfl (by kernel_rfl) (by kernel_rfl) (by kernel_rfl) (fun _ _ _ h => h) (Ex.bits rfl rfl (by simp) (Z := ((((v / 2 ^ ((Nat.log2 v - 23))) + 1 - 8388608) : Nat) : Int)) (andm64 23 (by omega) (by omega) (by omega) (by omega) rfl)) (ulC (ulC (ulC (ulC (ulC ulN))))) (by decide) ?_
      refine GH.one 3 rfl (by kernel_rfl) (Stp.callR (vs := [(.agg #[(.int .i64 23), (.int .i64 8)]), (.bool ng)]) rfl rfl T.own87 (by decide) (fun wc hw => sign_p ng wc)) (fun _ => (ulC (ulC (ulC (ulC (ulC ulN)))))) (fun xq170 hq171 => ?_)
      refine GH.take 9 (v := (.int .u64 ((Lg.sg ng + (((((((Nat.log2 v : Nat) : Int) + e - 23) + 150)).toNat * 8388608 : Nat) : Int))))) rfl (by kernel_rfl) (by kernel_rfl) (by kernel_rfl) (fun _ _ _ h => h) (Ex.bits rfl rfl (by simp) (Z := Lg.sg ng + (((((((Nat.log2 v : Nat) : Int) + e - 23) + 150)).toNat * 8388608 : Nat) : Int)) (Lg.or_sign (by omega) (by omega))) (ulC (ulC (ulC (ulC (ulC ulN))))) (by decide) ?_
      refine GH.take 16 (v := (.int .u64 ((Lg.sg ng + (((((((Nat.log2 v : Nat) : Int) + e - 23) + 150)).toNat * 8388608 + ((v / 2 ^ ((Nat.log2 v - 23))) + 1 - 8388608) : Nat) : Int))))) rfl (by kernel_rfl) (by kernel_rfl) (by kernel_rfl) (fun _ _ _ h => h) (Ex.bits rfl rfl (by simp) (Z := Lg.sg ng + (((((((Nat.log2 v : Nat) : Int) + e - 23) + 150)).toNat * 8388608 + ((v / 2 ^ ((Nat.log2 v - 23))) + 1 - 8388608) : Nat) : Int)) (Lg.or_low (by omega) (by omega))) (ulC (ulC (ulC (ulC (ulC ulN))))) (by decide) ?_
      refine GH.done (by kernel_rfl) ?_
      refine GE.thenN ?_
      refine GE.tail rfl (Ex.wp (v := (.int .u64 ((Lg.sg ng + (((((((Nat.log2 v : Nat) : Int) + e - 23) + 150)).toNat * 8388608 + ((v / 2 ^ ((Nat.log2 v - 23))) + 1 - 8388608) : Nat) : Int))))) (Ex.assign rfl) (by decide)) (fun _ _ => ?_)
      refine GE.thenN ?_
      refine GC.ret ?_
      refine GC.ret1 rfl (Rv.tmp rfl) (fun wN HN => ?_)
      exact HN.ret () trivial (by rw [Lg.RD_of (v := v) (K := ((v / 2 ^ (Nat.log2 v - 23)) + 1)) (e := e) hv.1 hv.2 he ((if_pos (by omega)).trans (Lg.kept_up (by omega) (by omega) (by first | exact Or.inl (hb.1 (by assumption)) | exact Or.inr (by omega)))) (by omega)]) (List.nil_sublist _) rfl
    ·refine GL.stepG (tj := 90) rfl rfl (Ex.wp (v := (.bool false)) (Ex.cast (Ex.move rfl) (congrArg Value.bool ((Bool.eq_false_iff.2 hq135)))) (by decide)) (fun _ _ => ?_)
     refine GL.stepG (tj := 90) rfl rfl (Ex.wp (v := (.bool false)) (Ex.move rfl) (by decide)) (fun _ _ => ?_)
     refine GL.stepG (tj := 92) rfl rfl (Ex.wp (v := (.slice (some ⟨xq132.1, 0, none⟩) 1 1)) (Ex.move rfl) (by decide)) (fun _ _ => ?_)
     refine GL.stepG (tj := 92) rfl rfl (Stp.callR (vs := [(.slice (some ⟨xq132.1, 0, none⟩) 1 1), (.int .i64 0)]) rfl rfl T.own78 (by decide) (fun wc hw => bit_p (v / 2 ^ ((Nat.log2 v - 23))) xq132.1 1 0 wc (by omega) (Lg.rd1 (hw.rdOf (i := 0) rfl 0)) (by omega))) (fun xq172 hq173 => ?_)
     refine GL.stepG (tj := 92) rfl rfl (Ex.wp (v := (.bool (decide ((((Lg.bt (v / 2 ^ ((Nat.log2 v - 23))) 0 : Nat) : Int)) = 1)))) (Ex.eql rfl rfl) (by decide)) (fun _ _ => ?_)
     refine GL.stepG (tj := 90) rfl rfl (Ex.wp (v := (.bool (decide ((((Lg.bt (v / 2 ^ ((Nat.log2 v - 23))) 0 : Nat) : Int)) = 1)))) (Ex.pickF rfl rfl) (by decide)) (fun _ _ => ?_)
     refine GL.val (v := (.bool (decide ((((Lg.bt (v / 2 ^ ((Nat.log2 v - 23))) 0 : Nat) : Int)) = 1)))) (Ex.pickT rfl rfl) (by decide) ?_
     refine GL.val (Ex.assign rfl) (by decide) ?_
     refine GL.nil ?_
     refine GE.thenN ?_
     refine GC.seq ?_
     refine GC.seq ?_
     refine GC.region ?_
     refine GL.val (Ex.move rfl) (by decide) ?_
     refine GL.nil ?_
     refine GE.thenN ?_
     refine GC.cond rfl (fun hq174 => ?_) (fun hq174 => ?_)
     ·replace hq174 := of_decide_eq_true hq174
      refine GC.region ?_
      refine GL.val (Ex.move rfl) (by decide) ?_
      refine GL.step (Stp.callR (vs := [(.int .u64 1)]) rfl rfl T.own62 (by decide) (fun wc hw => natof_pos 1 wc (by decide))) (fun xq175 hq176 => ?_)
      refine GL.step (Stp.callR (vs := [(.slice (some ⟨xq132.1, 0, none⟩) 1 1), (.slice (some ⟨xq175, 0, none⟩) 1 2)]) rfl rfl T.own64 (by decide) (fun wc hw => plus_1 (v / 2 ^ ((Nat.log2 v - 23))) xq132.1 1 xq175 2 wc (by omega) (Lg.rd1 (hw.rdOf (i := 1) rfl 0)) (Lg.rd1 (hw.rdOf (i := 0) rfl 0)))) (fun xq177 hq178 => ?_)
      refine GL.val (Ex.assign rfl) (by decide) ?_
      refine GL.nil ?_
      refine GE.thenN ?_
      refine GC.seq ?_
      refine GC.seq ?_
      refine GC.draw [⟨xq177, [(.int .u32 ((((v / 2 ^ ((Nat.log2 v - 23))) + 1 : Nat) : Int))), (.int .u32 0)], 23, true⟩, ⟨xq175, [(.int .u32 1), (.int .u32 0)], 23, true⟩, ⟨xq132.1, [(.int .u32 (((v / 2 ^ ((Nat.log2 v - 23)) : Nat) : Int)))], 23, true⟩, ⟨bq2, [(.int .i64 2), (.bool ng), (.slice (some ⟨b, 0, none⟩) 1 c), (.int .i64 e), (.bool false)], 38, true⟩, ⟨bq1, [(.int .i64 23), (.int .i64 8)], 67, true⟩] T.mixed (fuel := 6) rfl rfl ?_
      refine GH.take 0 (v := (.slice (some ⟨xq177, 0, none⟩) 1 2)) rfl (by kernel_rfl) (by kernel_rfl) (by kernel_rfl) (fun _ _ _ h => h) (Ex.move rfl) (ulC (ulC (ulC (ulC (ulC ulN))))) (by decide) ?_
      refine GH.take 2 (v := (.pointer (some ⟨bq1, 0, none⟩))) rfl (by kernel_rfl) (by kernel_rfl) (by kernel_rfl) (fun _ _ _ h => h) (Ex.cast (Ex.fieldAddr rfl Try.underlying67 rfl T.sz3 (by decide)) rfl) (ulC (ulC (ulC (ulC (ulC ulN))))) (by decide) ?_
      refine GH.take 3 (v := (.int .i64 23)) rfl (by kernel_rfl) (by kernel_rfl) (by kernel_rfl) (fun _ _ _ h => h) (Ex.load rfl T.ag3 (i := 4) rfl rfl) (ulC (ulC (ulC (ulC (ulC ulN))))) (by decide) ?_
      refine GH.take 4 (v := (.int .i64 24)) rfl (by kernel_rfl) (by kernel_rfl) (by kernel_rfl) (fun _ _ _ h => h) (Ex.add rfl rfl (Z := 24) (by decide)) (ulC (ulC (ulC (ulC (ulC ulN))))) (by decide) ?_
      refine GH.one 1 rfl (by kernel_rfl) (Stp.callR (vs := [(.slice (some ⟨xq177, 0, none⟩) 1 2)]) rfl rfl T.own88 (by decide) (fun wc hw => bits_pos ((v / 2 ^ ((Nat.log2 v - 23))) + 1) xq177 2 wc (by omega) (Lg.rd1 (hw.rdOf (i := 0) rfl 0)))) (fun _ => (ulC (ulC (ulC (ulC (ulC ulN)))))) (fun xq181 hq182 => ?_)
      refine GH.take 5 (v := (.bool (decide (24 < (((Nat.log2 ((v / 2 ^ ((Nat.log2 v - 23))) + 1) + 1 : Nat) : Int)))))) rfl (by kernel_rfl) (by kernel_rfl) (by kernel_rfl) (fun _ _ _ h => h) (Ex.gtr rfl rfl) (ulC (ulC (ulC (ulC (ulC ulN))))) (by decide) ?_
      refine GH.done (by kernel_rfl) ?_
      refine GE.thenN ?_
      refine GC.cond rfl (fun hq183 => ?_) (fun hq183 => ?_)
      ·replace hq183 := of_decide_eq_true hq183
       have hk24 : (v / 2 ^ (Nat.log2 v - 23)) + 1 = 16777216 := Lg.is_24 (by omega) (by omega)
       have hk23 : ((v / 2 ^ (Nat.log2 v - 23)) + 1) / 2 ^ 1 = 8388608 := by omega
       refine GC.seq ?_
       refine GC.region ?_
       refine GL.val (Ex.move rfl) (by decide) ?_
       refine GL.step (Stp.callR (vs := [(.slice (some ⟨xq177, 0, none⟩) 1 2), (.int .i64 1)]) rfl rfl T.own77 (by decide) (fun wc hw => down_pos ((v / 2 ^ ((Nat.log2 v - 23))) + 1) xq177 2 1 wc (by omega) (Lg.rd1 (hw.rdOf (i := 0) rfl 0)) (by omega) (by omega))) (fun xq184 hq185 => ?_)
       refine GL.val (Ex.move rfl) (by decide) ?_
       refine GL.val (Ex.extract rfl rfl) (by decide) ?_
       refine GL.val (Ex.extract rfl rfl) (by decide) ?_
       refine GL.val (Ex.assign rfl) (by decide) ?_
       refine GL.nil ?_
       refine GE.thenN ?_
       refine GC.region ?_
       refine GL.val (Ex.move rfl) (by decide) ?_
       refine GL.val (v := (.int .i64 (((((Nat.log2 v : Nat) : Int) + e - 23) + 1)))) (Ex.add rfl rfl (Z := ((((Nat.log2 v : Nat) : Int) + e - 23) + 1)) (w64 (by omega))) (by decide) ?_
       refine GL.val (Ex.assign rfl) (by decide) ?_
       refine GL.nil ?_
       refine GE.thenN ?_
       refine GC.seq ?_
       refine GC.region ?_
       refine GL.val (Ex.move rfl) (by decide) ?_
       refine GL.step (Stp.callR (vs := [(.slice (some ⟨xq184.1, 0, none⟩) 1 1)]) rfl rfl T.own89 (by decide) (fun wc hw => low_pos (((v / 2 ^ ((Nat.log2 v - 23))) + 1) / 2 ^ 1) xq184.1 1 wc (by omega) (Lg.rd1 (hw.rdOf (i := 0) rfl 0)))) (fun xq186 hq187 => ?_)
       refine GL.val (Ex.assign rfl) (by decide) ?_
       refine GL.nil ?_
       refine GE.thenN ?_
       refine GC.seq ?_
       refine GC.seq ?_
       refine GC.region ?_
       refine GL.val (Ex.move rfl) (by decide) ?_
       refine GL.val (v := (.pointer (some ⟨bq1, 0, none⟩))) (Ex.cast (Ex.fieldAddr rfl Try.underlying67 rfl T.sz3 (by decide)) rfl) (by decide) ?_
       refine GL.val (Ex.load rfl T.ag3 (i := 5) rfl rfl) (by decide) ?_
       refine GL.val (v := (.int .u64 8388608)) (Ex.shl rfl (m := 23) rfl (by decide) (Z := 8388608) (by decide)) (by decide) ?_
       refine GL.val (v := (.bool false)) (Ex.cast (Ex.lss rfl rfl) (congrArg Value.bool (decide_eq_false (by omega)))) (by decide) ?_
       refine GL.nil ?_
       refine GE.thenN ?_
       refine GC.cond rfl (fun hq188 => by cases hq188) (fun _ => ?_)
       refine GC.skip ?_
       refine GE.thenN ?_
       refine GC.seq ?_
       refine GC.region ?_
       refine GL.val (Ex.move rfl) (by decide) ?_
       refine GL.val (v := (.agg #[(.int .i64 23), (.int .i64 8)])) (Ex.loadA rfl T.ag67 T.sz67 (i := 5) rfl (vs := [(.int .i64 23), (.int .i64 8)]) rfl rfl) (by decide) ?_
       refine GL.step (Stp.callR (vs := [(.agg #[(.int .i64 23), (.int .i64 8)])]) rfl rfl T.own83 (by decide) (fun wc hw => j83_2  wc )) (fun xq189 hq190 => ?_)
       refine GL.val (v := (.int .i64 ((((((Nat.log2 v : Nat) : Int) + e - 23) + 1) + 150)))) (Ex.add rfl rfl (Z := (((((Nat.log2 v : Nat) : Int) + e - 23) + 1) + 150)) (w64 (by omega))) (by decide) ?_
       refine GL.val (Ex.assign rfl) (by decide) ?_
       refine GL.nil ?_
       refine GE.thenN ?_
       refine GC.seq ?_
       refine GC.seq ?_
       refine GC.region ?_
       refine GL.val (Ex.move rfl) (by decide) ?_
       refine GL.val (v := (.int .u64 ((((((Nat.log2 v : Nat) : Int) + e - 23) + 1) + 150)))) (Ex.conv rfl Try.underlying3 Try.underlying70 (Z := (((((Nat.log2 v : Nat) : Int) + e - 23) + 1) + 150)) (wu64b (by omega))) (by decide) ?_
       refine GL.val (v := (.agg #[(.int .i64 23), (.int .i64 8)])) (Ex.loadA rfl T.ag67 T.sz67 (i := 5) rfl (vs := [(.int .i64 23), (.int .i64 8)]) rfl rfl) (by decide) ?_
       refine GL.step (Stp.callR (vs := [(.agg #[(.int .i64 23), (.int .i64 8)])]) rfl rfl T.own82 (by decide) (fun wc hw => j82_1  wc )) (fun xq191 hq192 => ?_)
       refine GL.val (v := (.bool false)) (Ex.cast (Ex.geq rfl rfl) (congrArg Value.bool (decide_eq_false (by omega)))) (by decide) ?_
       refine GL.nil ?_
       refine GE.thenN ?_
       refine GC.cond rfl (fun hq193 => by cases hq193) (fun _ => ?_)
       refine GC.skip ?_
       refine GE.thenN ?_
       refine GC.seq ?_
       refine GC.drawP [⟨xq184.1, [(.int .u32 (((((v / 2 ^ ((Nat.log2 v - 23))) + 1) / 2 ^ 1 : Nat) : Int)))], 23, true⟩, ⟨xq177, [(.int .u32 ((((v / 2 ^ ((Nat.log2 v - 23))) + 1 : Nat) : Int))), (.int .u32 0)], 23, true⟩, ⟨xq175, [(.int .u32 1), (.int .u32 0)], 23, true⟩, ⟨xq132.1, [(.int .u32 (((v / 2 ^ ((Nat.log2 v - 23)) : Nat) : Int)))], 23, true⟩, ⟨bq2, [(.int .i64 2), (.bool ng), (.slice (some ⟨b, 0, none⟩) 1 c), (.int .i64 e), (.bool false)], 38, true⟩, ⟨bq1, [(.int .i64 23), (.int .i64 8)], 67, true⟩] T.mixed (by kernel_rfl) (by kernel_rfl) (fuel := 17) rfl rfl ?_
       refine GH.take 0 (v := (.agg #[(.int .i64 23), (.int .i64 8)])) rfl (by kernel_rfl) (by kernel_rfl) (by kernel_rfl) (fun _ _ _ h => h) (Ex.loadA rfl T.ag67 T.sz67 (i := 5) rfl (vs := [(.int .i64 23), (.int .i64 8)]) rfl rfl) (ulC (ulC (ulC (ulC (ulC (ulC ulN)))))) (by decide) ?_
       refine GH.take 1 (v := (.pointer (some ⟨bq2, 1, none⟩))) rfl (by kernel_rfl) (by kernel_rfl) (by kernel_rfl) (fun _ _ _ h => h) (Ex.cast (Ex.fieldAddr rfl Try.underlying38 rfl T.sz4 (by decide)) rfl) (ulC (ulC (ulC (ulC (ulC (ulC ulN)))))) (by decide) ?_
       refine GH.take 2 (v := (.bool ng)) rfl (by kernel_rfl) (by kernel_rfl) (by kernel_rfl) (fun _ _ _ h => h) (Ex.load rfl T.ag4 (i := 4) rfl rfl) (ulC (ulC (ulC (ulC (ulC (ulC ulN)))))) (by decide) ?_
       refine GH.take 4 (v := (.int .i64 ((((((Nat.log2 v : Nat) : Int) + e - 23) + 1) + 150)))) rfl (by kernel_rfl) (by kernel_rfl) (by kernel_rfl) (fun _ _ _ h => h) (Ex.move rfl) (ulC (ulC (ulC (ulC (ulC (ulC ulN)))))) (by decide) ?_
       refine GH.take 5 (v := (.int .u64 ((((((Nat.log2 v : Nat) : Int) + e - 23) + 1) + 150)))) rfl (by kernel_rfl) (by kernel_rfl) (by kernel_rfl) (fun _ _ _ h => h) (Ex.conv rfl Try.underlying3 Try.underlying70 (Z := (((((Nat.log2 v : Nat) : Int) + e - 23) + 1) + 150)) (wu64b (by omega))) (ulC (ulC (ulC (ulC (ulC (ulC ulN)))))) (by decide) ?_
       refine GH.take 6 (v := (.pointer (some ⟨bq1, 0, none⟩))) rfl (by kernel_rfl) (by kernel_rfl) (by kernel_rfl) (fun _ _ _ h => h) (Ex.cast (Ex.fieldAddr rfl Try.underlying67 rfl T.sz3 (by decide)) rfl) (ulC (ulC (ulC (ulC (ulC (ulC ulN)))))) (by decide) ?_
       refine GH.take 7 (v := (.int .i64 23)) rfl (by kernel_rfl) (by kernel_rfl) (by kernel_rfl) (fun _ _ _ h => h) (Ex.load rfl T.ag3 (i := 5) rfl rfl) (ulC (ulC (ulC (ulC (ulC (ulC ulN)))))) (by decide) ?_
       refine GH.take 8 (v := (.int .u64 ((((((((((Nat.log2 v : Nat) : Int) + e - 23) + 1) + 150)).toNat : Nat) : Int) * 8388608)))) rfl (by kernel_rfl) (by kernel_rfl) (by kernel_rfl) (fun _ _ _ h => h) (Ex.shl rfl (m := 23) rfl (by decide) (Z := ((((((((Nat.log2 v : Nat) : Int) + e - 23) + 1) + 150)).toNat : Nat) : Int) * 8388608) (by rw [show ((2 : Int) ^ 23) = 8388608 by decide, wu64b (by omega)]; omega)) (ulC (ulC (ulC (ulC (ulC (ulC ulN)))))) (by decide) ?_
       refine GH.take 10 (v := (.int .u64 (((((v / 2 ^ ((Nat.log2 v - 23))) + 1) / 2 ^ 1 : Nat) : Int)))) rfl (by kernel_rfl) (by kernel_rfl) (by kernel_rfl) (fun _ _ _ h => h) (Ex.move rfl) (ulC (ulC (ulC (ulC (ulC (ulC ulN)))))) (by decide) ?_
       refine GH.take 11 (v := (.pointer (some ⟨bq1, 0, none⟩))) rfl (by kernel_rfl) (by kernel_rfl) (by kernel_rfl) (fun _ _ _ h => h) (Ex.cast (Ex.fieldAddr rfl Try.underlying67 rfl T.sz3 (by decide)) rfl) (ulC (ulC (ulC (ulC (ulC (ulC ulN)))))) (by decide) ?_
       refine GH.take 12 (v := (.int .i64 23)) rfl (by kernel_rfl) (by kernel_rfl) (by kernel_rfl) (fun _ _ _ h => h) (Ex.load rfl T.ag3 (i := 5) rfl rfl) (ulC (ulC (ulC (ulC (ulC (ulC ulN)))))) (by decide) ?_
       refine GH.take 13 (v := (.int .u64 8388608)) rfl (by kernel_rfl) (by kernel_rfl) (by kernel_rfl) (fun _ _ _ h => h) (Ex.shl rfl (m := 23) rfl (by decide) (Z := 8388608) (by decide)) (ulC (ulC (ulC (ulC (ulC (ulC ulN)))))) (by decide) ?_
       refine GH.take 14 (v := (.int .u64 8388607)) rfl (by kernel_rfl) (by kernel_rfl) (by kernel_rfl) (fun _ _ _ h => h) (Ex.sub' rfl rfl (Z := 8388607) (by decide)) (ulC (ulC (ulC (ulC (ulC (ulC ulN)))))) (by decide) ?_
       refine GH.take 15 (v := (.int .u64 ((((((v / 2 ^ ((Nat.log2 v - 23))) + 1) / 2 ^ 1 - 8388608) : Nat) : Int)))) rfl (by kernel_rfl) (by kernel_rfl) (by kernel_rfl) (fun _ _ _ h => h) (Ex.bits rfl rfl (by simp) (Z := (((((v / 2 ^ ((Nat.log2 v - 23))) + 1) / 2 ^ 1 - 8388608) : Nat) : Int)) (andm64 23 (by omega) (by omega) (by omega) (by omega) rfl)) (ulC (ulC (ulC (ulC (ulC (ulC ulN)))))) (by decide) ?_
       refine GH.one 3 rfl (by kernel_rfl) (Stp.callR (vs := [(.agg #[(.int .i64 23), (.int .i64 8)]), (.bool ng)]) rfl rfl T.own87 (by decide) (fun wc hw => sign_p ng wc)) (fun _ => (ulC (ulC (ulC (ulC (ulC (ulC ulN))))))) (fun xq196 hq197 => ?_)
       refine GH.take 9 (v := (.int .u64 ((Lg.sg ng + ((((((((Nat.log2 v : Nat) : Int) + e - 23) + 1) + 150)).toNat * 8388608 : Nat) : Int))))) rfl (by kernel_rfl) (by kernel_rfl) (by kernel_rfl) (fun _ _ _ h => h) (Ex.bits rfl rfl (by simp) (Z := Lg.sg ng + ((((((((Nat.log2 v : Nat) : Int) + e - 23) + 1) + 150)).toNat * 8388608 : Nat) : Int)) (Lg.or_sign (by omega) (by omega))) (ulC (ulC (ulC (ulC (ulC (ulC ulN)))))) (by decide) ?_
       refine GH.take 16 (v := (.int .u64 ((Lg.sg ng + ((((((((Nat.log2 v : Nat) : Int) + e - 23) + 1) + 150)).toNat * 8388608 + (((v / 2 ^ ((Nat.log2 v - 23))) + 1) / 2 ^ 1 - 8388608) : Nat) : Int))))) rfl (by kernel_rfl) (by kernel_rfl) (by kernel_rfl) (fun _ _ _ h => h) (Ex.bits rfl rfl (by simp) (Z := Lg.sg ng + ((((((((Nat.log2 v : Nat) : Int) + e - 23) + 1) + 150)).toNat * 8388608 + (((v / 2 ^ ((Nat.log2 v - 23))) + 1) / 2 ^ 1 - 8388608) : Nat) : Int)) (Lg.or_low (by omega) (by omega))) (ulC (ulC (ulC (ulC (ulC (ulC ulN)))))) (by decide) ?_
       refine GH.done (by kernel_rfl) ?_
       refine GE.thenN ?_
       refine GE.tail rfl (Ex.wp (v := (.int .u64 ((Lg.sg ng + ((((((((Nat.log2 v : Nat) : Int) + e - 23) + 1) + 150)).toNat * 8388608 + (((v / 2 ^ ((Nat.log2 v - 23))) + 1) / 2 ^ 1 - 8388608) : Nat) : Int))))) (Ex.assign rfl) (by decide)) (fun _ _ => ?_)
       refine GE.thenN ?_
       refine GC.ret ?_
       refine GC.ret1 rfl (Rv.tmp rfl) (fun wN HN => ?_)
       exact HN.ret () trivial (by rw [Lg.RD_of (v := v) (K := ((v / 2 ^ (Nat.log2 v - 23)) + 1)) (e := e) hv.1 hv.2 he ((if_pos (by omega)).trans (Lg.kept_up (by omega) (by omega) (by first | exact Or.inl (hb.1 (by assumption)) | exact Or.inr (by omega)))) (by omega)]) (List.nil_sublist _) rfl
      ·replace hq183 := of_decide_eq_false hq183
       have hk24 : (v / 2 ^ (Nat.log2 v - 23)) + 1 < 16777216 := Lg.lt_24 (by omega)
       refine GC.skip ?_
       refine GE.thenN ?_
       refine GC.seq ?_
       refine GC.region ?_
       refine GL.val (Ex.move rfl) (by decide) ?_
       refine GL.step (Stp.callR (vs := [(.slice (some ⟨xq177, 0, none⟩) 1 2)]) rfl rfl T.own89 (by decide) (fun wc hw => low_pos ((v / 2 ^ ((Nat.log2 v - 23))) + 1) xq177 2 wc (by omega) (Lg.rd1 (hw.rdOf (i := 0) rfl 0)))) (fun xq198 hq199 => ?_)
       refine GL.val (Ex.assign rfl) (by decide) ?_
       refine GL.nil ?_
       refine GE.thenN ?_
       refine GC.seq ?_
       refine GC.seq ?_
       refine GC.region ?_
       refine GL.val (Ex.move rfl) (by decide) ?_
       refine GL.val (v := (.pointer (some ⟨bq1, 0, none⟩))) (Ex.cast (Ex.fieldAddr rfl Try.underlying67 rfl T.sz3 (by decide)) rfl) (by decide) ?_
       refine GL.val (Ex.load rfl T.ag3 (i := 4) rfl rfl) (by decide) ?_
       refine GL.val (v := (.int .u64 8388608)) (Ex.shl rfl (m := 23) rfl (by decide) (Z := 8388608) (by decide)) (by decide) ?_
       refine GL.val (v := (.bool false)) (Ex.cast (Ex.lss rfl rfl) (congrArg Value.bool (decide_eq_false (by omega)))) (by decide) ?_
       refine GL.nil ?_
       refine GE.thenN ?_
       refine GC.cond rfl (fun hq200 => by cases hq200) (fun _ => ?_)
       refine GC.skip ?_
       refine GE.thenN ?_
       refine GC.seq ?_
       refine GC.region ?_
       refine GL.val (Ex.move rfl) (by decide) ?_
       refine GL.val (v := (.agg #[(.int .i64 23), (.int .i64 8)])) (Ex.loadA rfl T.ag67 T.sz67 (i := 4) rfl (vs := [(.int .i64 23), (.int .i64 8)]) rfl rfl) (by decide) ?_
       refine GL.step (Stp.callR (vs := [(.agg #[(.int .i64 23), (.int .i64 8)])]) rfl rfl T.own83 (by decide) (fun wc hw => j83_2  wc )) (fun xq201 hq202 => ?_)
       refine GL.val (v := (.int .i64 (((((Nat.log2 v : Nat) : Int) + e - 23) + 150)))) (Ex.add rfl rfl (Z := ((((Nat.log2 v : Nat) : Int) + e - 23) + 150)) (w64 (by omega))) (by decide) ?_
       refine GL.val (Ex.assign rfl) (by decide) ?_
       refine GL.nil ?_
       refine GE.thenN ?_
       refine GC.seq ?_
       refine GC.seq ?_
       refine GC.region ?_
       refine GL.val (Ex.move rfl) (by decide) ?_
       refine GL.val (v := (.int .u64 (((((Nat.log2 v : Nat) : Int) + e - 23) + 150)))) (Ex.conv rfl Try.underlying3 Try.underlying70 (Z := ((((Nat.log2 v : Nat) : Int) + e - 23) + 150)) (wu64b (by omega))) (by decide) ?_
       refine GL.val (v := (.agg #[(.int .i64 23), (.int .i64 8)])) (Ex.loadA rfl T.ag67 T.sz67 (i := 4) rfl (vs := [(.int .i64 23), (.int .i64 8)]) rfl rfl) (by decide) ?_
       refine GL.step (Stp.callR (vs := [(.agg #[(.int .i64 23), (.int .i64 8)])]) rfl rfl T.own82 (by decide) (fun wc hw => j82_1  wc )) (fun xq203 hq204 => ?_)
       refine GL.val (v := (.bool false)) (Ex.cast (Ex.geq rfl rfl) (congrArg Value.bool (decide_eq_false (by omega)))) (by decide) ?_
       refine GL.nil ?_
       refine GE.thenN ?_
       refine GC.cond rfl (fun hq205 => by cases hq205) (fun _ => ?_)
       refine GC.skip ?_
       refine GE.thenN ?_
       refine GC.seq ?_
       refine GC.drawP [⟨xq177, [(.int .u32 ((((v / 2 ^ ((Nat.log2 v - 23))) + 1 : Nat) : Int))), (.int .u32 0)], 23, true⟩, ⟨xq175, [(.int .u32 1), (.int .u32 0)], 23, true⟩, ⟨xq132.1, [(.int .u32 (((v / 2 ^ ((Nat.log2 v - 23)) : Nat) : Int)))], 23, true⟩, ⟨bq2, [(.int .i64 2), (.bool ng), (.slice (some ⟨b, 0, none⟩) 1 c), (.int .i64 e), (.bool false)], 38, true⟩, ⟨bq1, [(.int .i64 23), (.int .i64 8)], 67, true⟩] T.mixed (by kernel_rfl) (by kernel_rfl) (fuel := 17) rfl rfl ?_
       refine GH.take 0 (v := (.agg #[(.int .i64 23), (.int .i64 8)])) rfl (by kernel_rfl) (by kernel_rfl) (by kernel_rfl) (fun _ _ _ h => h) (Ex.loadA rfl T.ag67 T.sz67 (i := 4) rfl (vs := [(.int .i64 23), (.int .i64 8)]) rfl rfl) (ulC (ulC (ulC (ulC (ulC ulN))))) (by decide) ?_
       refine GH.take 1 (v := (.pointer (some ⟨bq2, 1, none⟩))) rfl (by kernel_rfl) (by kernel_rfl) (by kernel_rfl) (fun _ _ _ h => h) (Ex.cast (Ex.fieldAddr rfl Try.underlying38 rfl T.sz4 (by decide)) rfl) (ulC (ulC (ulC (ulC (ulC ulN))))) (by decide) ?_
       refine GH.take 2 (v := (.bool ng)) rfl (by kernel_rfl) (by kernel_rfl) (by kernel_rfl) (fun _ _ _ h => h) (Ex.load rfl T.ag4 (i := 3) rfl rfl) (ulC (ulC (ulC (ulC (ulC ulN))))) (by decide) ?_
       refine GH.take 4 (v := (.int .i64 (((((Nat.log2 v : Nat) : Int) + e - 23) + 150)))) rfl (by kernel_rfl) (by kernel_rfl) (by kernel_rfl) (fun _ _ _ h => h) (Ex.move rfl) (ulC (ulC (ulC (ulC (ulC ulN))))) (by decide) ?_
       refine GH.take 5 (v := (.int .u64 (((((Nat.log2 v : Nat) : Int) + e - 23) + 150)))) rfl (by kernel_rfl) (by kernel_rfl) (by kernel_rfl) (fun _ _ _ h => h) (Ex.conv rfl Try.underlying3 Try.underlying70 (Z := ((((Nat.log2 v : Nat) : Int) + e - 23) + 150)) (wu64b (by omega))) (ulC (ulC (ulC (ulC (ulC ulN))))) (by decide) ?_
       refine GH.take 6 (v := (.pointer (some ⟨bq1, 0, none⟩))) rfl (by kernel_rfl) (by kernel_rfl) (by kernel_rfl) (fun _ _ _ h => h) (Ex.cast (Ex.fieldAddr rfl Try.underlying67 rfl T.sz3 (by decide)) rfl) (ulC (ulC (ulC (ulC (ulC ulN))))) (by decide) ?_
       refine GH.take 7 (v := (.int .i64 23)) rfl (by kernel_rfl) (by kernel_rfl) (by kernel_rfl) (fun _ _ _ h => h) (Ex.load rfl T.ag3 (i := 4) rfl rfl) (ulC (ulC (ulC (ulC (ulC ulN))))) (by decide) ?_
       refine GH.take 8 (v := (.int .u64 (((((((((Nat.log2 v : Nat) : Int) + e - 23) + 150)).toNat : Nat) : Int) * 8388608)))) rfl (by kernel_rfl) (by kernel_rfl) (by kernel_rfl) (fun _ _ _ h => h) (Ex.shl rfl (m := 23) rfl (by decide) (Z := (((((((Nat.log2 v : Nat) : Int) + e - 23) + 150)).toNat : Nat) : Int) * 8388608) (by rw [show ((2 : Int) ^ 23) = 8388608 by decide, wu64b (by omega)]; omega)) (ulC (ulC (ulC (ulC (ulC ulN))))) (by decide) ?_
       refine GH.take 10 (v := (.int .u64 ((((v / 2 ^ ((Nat.log2 v - 23))) + 1 : Nat) : Int)))) rfl (by kernel_rfl) (by kernel_rfl) (by kernel_rfl) (fun _ _ _ h => h) (Ex.move rfl) (ulC (ulC (ulC (ulC (ulC ulN))))) (by decide) ?_
       refine GH.take 11 (v := (.pointer (some ⟨bq1, 0, none⟩))) rfl (by kernel_rfl) (by kernel_rfl) (by kernel_rfl) (fun _ _ _ h => h) (Ex.cast (Ex.fieldAddr rfl Try.underlying67 rfl T.sz3 (by decide)) rfl) (ulC (ulC (ulC (ulC (ulC ulN))))) (by decide) ?_
       refine GH.take 12 (v := (.int .i64 23)) rfl (by kernel_rfl) (by kernel_rfl) (by kernel_rfl) (fun _ _ _ h => h) (Ex.load rfl T.ag3 (i := 4) rfl rfl) (ulC (ulC (ulC (ulC (ulC ulN))))) (by decide) ?_
       refine GH.take 13 (v := (.int .u64 8388608)) rfl (by kernel_rfl) (by kernel_rfl) (by kernel_rfl) (fun _ _ _ h => h) (Ex.shl rfl (m := 23) rfl (by decide) (Z := 8388608) (by decide)) (ulC (ulC (ulC (ulC (ulC ulN))))) (by decide) ?_
       refine GH.take 14 (v := (.int .u64 8388607)) rfl (by kernel_rfl) (by kernel_rfl) (by kernel_rfl) (fun _ _ _ h => h) (Ex.sub' rfl rfl (Z := 8388607) (by decide)) (ulC (ulC (ulC (ulC (ulC ulN))))) (by decide) ?_
       refine GH.take 15 (v := (.int .u64 (((((v / 2 ^ ((Nat.log2 v - 23))) + 1 - 8388608) : Nat) : Int)))) rfl (by kernel_rfl) (by kernel_rfl) (by kernel_rfl) (fun _ _ _ h => h) (Ex.bits rfl rfl (by simp) (Z := ((((v / 2 ^ ((Nat.log2 v - 23))) + 1 - 8388608) : Nat) : Int)) (andm64 23 (by omega) (by omega) (by omega) (by omega) rfl)) (ulC (ulC (ulC (ulC (ulC ulN))))) (by decide) ?_
       refine GH.one 3 rfl (by kernel_rfl) (Stp.callR (vs := [(.agg #[(.int .i64 23), (.int .i64 8)]), (.bool ng)]) rfl rfl T.own87 (by decide) (fun wc hw => sign_p ng wc)) (fun _ => (ulC (ulC (ulC (ulC (ulC ulN)))))) (fun xq208 hq209 => ?_)
       refine GH.take 9 (v := (.int .u64 ((Lg.sg ng + (((((((Nat.log2 v : Nat) : Int) + e - 23) + 150)).toNat * 8388608 : Nat) : Int))))) rfl (by kernel_rfl) (by kernel_rfl) (by kernel_rfl) (fun _ _ _ h => h) (Ex.bits rfl rfl (by simp) (Z := Lg.sg ng + (((((((Nat.log2 v : Nat) : Int) + e - 23) + 150)).toNat * 8388608 : Nat) : Int)) (Lg.or_sign (by omega) (by omega))) (ulC (ulC (ulC (ulC (ulC ulN))))) (by decide) ?_
       refine GH.take 16 (v := (.int .u64 ((Lg.sg ng + (((((((Nat.log2 v : Nat) : Int) + e - 23) + 150)).toNat * 8388608 + ((v / 2 ^ ((Nat.log2 v - 23))) + 1 - 8388608) : Nat) : Int))))) rfl (by kernel_rfl) (by kernel_rfl) (by kernel_rfl) (fun _ _ _ h => h) (Ex.bits rfl rfl (by simp) (Z := Lg.sg ng + (((((((Nat.log2 v : Nat) : Int) + e - 23) + 150)).toNat * 8388608 + ((v / 2 ^ ((Nat.log2 v - 23))) + 1 - 8388608) : Nat) : Int)) (Lg.or_low (by omega) (by omega))) (ulC (ulC (ulC (ulC (ulC ulN))))) (by decide) ?_
       refine GH.done (by kernel_rfl) ?_
       refine GE.thenN ?_
       refine GE.tail rfl (Ex.wp (v := (.int .u64 ((Lg.sg ng + (((((((Nat.log2 v : Nat) : Int) + e - 23) + 150)).toNat * 8388608 + ((v / 2 ^ ((Nat.log2 v - 23))) + 1 - 8388608) : Nat) : Int))))) (Ex.assign rfl) (by decide)) (fun _ _ => ?_)
       refine GE.thenN ?_
       refine GC.ret ?_
       refine GC.ret1 rfl (Rv.tmp rfl) (fun wN HN => ?_)
       exact HN.ret () trivial (by rw [Lg.RD_of (v := v) (K := ((v / 2 ^ (Nat.log2 v - 23)) + 1)) (e := e) hv.1 hv.2 he ((if_pos (by omega)).trans (Lg.kept_up (by omega) (by omega) (by first | exact Or.inl (hb.1 (by assumption)) | exact Or.inr (by omega)))) (by omega)]) (List.nil_sublist _) rfl
     ·replace hq174 := of_decide_eq_false hq174
      refine GC.skip ?_
      refine GE.thenN ?_
      refine GC.seq ?_
      refine GC.seq ?_
      refine GC.draw [⟨xq132.1, [(.int .u32 (((v / 2 ^ ((Nat.log2 v - 23)) : Nat) : Int)))], 23, true⟩, ⟨bq2, [(.int .i64 2), (.bool ng), (.slice (some ⟨b, 0, none⟩) 1 c), (.int .i64 e), (.bool false)], 38, true⟩, ⟨bq1, [(.int .i64 23), (.int .i64 8)], 67, true⟩] T.mixed (fuel := 6) rfl rfl ?_
      refine GH.take 0 (v := (.slice (some ⟨xq132.1, 0, none⟩) 1 1)) rfl (by kernel_rfl) (by kernel_rfl) (by kernel_rfl) (fun _ _ _ h => h) (Ex.move rfl) (ulC (ulC (ulC ulN))) (by decide) ?_
      refine GH.take 2 (v := (.pointer (some ⟨bq1, 0, none⟩))) rfl (by kernel_rfl) (by kernel_rfl) (by kernel_rfl) (fun _ _ _ h => h) (Ex.cast (Ex.fieldAddr rfl Try.underlying67 rfl T.sz3 (by decide)) rfl) (ulC (ulC (ulC ulN))) (by decide) ?_
      refine GH.take 3 (v := (.int .i64 23)) rfl (by kernel_rfl) (by kernel_rfl) (by kernel_rfl) (fun _ _ _ h => h) (Ex.load rfl T.ag3 (i := 2) rfl rfl) (ulC (ulC (ulC ulN))) (by decide) ?_
      refine GH.take 4 (v := (.int .i64 24)) rfl (by kernel_rfl) (by kernel_rfl) (by kernel_rfl) (fun _ _ _ h => h) (Ex.add rfl rfl (Z := 24) (by decide)) (ulC (ulC (ulC ulN))) (by decide) ?_
      refine GH.one 1 rfl (by kernel_rfl) (Stp.callR (vs := [(.slice (some ⟨xq132.1, 0, none⟩) 1 1)]) rfl rfl T.own88 (by decide) (fun wc hw => bits_pos (v / 2 ^ ((Nat.log2 v - 23))) xq132.1 1 wc (by omega) (Lg.rd1 (hw.rdOf (i := 0) rfl 0)))) (fun _ => (ulC (ulC (ulC ulN)))) (fun xq212 hq213 => ?_)
      refine GH.take 5 (v := (.bool false)) rfl (by kernel_rfl) (by kernel_rfl) (by kernel_rfl) (fun _ _ _ h => h) (Ex.cast (Ex.gtr rfl rfl) (congrArg Value.bool (decide_eq_false (by omega)))) (ulC (ulC (ulC ulN))) (by decide) ?_
      refine GH.done (by kernel_rfl) ?_
      refine GE.thenN ?_
      refine GC.cond rfl (fun hq214 => by cases hq214) (fun _ => ?_)
      refine GC.skip ?_
      refine GE.thenN ?_
      refine GC.seq ?_
      refine GC.region ?_
      refine GL.val (Ex.move rfl) (by decide) ?_
      refine GL.step (Stp.callR (vs := [(.slice (some ⟨xq132.1, 0, none⟩) 1 1)]) rfl rfl T.own89 (by decide) (fun wc hw => low_pos (v / 2 ^ ((Nat.log2 v - 23))) xq132.1 1 wc (by omega) (Lg.rd1 (hw.rdOf (i := 0) rfl 0)))) (fun xq215 hq216 => ?_)
      refine GL.val (Ex.assign rfl) (by decide) ?_
      refine GL.nil ?_
      refine GE.thenN ?_
      refine GC.seq ?_
      refine GC.seq ?_
      refine GC.region ?_
      refine GL.val (Ex.move rfl) (by decide) ?_
      refine GL.val (v := (.pointer (some ⟨bq1, 0, none⟩))) (Ex.cast (Ex.fieldAddr rfl Try.underlying67 rfl T.sz3 (by decide)) rfl) (by decide) ?_
      refine GL.val (Ex.load rfl T.ag3 (i := 2) rfl rfl) (by decide) ?_
      refine GL.val (v := (.int .u64 8388608)) (Ex.shl rfl (m := 23) rfl (by decide) (Z := 8388608) (by decide)) (by decide) ?_
      refine GL.val (v := (.bool false)) (Ex.cast (Ex.lss rfl rfl) (congrArg Value.bool (decide_eq_false (by omega)))) (by decide) ?_
      refine GL.nil ?_
      refine GE.thenN ?_
      refine GC.cond rfl (fun hq217 => by cases hq217) (fun _ => ?_)
      refine GC.skip ?_
      refine GE.thenN ?_
      refine GC.seq ?_
      refine GC.region ?_
      refine GL.val (Ex.move rfl) (by decide) ?_
      refine GL.val (v := (.agg #[(.int .i64 23), (.int .i64 8)])) (Ex.loadA rfl T.ag67 T.sz67 (i := 2) rfl (vs := [(.int .i64 23), (.int .i64 8)]) rfl rfl) (by decide) ?_
      refine GL.step (Stp.callR (vs := [(.agg #[(.int .i64 23), (.int .i64 8)])]) rfl rfl T.own83 (by decide) (fun wc hw => j83_2  wc )) (fun xq218 hq219 => ?_)
      refine GL.val (v := (.int .i64 (((((Nat.log2 v : Nat) : Int) + e - 23) + 150)))) (Ex.add rfl rfl (Z := ((((Nat.log2 v : Nat) : Int) + e - 23) + 150)) (w64 (by omega))) (by decide) ?_
      refine GL.val (Ex.assign rfl) (by decide) ?_
      refine GL.nil ?_
      refine GE.thenN ?_
      refine GC.seq ?_
      refine GC.seq ?_
      refine GC.region ?_
      refine GL.val (Ex.move rfl) (by decide) ?_
      refine GL.val (v := (.int .u64 (((((Nat.log2 v : Nat) : Int) + e - 23) + 150)))) (Ex.conv rfl Try.underlying3 Try.underlying70 (Z := ((((Nat.log2 v : Nat) : Int) + e - 23) + 150)) (wu64b (by omega))) (by decide) ?_
      refine GL.val (v := (.agg #[(.int .i64 23), (.int .i64 8)])) (Ex.loadA rfl T.ag67 T.sz67 (i := 2) rfl (vs := [(.int .i64 23), (.int .i64 8)]) rfl rfl) (by decide) ?_
      refine GL.step (Stp.callR (vs := [(.agg #[(.int .i64 23), (.int .i64 8)])]) rfl rfl T.own82 (by decide) (fun wc hw => j82_1  wc )) (fun xq220 hq221 => ?_)
      refine GL.val (v := (.bool false)) (Ex.cast (Ex.geq rfl rfl) (congrArg Value.bool (decide_eq_false (by omega)))) (by decide) ?_
      refine GL.nil ?_
      refine GE.thenN ?_
      refine GC.cond rfl (fun hq222 => by cases hq222) (fun _ => ?_)
      refine GC.skip ?_
      refine GE.thenN ?_
      refine GC.seq ?_
      refine GC.drawP [⟨xq132.1, [(.int .u32 (((v / 2 ^ ((Nat.log2 v - 23)) : Nat) : Int)))], 23, true⟩, ⟨bq2, [(.int .i64 2), (.bool ng), (.slice (some ⟨b, 0, none⟩) 1 c), (.int .i64 e), (.bool false)], 38, true⟩, ⟨bq1, [(.int .i64 23), (.int .i64 8)], 67, true⟩] T.mixed (by kernel_rfl) (by kernel_rfl) (fuel := 17) rfl rfl ?_
      refine GH.take 0 (v := (.agg #[(.int .i64 23), (.int .i64 8)])) rfl (by kernel_rfl) (by kernel_rfl) (by kernel_rfl) (fun _ _ _ h => h) (Ex.loadA rfl T.ag67 T.sz67 (i := 2) rfl (vs := [(.int .i64 23), (.int .i64 8)]) rfl rfl) (ulC (ulC (ulC ulN))) (by decide) ?_
      refine GH.take 1 (v := (.pointer (some ⟨bq2, 1, none⟩))) rfl (by kernel_rfl) (by kernel_rfl) (by kernel_rfl) (fun _ _ _ h => h) (Ex.cast (Ex.fieldAddr rfl Try.underlying38 rfl T.sz4 (by decide)) rfl) (ulC (ulC (ulC ulN))) (by decide) ?_
      refine GH.take 2 (v := (.bool ng)) rfl (by kernel_rfl) (by kernel_rfl) (by kernel_rfl) (fun _ _ _ h => h) (Ex.load rfl T.ag4 (i := 1) rfl rfl) (ulC (ulC (ulC ulN))) (by decide) ?_
      refine GH.take 4 (v := (.int .i64 (((((Nat.log2 v : Nat) : Int) + e - 23) + 150)))) rfl (by kernel_rfl) (by kernel_rfl) (by kernel_rfl) (fun _ _ _ h => h) (Ex.move rfl) (ulC (ulC (ulC ulN))) (by decide) ?_
      refine GH.take 5 (v := (.int .u64 (((((Nat.log2 v : Nat) : Int) + e - 23) + 150)))) rfl (by kernel_rfl) (by kernel_rfl) (by kernel_rfl) (fun _ _ _ h => h) (Ex.conv rfl Try.underlying3 Try.underlying70 (Z := ((((Nat.log2 v : Nat) : Int) + e - 23) + 150)) (wu64b (by omega))) (ulC (ulC (ulC ulN))) (by decide) ?_
      refine GH.take 6 (v := (.pointer (some ⟨bq1, 0, none⟩))) rfl (by kernel_rfl) (by kernel_rfl) (by kernel_rfl) (fun _ _ _ h => h) (Ex.cast (Ex.fieldAddr rfl Try.underlying67 rfl T.sz3 (by decide)) rfl) (ulC (ulC (ulC ulN))) (by decide) ?_
      refine GH.take 7 (v := (.int .i64 23)) rfl (by kernel_rfl) (by kernel_rfl) (by kernel_rfl) (fun _ _ _ h => h) (Ex.load rfl T.ag3 (i := 2) rfl rfl) (ulC (ulC (ulC ulN))) (by decide) ?_
      refine GH.take 8 (v := (.int .u64 (((((((((Nat.log2 v : Nat) : Int) + e - 23) + 150)).toNat : Nat) : Int) * 8388608)))) rfl (by kernel_rfl) (by kernel_rfl) (by kernel_rfl) (fun _ _ _ h => h) (Ex.shl rfl (m := 23) rfl (by decide) (Z := (((((((Nat.log2 v : Nat) : Int) + e - 23) + 150)).toNat : Nat) : Int) * 8388608) (by rw [show ((2 : Int) ^ 23) = 8388608 by decide, wu64b (by omega)]; omega)) (ulC (ulC (ulC ulN))) (by decide) ?_
      refine GH.take 10 (v := (.int .u64 (((v / 2 ^ ((Nat.log2 v - 23)) : Nat) : Int)))) rfl (by kernel_rfl) (by kernel_rfl) (by kernel_rfl) (fun _ _ _ h => h) (Ex.move rfl) (ulC (ulC (ulC ulN))) (by decide) ?_
      refine GH.take 11 (v := (.pointer (some ⟨bq1, 0, none⟩))) rfl (by kernel_rfl) (by kernel_rfl) (by kernel_rfl) (fun _ _ _ h => h) (Ex.cast (Ex.fieldAddr rfl Try.underlying67 rfl T.sz3 (by decide)) rfl) (ulC (ulC (ulC ulN))) (by decide) ?_
      refine GH.take 12 (v := (.int .i64 23)) rfl (by kernel_rfl) (by kernel_rfl) (by kernel_rfl) (fun _ _ _ h => h) (Ex.load rfl T.ag3 (i := 2) rfl rfl) (ulC (ulC (ulC ulN))) (by decide) ?_
      refine GH.take 13 (v := (.int .u64 8388608)) rfl (by kernel_rfl) (by kernel_rfl) (by kernel_rfl) (fun _ _ _ h => h) (Ex.shl rfl (m := 23) rfl (by decide) (Z := 8388608) (by decide)) (ulC (ulC (ulC ulN))) (by decide) ?_
      refine GH.take 14 (v := (.int .u64 8388607)) rfl (by kernel_rfl) (by kernel_rfl) (by kernel_rfl) (fun _ _ _ h => h) (Ex.sub' rfl rfl (Z := 8388607) (by decide)) (ulC (ulC (ulC ulN))) (by decide) ?_
      refine GH.take 15 (v := (.int .u64 ((((v / 2 ^ ((Nat.log2 v - 23)) - 8388608) : Nat) : Int)))) rfl (by kernel_rfl) (by kernel_rfl) (by kernel_rfl) (fun _ _ _ h => h) (Ex.bits rfl rfl (by simp) (Z := (((v / 2 ^ ((Nat.log2 v - 23)) - 8388608) : Nat) : Int)) (andm64 23 (by omega) (by omega) (by omega) (by omega) rfl)) (ulC (ulC (ulC ulN))) (by decide) ?_
      refine GH.one 3 rfl (by kernel_rfl) (Stp.callR (vs := [(.agg #[(.int .i64 23), (.int .i64 8)]), (.bool ng)]) rfl rfl T.own87 (by decide) (fun wc hw => sign_p ng wc)) (fun _ => (ulC (ulC (ulC ulN)))) (fun xq225 hq226 => ?_)
      refine GH.take 9 (v := (.int .u64 ((Lg.sg ng + (((((((Nat.log2 v : Nat) : Int) + e - 23) + 150)).toNat * 8388608 : Nat) : Int))))) rfl (by kernel_rfl) (by kernel_rfl) (by kernel_rfl) (fun _ _ _ h => h) (Ex.bits rfl rfl (by simp) (Z := Lg.sg ng + (((((((Nat.log2 v : Nat) : Int) + e - 23) + 150)).toNat * 8388608 : Nat) : Int)) (Lg.or_sign (by omega) (by omega))) (ulC (ulC (ulC ulN))) (by decide) ?_
      refine GH.take 16 (v := (.int .u64 ((Lg.sg ng + (((((((Nat.log2 v : Nat) : Int) + e - 23) + 150)).toNat * 8388608 + (v / 2 ^ ((Nat.log2 v - 23)) - 8388608) : Nat) : Int))))) rfl (by kernel_rfl) (by kernel_rfl) (by kernel_rfl) (fun _ _ _ h => h) (Ex.bits rfl rfl (by simp) (Z := Lg.sg ng + (((((((Nat.log2 v : Nat) : Int) + e - 23) + 150)).toNat * 8388608 + (v / 2 ^ ((Nat.log2 v - 23)) - 8388608) : Nat) : Int)) (Lg.or_low (by omega) (by omega))) (ulC (ulC (ulC ulN))) (by decide) ?_
      refine GH.done (by kernel_rfl) ?_
      refine GE.thenN ?_
      refine GE.tail rfl (Ex.wp (v := (.int .u64 ((Lg.sg ng + (((((((Nat.log2 v : Nat) : Int) + e - 23) + 150)).toNat * 8388608 + (v / 2 ^ ((Nat.log2 v - 23)) - 8388608) : Nat) : Int))))) (Ex.assign rfl) (by decide)) (fun _ _ => ?_)
      refine GE.thenN ?_
      refine GC.ret ?_
      refine GC.ret1 rfl (Rv.tmp rfl) (fun wN HN => ?_)
      exact HN.ret () trivial (by rw [Lg.RD_of (v := v) (K := (v / 2 ^ (Nat.log2 v - 23))) (e := e) hv.1 hv.2 he ((if_pos (by omega)).trans (Lg.kept_no (by omega) (by first | exact fun q => absurd q.1 (by omega) | exact fun q => by rcases q.2 with z | z; exact absurd (hb.2 z) (by assumption); omega))) (by omega)]) (List.nil_sublist _) rfl
   ·refine GL.val (v := (.bool false)) (Ex.cast (Ex.move rfl) (congrArg Value.bool (decide_eq_false hq134))) (by decide) ?_
    refine GL.val (Ex.move rfl) (by decide) ?_
    refine GL.skipG (tj := 90) rfl rfl rfl (by decide) ?_
    refine GL.skipG (tj := 90) rfl rfl rfl (by decide) ?_
    refine GL.skipU (tj := 92) rfl rfl (by decide) ?_
    refine GL.skipU (tj := 92) rfl rfl (by decide) ?_
    refine GL.skipU (tj := 92) rfl rfl (by decide) ?_
    refine GL.skipG (tj := 90) rfl rfl rfl (by decide) ?_
    refine GL.val (v := (.bool false)) (Ex.pickF rfl rfl) (by decide) ?_
    refine GL.val (Ex.assign rfl) (by decide) ?_
    refine GL.nil ?_
    refine GE.thenN ?_
    refine GC.seq ?_
    refine GC.seq ?_
    refine GC.region ?_
    refine GL.val (Ex.move rfl) (by decide) ?_
    refine GL.nil ?_
    refine GE.thenN ?_
    refine GC.cond rfl (fun hq227 => by cases hq227) (fun _ => ?_)
    refine GC.skip ?_
    refine GE.thenN ?_
    refine GC.seq ?_
    refine GC.seq ?_
    refine GC.draw [⟨xq132.1, [(.int .u32 (((v / 2 ^ ((Nat.log2 v - 23)) : Nat) : Int)))], 23, true⟩, ⟨bq2, [(.int .i64 2), (.bool ng), (.slice (some ⟨b, 0, none⟩) 1 c), (.int .i64 e), (.bool false)], 38, true⟩, ⟨bq1, [(.int .i64 23), (.int .i64 8)], 67, true⟩] T.mixed (fuel := 6) rfl rfl ?_
    refine GH.take 0 (v := (.slice (some ⟨xq132.1, 0, none⟩) 1 1)) rfl (by kernel_rfl) (by kernel_rfl) (by kernel_rfl) (fun _ _ _ h => h) (Ex.move rfl) (ulC (ulC (ulC ulN))) (by decide) ?_
    refine GH.take 2 (v := (.pointer (some ⟨bq1, 0, none⟩))) rfl (by kernel_rfl) (by kernel_rfl) (by kernel_rfl) (fun _ _ _ h => h) (Ex.cast (Ex.fieldAddr rfl Try.underlying67 rfl T.sz3 (by decide)) rfl) (ulC (ulC (ulC ulN))) (by decide) ?_
    refine GH.take 3 (v := (.int .i64 23)) rfl (by kernel_rfl) (by kernel_rfl) (by kernel_rfl) (fun _ _ _ h => h) (Ex.load rfl T.ag3 (i := 2) rfl rfl) (ulC (ulC (ulC ulN))) (by decide) ?_
    refine GH.take 4 (v := (.int .i64 24)) rfl (by kernel_rfl) (by kernel_rfl) (by kernel_rfl) (fun _ _ _ h => h) (Ex.add rfl rfl (Z := 24) (by decide)) (ulC (ulC (ulC ulN))) (by decide) ?_
    refine GH.one 1 rfl (by kernel_rfl) (Stp.callR (vs := [(.slice (some ⟨xq132.1, 0, none⟩) 1 1)]) rfl rfl T.own88 (by decide) (fun wc hw => bits_pos (v / 2 ^ ((Nat.log2 v - 23))) xq132.1 1 wc (by omega) (Lg.rd1 (hw.rdOf (i := 0) rfl 0)))) (fun _ => (ulC (ulC (ulC ulN)))) (fun xq230 hq231 => ?_)
    refine GH.take 5 (v := (.bool false)) rfl (by kernel_rfl) (by kernel_rfl) (by kernel_rfl) (fun _ _ _ h => h) (Ex.cast (Ex.gtr rfl rfl) (congrArg Value.bool (decide_eq_false (by omega)))) (ulC (ulC (ulC ulN))) (by decide) ?_
    refine GH.done (by kernel_rfl) ?_
    refine GE.thenN ?_
    refine GC.cond rfl (fun hq232 => by cases hq232) (fun _ => ?_)
    refine GC.skip ?_
    refine GE.thenN ?_
    refine GC.seq ?_
    refine GC.region ?_
    refine GL.val (Ex.move rfl) (by decide) ?_
    refine GL.step (Stp.callR (vs := [(.slice (some ⟨xq132.1, 0, none⟩) 1 1)]) rfl rfl T.own89 (by decide) (fun wc hw => low_pos (v / 2 ^ ((Nat.log2 v - 23))) xq132.1 1 wc (by omega) (Lg.rd1 (hw.rdOf (i := 0) rfl 0)))) (fun xq233 hq234 => ?_)
    refine GL.val (Ex.assign rfl) (by decide) ?_
    refine GL.nil ?_
    refine GE.thenN ?_
    refine GC.seq ?_
    refine GC.seq ?_
    refine GC.region ?_
    refine GL.val (Ex.move rfl) (by decide) ?_
    refine GL.val (v := (.pointer (some ⟨bq1, 0, none⟩))) (Ex.cast (Ex.fieldAddr rfl Try.underlying67 rfl T.sz3 (by decide)) rfl) (by decide) ?_
    refine GL.val (Ex.load rfl T.ag3 (i := 2) rfl rfl) (by decide) ?_
    refine GL.val (v := (.int .u64 8388608)) (Ex.shl rfl (m := 23) rfl (by decide) (Z := 8388608) (by decide)) (by decide) ?_
    refine GL.val (v := (.bool false)) (Ex.cast (Ex.lss rfl rfl) (congrArg Value.bool (decide_eq_false (by omega)))) (by decide) ?_
    refine GL.nil ?_
    refine GE.thenN ?_
    refine GC.cond rfl (fun hq235 => by cases hq235) (fun _ => ?_)
    refine GC.skip ?_
    refine GE.thenN ?_
    refine GC.seq ?_
    refine GC.region ?_
    refine GL.val (Ex.move rfl) (by decide) ?_
    refine GL.val (v := (.agg #[(.int .i64 23), (.int .i64 8)])) (Ex.loadA rfl T.ag67 T.sz67 (i := 2) rfl (vs := [(.int .i64 23), (.int .i64 8)]) rfl rfl) (by decide) ?_
    refine GL.step (Stp.callR (vs := [(.agg #[(.int .i64 23), (.int .i64 8)])]) rfl rfl T.own83 (by decide) (fun wc hw => j83_2  wc )) (fun xq236 hq237 => ?_)
    refine GL.val (v := (.int .i64 (((((Nat.log2 v : Nat) : Int) + e - 23) + 150)))) (Ex.add rfl rfl (Z := ((((Nat.log2 v : Nat) : Int) + e - 23) + 150)) (w64 (by omega))) (by decide) ?_
    refine GL.val (Ex.assign rfl) (by decide) ?_
    refine GL.nil ?_
    refine GE.thenN ?_
    refine GC.seq ?_
    refine GC.seq ?_
    refine GC.region ?_
    refine GL.val (Ex.move rfl) (by decide) ?_
    refine GL.val (v := (.int .u64 (((((Nat.log2 v : Nat) : Int) + e - 23) + 150)))) (Ex.conv rfl Try.underlying3 Try.underlying70 (Z := ((((Nat.log2 v : Nat) : Int) + e - 23) + 150)) (wu64b (by omega))) (by decide) ?_
    refine GL.val (v := (.agg #[(.int .i64 23), (.int .i64 8)])) (Ex.loadA rfl T.ag67 T.sz67 (i := 2) rfl (vs := [(.int .i64 23), (.int .i64 8)]) rfl rfl) (by decide) ?_
    refine GL.step (Stp.callR (vs := [(.agg #[(.int .i64 23), (.int .i64 8)])]) rfl rfl T.own82 (by decide) (fun wc hw => j82_1  wc )) (fun xq238 hq239 => ?_)
    refine GL.val (v := (.bool false)) (Ex.cast (Ex.geq rfl rfl) (congrArg Value.bool (decide_eq_false (by omega)))) (by decide) ?_
    refine GL.nil ?_
    refine GE.thenN ?_
    refine GC.cond rfl (fun hq240 => by cases hq240) (fun _ => ?_)
    refine GC.skip ?_
    refine GE.thenN ?_
    refine GC.seq ?_
    refine GC.drawP [⟨xq132.1, [(.int .u32 (((v / 2 ^ ((Nat.log2 v - 23)) : Nat) : Int)))], 23, true⟩, ⟨bq2, [(.int .i64 2), (.bool ng), (.slice (some ⟨b, 0, none⟩) 1 c), (.int .i64 e), (.bool false)], 38, true⟩, ⟨bq1, [(.int .i64 23), (.int .i64 8)], 67, true⟩] T.mixed (by kernel_rfl) (by kernel_rfl) (fuel := 17) rfl rfl ?_
    refine GH.take 0 (v := (.agg #[(.int .i64 23), (.int .i64 8)])) rfl (by kernel_rfl) (by kernel_rfl) (by kernel_rfl) (fun _ _ _ h => h) (Ex.loadA rfl T.ag67 T.sz67 (i := 2) rfl (vs := [(.int .i64 23), (.int .i64 8)]) rfl rfl) (ulC (ulC (ulC ulN))) (by decide) ?_
    refine GH.take 1 (v := (.pointer (some ⟨bq2, 1, none⟩))) rfl (by kernel_rfl) (by kernel_rfl) (by kernel_rfl) (fun _ _ _ h => h) (Ex.cast (Ex.fieldAddr rfl Try.underlying38 rfl T.sz4 (by decide)) rfl) (ulC (ulC (ulC ulN))) (by decide) ?_
    refine GH.take 2 (v := (.bool ng)) rfl (by kernel_rfl) (by kernel_rfl) (by kernel_rfl) (fun _ _ _ h => h) (Ex.load rfl T.ag4 (i := 1) rfl rfl) (ulC (ulC (ulC ulN))) (by decide) ?_
    refine GH.take 4 (v := (.int .i64 (((((Nat.log2 v : Nat) : Int) + e - 23) + 150)))) rfl (by kernel_rfl) (by kernel_rfl) (by kernel_rfl) (fun _ _ _ h => h) (Ex.move rfl) (ulC (ulC (ulC ulN))) (by decide) ?_
    refine GH.take 5 (v := (.int .u64 (((((Nat.log2 v : Nat) : Int) + e - 23) + 150)))) rfl (by kernel_rfl) (by kernel_rfl) (by kernel_rfl) (fun _ _ _ h => h) (Ex.conv rfl Try.underlying3 Try.underlying70 (Z := ((((Nat.log2 v : Nat) : Int) + e - 23) + 150)) (wu64b (by omega))) (ulC (ulC (ulC ulN))) (by decide) ?_
    refine GH.take 6 (v := (.pointer (some ⟨bq1, 0, none⟩))) rfl (by kernel_rfl) (by kernel_rfl) (by kernel_rfl) (fun _ _ _ h => h) (Ex.cast (Ex.fieldAddr rfl Try.underlying67 rfl T.sz3 (by decide)) rfl) (ulC (ulC (ulC ulN))) (by decide) ?_
    refine GH.take 7 (v := (.int .i64 23)) rfl (by kernel_rfl) (by kernel_rfl) (by kernel_rfl) (fun _ _ _ h => h) (Ex.load rfl T.ag3 (i := 2) rfl rfl) (ulC (ulC (ulC ulN))) (by decide) ?_
    refine GH.take 8 (v := (.int .u64 (((((((((Nat.log2 v : Nat) : Int) + e - 23) + 150)).toNat : Nat) : Int) * 8388608)))) rfl (by kernel_rfl) (by kernel_rfl) (by kernel_rfl) (fun _ _ _ h => h) (Ex.shl rfl (m := 23) rfl (by decide) (Z := (((((((Nat.log2 v : Nat) : Int) + e - 23) + 150)).toNat : Nat) : Int) * 8388608) (by rw [show ((2 : Int) ^ 23) = 8388608 by decide, wu64b (by omega)]; omega)) (ulC (ulC (ulC ulN))) (by decide) ?_
    refine GH.take 10 (v := (.int .u64 (((v / 2 ^ ((Nat.log2 v - 23)) : Nat) : Int)))) rfl (by kernel_rfl) (by kernel_rfl) (by kernel_rfl) (fun _ _ _ h => h) (Ex.move rfl) (ulC (ulC (ulC ulN))) (by decide) ?_
    refine GH.take 11 (v := (.pointer (some ⟨bq1, 0, none⟩))) rfl (by kernel_rfl) (by kernel_rfl) (by kernel_rfl) (fun _ _ _ h => h) (Ex.cast (Ex.fieldAddr rfl Try.underlying67 rfl T.sz3 (by decide)) rfl) (ulC (ulC (ulC ulN))) (by decide) ?_
    refine GH.take 12 (v := (.int .i64 23)) rfl (by kernel_rfl) (by kernel_rfl) (by kernel_rfl) (fun _ _ _ h => h) (Ex.load rfl T.ag3 (i := 2) rfl rfl) (ulC (ulC (ulC ulN))) (by decide) ?_
    refine GH.take 13 (v := (.int .u64 8388608)) rfl (by kernel_rfl) (by kernel_rfl) (by kernel_rfl) (fun _ _ _ h => h) (Ex.shl rfl (m := 23) rfl (by decide) (Z := 8388608) (by decide)) (ulC (ulC (ulC ulN))) (by decide) ?_
    refine GH.take 14 (v := (.int .u64 8388607)) rfl (by kernel_rfl) (by kernel_rfl) (by kernel_rfl) (fun _ _ _ h => h) (Ex.sub' rfl rfl (Z := 8388607) (by decide)) (ulC (ulC (ulC ulN))) (by decide) ?_
    refine GH.take 15 (v := (.int .u64 ((((v / 2 ^ ((Nat.log2 v - 23)) - 8388608) : Nat) : Int)))) rfl (by kernel_rfl) (by kernel_rfl) (by kernel_rfl) (fun _ _ _ h => h) (Ex.bits rfl rfl (by simp) (Z := (((v / 2 ^ ((Nat.log2 v - 23)) - 8388608) : Nat) : Int)) (andm64 23 (by omega) (by omega) (by omega) (by omega) rfl)) (ulC (ulC (ulC ulN))) (by decide) ?_
    refine GH.one 3 rfl (by kernel_rfl) (Stp.callR (vs := [(.agg #[(.int .i64 23), (.int .i64 8)]), (.bool ng)]) rfl rfl T.own87 (by decide) (fun wc hw => sign_p ng wc)) (fun _ => (ulC (ulC (ulC ulN)))) (fun xq243 hq244 => ?_)
    refine GH.take 9 (v := (.int .u64 ((Lg.sg ng + (((((((Nat.log2 v : Nat) : Int) + e - 23) + 150)).toNat * 8388608 : Nat) : Int))))) rfl (by kernel_rfl) (by kernel_rfl) (by kernel_rfl) (fun _ _ _ h => h) (Ex.bits rfl rfl (by simp) (Z := Lg.sg ng + (((((((Nat.log2 v : Nat) : Int) + e - 23) + 150)).toNat * 8388608 : Nat) : Int)) (Lg.or_sign (by omega) (by omega))) (ulC (ulC (ulC ulN))) (by decide) ?_
    refine GH.take 16 (v := (.int .u64 ((Lg.sg ng + (((((((Nat.log2 v : Nat) : Int) + e - 23) + 150)).toNat * 8388608 + (v / 2 ^ ((Nat.log2 v - 23)) - 8388608) : Nat) : Int))))) rfl (by kernel_rfl) (by kernel_rfl) (by kernel_rfl) (fun _ _ _ h => h) (Ex.bits rfl rfl (by simp) (Z := Lg.sg ng + (((((((Nat.log2 v : Nat) : Int) + e - 23) + 150)).toNat * 8388608 + (v / 2 ^ ((Nat.log2 v - 23)) - 8388608) : Nat) : Int)) (Lg.or_low (by omega) (by omega))) (ulC (ulC (ulC ulN))) (by decide) ?_
    refine GH.done (by kernel_rfl) ?_
    refine GE.thenN ?_
    refine GE.tail rfl (Ex.wp (v := (.int .u64 ((Lg.sg ng + (((((((Nat.log2 v : Nat) : Int) + e - 23) + 150)).toNat * 8388608 + (v / 2 ^ ((Nat.log2 v - 23)) - 8388608) : Nat) : Int))))) (Ex.assign rfl) (by decide)) (fun _ _ => ?_)
    refine GE.thenN ?_
    refine GC.ret ?_
    refine GC.ret1 rfl (Rv.tmp rfl) (fun wN HN => ?_)
    exact HN.ret () trivial (by rw [Lg.RD_of (v := v) (K := (v / 2 ^ (Nat.log2 v - 23))) (e := e) hv.1 hv.2 he ((if_pos (by omega)).trans (Lg.kept_no (by omega) (by first | exact fun q => absurd q.1 (by omega) | exact fun q => by rcases q.2 with z | z; exact absurd (hb.2 z) (by assumption); omega))) (by omega)]) (List.nil_sublist _) rfl
 ·replace hq11 := of_decide_eq_false hq11
  have huf := Lg.up_facts (v := v) hv.1 (by omega)
  have hul := Lg.log_23 huf.1 huf.2
  refine GC.region ?_
  refine GL.val (Ex.move rfl) (by decide) ?_
  refine GL.val (Ex.move rfl) (by decide) ?_
  refine GL.val (Ex.move rfl) (by decide) ?_
  refine GL.val (v := (.int .i64 (((23 - Nat.log2 v : Nat) : Int)))) (Ex.sub' rfl rfl (Z := ((23 - Nat.log2 v : Nat) : Int)) (by rw [w64 (by omega)]; omega)) (by decide) ?_
  refine GL.step (Stp.callR (vs := [(.slice (some ⟨b, 0, none⟩) 1 c), (.int .i64 (((23 - Nat.log2 v : Nat) : Int)))]) rfl rfl T.own61 (by decide) (fun wc hw => up_pos v b c (23 - Nat.log2 v) wc hv (hw.rd hc (fun x => x)) (by omega))) (fun xq245 hq246 => ?_)
  refine GL.val (Ex.assign rfl) (by decide) ?_
  refine GL.nil ?_
  refine GE.thenN ?_
  refine GC.seq ?_
  refine GC.seq ?_
  refine GC.region ?_
  refine GL.val (Ex.move rfl) (by decide) ?_
  refine GL.nil ?_
  refine GE.thenN ?_
  refine GC.cond rfl (fun hq247 => by cases hq247) (fun _ => ?_)
  refine GC.skip ?_
  refine GE.thenN ?_
  refine GC.seq ?_
  refine GC.seq ?_
  refine GC.draw [⟨xq245, [(.int .u32 (((v * 2 ^ (23 - Nat.log2 v) : Nat) : Int))), (.int .u32 0)], 23, true⟩, ⟨bq2, [(.int .i64 2), (.bool ng), (.slice (some ⟨b, 0, none⟩) 1 c), (.int .i64 e), (.bool false)], 38, true⟩, ⟨bq1, [(.int .i64 23), (.int .i64 8)], 67, true⟩] T.mixed (fuel := 6) rfl rfl ?_
  refine GH.take 0 (v := (.slice (some ⟨xq245, 0, none⟩) 1 2)) rfl (by kernel_rfl) (by kernel_rfl) (by kernel_rfl) (fun _ _ _ h => h) (Ex.move rfl) (ulC (ulC (ulC ulN))) (by decide) ?_
  refine GH.take 2 (v := (.pointer (some ⟨bq1, 0, none⟩))) rfl (by kernel_rfl) (by kernel_rfl) (by kernel_rfl) (fun _ _ _ h => h) (Ex.cast (Ex.fieldAddr rfl Try.underlying67 rfl T.sz3 (by decide)) rfl) (ulC (ulC (ulC ulN))) (by decide) ?_
  refine GH.take 3 (v := (.int .i64 23)) rfl (by kernel_rfl) (by kernel_rfl) (by kernel_rfl) (fun _ _ _ h => h) (Ex.load rfl T.ag3 (i := 2) rfl rfl) (ulC (ulC (ulC ulN))) (by decide) ?_
  refine GH.take 4 (v := (.int .i64 24)) rfl (by kernel_rfl) (by kernel_rfl) (by kernel_rfl) (fun _ _ _ h => h) (Ex.add rfl rfl (Z := 24) (by decide)) (ulC (ulC (ulC ulN))) (by decide) ?_
  refine GH.one 1 rfl (by kernel_rfl) (Stp.callR (vs := [(.slice (some ⟨xq245, 0, none⟩) 1 2)]) rfl rfl T.own88 (by decide) (fun wc hw => bits_pos (v * 2 ^ (23 - Nat.log2 v)) xq245 2 wc (by omega) (Lg.rd1 (hw.rdOf (i := 0) rfl 0)))) (fun _ => (ulC (ulC (ulC ulN)))) (fun xq250 hq251 => ?_)
  refine GH.take 5 (v := (.bool false)) rfl (by kernel_rfl) (by kernel_rfl) (by kernel_rfl) (fun _ _ _ h => h) (Ex.cast (Ex.gtr rfl rfl) (congrArg Value.bool (decide_eq_false (by omega)))) (ulC (ulC (ulC ulN))) (by decide) ?_
  refine GH.done (by kernel_rfl) ?_
  refine GE.thenN ?_
  refine GC.cond rfl (fun hq252 => by cases hq252) (fun _ => ?_)
  refine GC.skip ?_
  refine GE.thenN ?_
  refine GC.seq ?_
  refine GC.region ?_
  refine GL.val (Ex.move rfl) (by decide) ?_
  refine GL.step (Stp.callR (vs := [(.slice (some ⟨xq245, 0, none⟩) 1 2)]) rfl rfl T.own89 (by decide) (fun wc hw => low_pos (v * 2 ^ (23 - Nat.log2 v)) xq245 2 wc (by omega) (Lg.rd1 (hw.rdOf (i := 0) rfl 0)))) (fun xq253 hq254 => ?_)
  refine GL.val (Ex.assign rfl) (by decide) ?_
  refine GL.nil ?_
  refine GE.thenN ?_
  refine GC.seq ?_
  refine GC.seq ?_
  refine GC.region ?_
  refine GL.val (Ex.move rfl) (by decide) ?_
  refine GL.val (v := (.pointer (some ⟨bq1, 0, none⟩))) (Ex.cast (Ex.fieldAddr rfl Try.underlying67 rfl T.sz3 (by decide)) rfl) (by decide) ?_
  refine GL.val (Ex.load rfl T.ag3 (i := 2) rfl rfl) (by decide) ?_
  refine GL.val (v := (.int .u64 8388608)) (Ex.shl rfl (m := 23) rfl (by decide) (Z := 8388608) (by decide)) (by decide) ?_
  refine GL.val (v := (.bool false)) (Ex.cast (Ex.lss rfl rfl) (congrArg Value.bool (decide_eq_false (by omega)))) (by decide) ?_
  refine GL.nil ?_
  refine GE.thenN ?_
  refine GC.cond rfl (fun hq255 => by cases hq255) (fun _ => ?_)
  refine GC.skip ?_
  refine GE.thenN ?_
  refine GC.seq ?_
  refine GC.region ?_
  refine GL.val (Ex.move rfl) (by decide) ?_
  refine GL.val (v := (.agg #[(.int .i64 23), (.int .i64 8)])) (Ex.loadA rfl T.ag67 T.sz67 (i := 2) rfl (vs := [(.int .i64 23), (.int .i64 8)]) rfl rfl) (by decide) ?_
  refine GL.step (Stp.callR (vs := [(.agg #[(.int .i64 23), (.int .i64 8)])]) rfl rfl T.own83 (by decide) (fun wc hw => j83_2  wc )) (fun xq256 hq257 => ?_)
  refine GL.val (v := (.int .i64 (((((Nat.log2 v : Nat) : Int) + e - 23) + 150)))) (Ex.add rfl rfl (Z := ((((Nat.log2 v : Nat) : Int) + e - 23) + 150)) (w64 (by omega))) (by decide) ?_
  refine GL.val (Ex.assign rfl) (by decide) ?_
  refine GL.nil ?_
  refine GE.thenN ?_
  refine GC.seq ?_
  refine GC.seq ?_
  refine GC.region ?_
  refine GL.val (Ex.move rfl) (by decide) ?_
  refine GL.val (v := (.int .u64 (((((Nat.log2 v : Nat) : Int) + e - 23) + 150)))) (Ex.conv rfl Try.underlying3 Try.underlying70 (Z := ((((Nat.log2 v : Nat) : Int) + e - 23) + 150)) (wu64b (by omega))) (by decide) ?_
  refine GL.val (v := (.agg #[(.int .i64 23), (.int .i64 8)])) (Ex.loadA rfl T.ag67 T.sz67 (i := 2) rfl (vs := [(.int .i64 23), (.int .i64 8)]) rfl rfl) (by decide) ?_
  refine GL.step (Stp.callR (vs := [(.agg #[(.int .i64 23), (.int .i64 8)])]) rfl rfl T.own82 (by decide) (fun wc hw => j82_1  wc )) (fun xq258 hq259 => ?_)
  refine GL.val (v := (.bool false)) (Ex.cast (Ex.geq rfl rfl) (congrArg Value.bool (decide_eq_false (by omega)))) (by decide) ?_
  refine GL.nil ?_
  refine GE.thenN ?_
  refine GC.cond rfl (fun hq260 => by cases hq260) (fun _ => ?_)
  refine GC.skip ?_
  refine GE.thenN ?_
  refine GC.seq ?_
  refine GC.drawP [⟨xq245, [(.int .u32 (((v * 2 ^ (23 - Nat.log2 v) : Nat) : Int))), (.int .u32 0)], 23, true⟩, ⟨bq2, [(.int .i64 2), (.bool ng), (.slice (some ⟨b, 0, none⟩) 1 c), (.int .i64 e), (.bool false)], 38, true⟩, ⟨bq1, [(.int .i64 23), (.int .i64 8)], 67, true⟩] T.mixed (by kernel_rfl) (by kernel_rfl) (fuel := 17) rfl rfl ?_
  refine GH.take 0 (v := (.agg #[(.int .i64 23), (.int .i64 8)])) rfl (by kernel_rfl) (by kernel_rfl) (by kernel_rfl) (fun _ _ _ h => h) (Ex.loadA rfl T.ag67 T.sz67 (i := 2) rfl (vs := [(.int .i64 23), (.int .i64 8)]) rfl rfl) (ulC (ulC (ulC ulN))) (by decide) ?_
  refine GH.take 1 (v := (.pointer (some ⟨bq2, 1, none⟩))) rfl (by kernel_rfl) (by kernel_rfl) (by kernel_rfl) (fun _ _ _ h => h) (Ex.cast (Ex.fieldAddr rfl Try.underlying38 rfl T.sz4 (by decide)) rfl) (ulC (ulC (ulC ulN))) (by decide) ?_
  refine GH.take 2 (v := (.bool ng)) rfl (by kernel_rfl) (by kernel_rfl) (by kernel_rfl) (fun _ _ _ h => h) (Ex.load rfl T.ag4 (i := 1) rfl rfl) (ulC (ulC (ulC ulN))) (by decide) ?_
  refine GH.take 4 (v := (.int .i64 (((((Nat.log2 v : Nat) : Int) + e - 23) + 150)))) rfl (by kernel_rfl) (by kernel_rfl) (by kernel_rfl) (fun _ _ _ h => h) (Ex.move rfl) (ulC (ulC (ulC ulN))) (by decide) ?_
  refine GH.take 5 (v := (.int .u64 (((((Nat.log2 v : Nat) : Int) + e - 23) + 150)))) rfl (by kernel_rfl) (by kernel_rfl) (by kernel_rfl) (fun _ _ _ h => h) (Ex.conv rfl Try.underlying3 Try.underlying70 (Z := ((((Nat.log2 v : Nat) : Int) + e - 23) + 150)) (wu64b (by omega))) (ulC (ulC (ulC ulN))) (by decide) ?_
  refine GH.take 6 (v := (.pointer (some ⟨bq1, 0, none⟩))) rfl (by kernel_rfl) (by kernel_rfl) (by kernel_rfl) (fun _ _ _ h => h) (Ex.cast (Ex.fieldAddr rfl Try.underlying67 rfl T.sz3 (by decide)) rfl) (ulC (ulC (ulC ulN))) (by decide) ?_
  refine GH.take 7 (v := (.int .i64 23)) rfl (by kernel_rfl) (by kernel_rfl) (by kernel_rfl) (fun _ _ _ h => h) (Ex.load rfl T.ag3 (i := 2) rfl rfl) (ulC (ulC (ulC ulN))) (by decide) ?_
  refine GH.take 8 (v := (.int .u64 (((((((((Nat.log2 v : Nat) : Int) + e - 23) + 150)).toNat : Nat) : Int) * 8388608)))) rfl (by kernel_rfl) (by kernel_rfl) (by kernel_rfl) (fun _ _ _ h => h) (Ex.shl rfl (m := 23) rfl (by decide) (Z := (((((((Nat.log2 v : Nat) : Int) + e - 23) + 150)).toNat : Nat) : Int) * 8388608) (by rw [show ((2 : Int) ^ 23) = 8388608 by decide, wu64b (by omega)]; omega)) (ulC (ulC (ulC ulN))) (by decide) ?_
  refine GH.take 10 (v := (.int .u64 (((v * 2 ^ (23 - Nat.log2 v) : Nat) : Int)))) rfl (by kernel_rfl) (by kernel_rfl) (by kernel_rfl) (fun _ _ _ h => h) (Ex.move rfl) (ulC (ulC (ulC ulN))) (by decide) ?_
  refine GH.take 11 (v := (.pointer (some ⟨bq1, 0, none⟩))) rfl (by kernel_rfl) (by kernel_rfl) (by kernel_rfl) (fun _ _ _ h => h) (Ex.cast (Ex.fieldAddr rfl Try.underlying67 rfl T.sz3 (by decide)) rfl) (ulC (ulC (ulC ulN))) (by decide) ?_
  refine GH.take 12 (v := (.int .i64 23)) rfl (by kernel_rfl) (by kernel_rfl) (by kernel_rfl) (fun _ _ _ h => h) (Ex.load rfl T.ag3 (i := 2) rfl rfl) (ulC (ulC (ulC ulN))) (by decide) ?_
  refine GH.take 13 (v := (.int .u64 8388608)) rfl (by kernel_rfl) (by kernel_rfl) (by kernel_rfl) (fun _ _ _ h => h) (Ex.shl rfl (m := 23) rfl (by decide) (Z := 8388608) (by decide)) (ulC (ulC (ulC ulN))) (by decide) ?_
  refine GH.take 14 (v := (.int .u64 8388607)) rfl (by kernel_rfl) (by kernel_rfl) (by kernel_rfl) (fun _ _ _ h => h) (Ex.sub' rfl rfl (Z := 8388607) (by decide)) (ulC (ulC (ulC ulN))) (by decide) ?_
  refine GH.take 15 (v := (.int .u64 ((((v * 2 ^ (23 - Nat.log2 v) - 8388608) : Nat) : Int)))) rfl (by kernel_rfl) (by kernel_rfl) (by kernel_rfl) (fun _ _ _ h => h) (Ex.bits rfl rfl (by simp) (Z := (((v * 2 ^ (23 - Nat.log2 v) - 8388608) : Nat) : Int)) (andm64 23 (by omega) (by omega) (by omega) (by omega) rfl)) (ulC (ulC (ulC ulN))) (by decide) ?_
  refine GH.one 3 rfl (by kernel_rfl) (Stp.callR (vs := [(.agg #[(.int .i64 23), (.int .i64 8)]), (.bool ng)]) rfl rfl T.own87 (by decide) (fun wc hw => sign_p ng wc)) (fun _ => (ulC (ulC (ulC ulN)))) (fun xq263 hq264 => ?_)
  refine GH.take 9 (v := (.int .u64 ((Lg.sg ng + (((((((Nat.log2 v : Nat) : Int) + e - 23) + 150)).toNat * 8388608 : Nat) : Int))))) rfl (by kernel_rfl) (by kernel_rfl) (by kernel_rfl) (fun _ _ _ h => h) (Ex.bits rfl rfl (by simp) (Z := Lg.sg ng + (((((((Nat.log2 v : Nat) : Int) + e - 23) + 150)).toNat * 8388608 : Nat) : Int)) (Lg.or_sign (by omega) (by omega))) (ulC (ulC (ulC ulN))) (by decide) ?_
  refine GH.take 16 (v := (.int .u64 ((Lg.sg ng + (((((((Nat.log2 v : Nat) : Int) + e - 23) + 150)).toNat * 8388608 + (v * 2 ^ (23 - Nat.log2 v) - 8388608) : Nat) : Int))))) rfl (by kernel_rfl) (by kernel_rfl) (by kernel_rfl) (fun _ _ _ h => h) (Ex.bits rfl rfl (by simp) (Z := Lg.sg ng + (((((((Nat.log2 v : Nat) : Int) + e - 23) + 150)).toNat * 8388608 + (v * 2 ^ (23 - Nat.log2 v) - 8388608) : Nat) : Int)) (Lg.or_low (by omega) (by omega))) (ulC (ulC (ulC ulN))) (by decide) ?_
  refine GH.done (by kernel_rfl) ?_
  refine GE.thenN ?_
  refine GE.tail rfl (Ex.wp (v := (.int .u64 ((Lg.sg ng + (((((((Nat.log2 v : Nat) : Int) + e - 23) + 150)).toNat * 8388608 + (v * 2 ^ (23 - Nat.log2 v) - 8388608) : Nat) : Int))))) (Ex.assign rfl) (by decide)) (fun _ _ => ?_)
  refine GE.thenN ?_
  refine GC.ret ?_
  refine GC.ret1 rfl (Rv.tmp rfl) (fun wN HN => ?_)
  exact HN.ret () trivial (by rw [Lg.RD_of (v := v) (K := v * 2 ^ (23 - Nat.log2 v)) (e := e) hv.1 hv.2 he (if_neg (by omega)) (by omega)]) (List.nil_sublist _) rfl

set_option maxRecDepth 100000 in
set_option maxHeartbeats 1000000 in
theorem up_0 (ad : Option Addr) (c n : Nat) (w : World) :
  Calls Try.prog 61 #[(.slice ad 0 c), (.int .i64 (((n : Nat) : Int)))] w (Ret w (fun _ : Unit => True) (fun _ => (.slice none 0 0)) (fun _ => [])) := by
 refine enter (M := None) (L := []) (n := 61) (l := [(0, (.slice ad 0 c)), (1, (.int .i64 (((n : Nat) : Int))))]) Try.func61 rfl rfl (Args.cons rfl (Args.cons rfl (Args.nil _))) (Hp.start _ _) ?_
 refine GC.seq ?_
 refine GC.region ?_
 refine GL.val (Ex.assign rfl) (by decide) ?_
 refine GL.nil ?_
 refine GE.thenN ?_
 refine GC.seq ?_
 refine GC.seq ?_
 refine GC.region ?_
 refine GL.val (Ex.move rfl) (by decide) ?_
 refine GL.val (v := (.int .i64 0)) (Ex.len rfl Try.underlying36) (by decide) ?_
 refine GL.val (v := (.bool true)) (Ex.cast (Ex.eql rfl rfl) rfl) (by decide) ?_
 refine GL.nil ?_
 refine GE.thenN ?_
 refine GC.cond rfl (fun _ => ?_) (fun hq1 => by cases hq1)
 refine GC.seq ?_
 refine GC.region ?_
 refine GL.val (Ex.assign rfl) (by decide) ?_
 refine GL.nil ?_
 refine GE.thenN ?_
 refine GC.ret ?_
 refine GE.thenR ?_
 refine GC.ret1 rfl (Rv.tmp rfl) (fun wN HN => ?_)
 exact HN.ret () trivial (by rfl) (List.nil_sublist _) rfl

set_option maxRecDepth 100000 in
set_option maxHeartbeats 1000000 in
theorem bitsN (v b c : Nat) (e : Int) (ng : Bool) (w : World) (hv : 0 < v ∧ v < 4294967296) (hc : Rd w b 0 [.int .u32 ((v : Nat) : Int)]) (he : -100 ≤ e ∧ e ≤ 60) :
  Calls Try.prog 67 #[(.agg #[(.int .i64 2), (.bool ng), (.slice (some ⟨b, 0, none⟩) 1 c), (.int .i64 e), (.bool false)])] w (Ret w (fun _ : Unit => True) (fun _ => (.int .u32 ((Lg.sg ng + ((Lg.RD v e : Nat) : Int))))) (fun _ => [])) := by
 refine enter (M := None) (L := []) (n := 7) (l := [(0, (.agg #[(.int .i64 2), (.bool ng), (.slice (some ⟨b, 0, none⟩) 1 c), (.int .i64 e), (.bool false)]))]) Try.func67 rfl rfl (Args.cons rfl (Args.nil _)) (Hp.start _ _) ?_
 refine GC.seq ?_
 refine GC.region ?_
 refine GL.step (Stp.box (cs := [(.int .i64 2), (.bool ng), (.slice (some ⟨b, 0, none⟩) 1 c), (.int .i64 e), (.bool false)]) rfl rfl (by decide)) (fun bq1 _ => ?_)
 refine GL.val (Ex.assign rfl) (by decide) ?_
 refine GL.nil ?_
 refine GE.thenN ?_
 refine GC.seq ?_
 refine GC.drawP [⟨bq1, [(.int .i64 2), (.bool ng), (.slice (some ⟨b, 0, none⟩) 1 c), (.int .i64 e), (.bool false)], 38, true⟩] T.mixed (by kernel_rfl) (by kernel_rfl) (fuel := 4) rfl rfl ?_
 refine GH.take 1 (v := (.agg #[(.int .i64 2), (.bool ng), (.slice (some ⟨b, 0, none⟩) 1 c), (.int .i64 e), (.bool false)])) rfl (by kernel_rfl) (by kernel_rfl) (by kernel_rfl) (fun _ _ _ h => h) (Ex.loadA rfl T.ag38 T.sz38 (i := 0) rfl (vs := [(.int .i64 2), (.bool ng), (.slice (some ⟨b, 0, none⟩) 1 c), (.int .i64 e), (.bool false)]) rfl rfl) (ulC ulN) (by decide) ?_
 refine GH.one 0 rfl (by kernel_rfl) (Stp.callR (vs := []) rfl rfl T.own58 (by decide) (fun wc hw => j58_3  wc )) (fun _ => (ulC ulN)) (fun xq6 hq7 => ?_)
 refine GH.one 2 rfl (by kernel_rfl) (Stp.callR (vs := [(.agg #[(.int .i64 23), (.int .i64 8)]), (.agg #[(.int .i64 2), (.bool ng), (.slice (some ⟨b, 0, none⟩) 1 c), (.int .i64 e), (.bool false)])]) rfl rfl T.own75 (by decide) (fun wc hw => round_pos v b c e ng wc hv (hw.rd hc (fun x => x)) he)) (fun _ => (ulC ulN)) (fun xq8 hq9 => ?_)
 refine GH.take 3 (v := (.int .u32 ((Lg.sg ng + ((Lg.RD v e : Nat) : Int))))) rfl (by kernel_rfl) (by kernel_rfl) (by kernel_rfl) (fun _ _ _ h => h) (Ex.conv rfl Try.underlying70 Try.underlying23 (Z := (Lg.sg ng + ((Lg.RD v e : Nat) : Int))) (wu32b (Lg.RD_bd hv he))) (ulC ulN) (by decide) ?_
 refine GH.done (by kernel_rfl) ?_
 refine GE.thenN ?_
 refine GE.tail rfl (Ex.wp (v := (.int .u32 ((Lg.sg ng + ((Lg.RD v e : Nat) : Int))))) (Ex.assign rfl) (by decide)) (fun _ _ => ?_)
 refine GE.thenN ?_
 refine GC.ret ?_
 refine GC.ret1 rfl (Rv.tmp rfl) (fun wN HN => ?_)
 exact HN.ret () trivial (by rfl) (List.nil_sublist _) rfl

set_option maxRecDepth 100000 in
set_option maxHeartbeats 1000000 in
theorem of_pos (a : Int) (v : Nat) (w : World) (ha : 0 ≤ a ∧ a < 4294967296) (hf : a % 2147483648 < 2139095040) (hm : Bt.mant a = ((v : Nat) : Int)) (hv : 0 < v) :
  Calls Try.prog 59 #[(.agg #[(.int .i64 23), (.int .i64 8)]), (.int .u64 a)] w (Ret w (fun _ : Nat => True) (fun z => (.agg #[(.int .i64 2), (.bool ((decide (a / 2147483648 % 2 = 1)))), (.slice (some ⟨z, 0, none⟩) 1 2), (.int .i64 ((Bt.expo a))), (.bool false)])) (fun z => [⟨z, [(.int .u32 (((v : Nat) : Int))), (.int .u32 0)], 23, true⟩])) := by
 refine enter (M := None) (L := []) (n := 61) (l := [(0, (.agg #[(.int .i64 23), (.int .i64 8)])), (1, (.int .u64 a))]) Try.func59 rfl rfl (Args.cons rfl (Args.cons rfl (Args.nil _))) (Hp.start _ _) ?_
 refine GC.seq ?_
 refine GC.region ?_
 refine GL.step (Stp.box (cs := [(.int .i64 23), (.int .i64 8)]) rfl rfl (by decide)) (fun bq1 _ => ?_)
 refine GL.step (Stp.alloc T.zr38 (by decide)) (fun bq2 _ => ?_)
 refine GL.nil ?_
 refine GE.thenN ?_
 refine GC.seq ?_
 refine GC.region ?_
 refine GL.val (Ex.move rfl) (by decide) ?_
 refine GL.val (v := (.pointer (some ⟨bq1, 0, none⟩))) (Ex.cast (Ex.fieldAddr rfl Try.underlying67 rfl T.sz3 (by decide)) rfl) (by decide) ?_
 refine GL.val (Ex.load rfl T.ag3 (i := 1) rfl rfl) (by decide) ?_
 refine GL.val (v := (.pointer (some ⟨bq1, 1, none⟩))) (Ex.cast (Ex.fieldAddr rfl Try.underlying67 rfl T.sz3 (by decide)) rfl) (by decide) ?_
 refine GL.val (Ex.load rfl T.ag3 (i := 1) rfl rfl) (by decide) ?_
 refine GL.val (v := (.int .i64 31)) (Ex.add rfl rfl (Z := 31) (by decide)) (by decide) ?_
 refine GL.val (v := (.int .u64 (a / 2147483648))) (Ex.shr rfl (m := 31) rfl (by decide) (Z := a / 2147483648) rfl) (by decide) ?_
 refine GL.val (v := (.int .u64 (a / 2147483648 % 2))) (Ex.bits rfl rfl (by simp) (Z := a / 2147483648 % 2) (andm64 1 (by omega) (by omega) (by omega) rfl rfl)) (by decide) ?_
 refine GL.val (v := (.bool (decide ((a / 2147483648 % 2) = 1)))) (Ex.eql rfl rfl) (by decide) ?_
 refine GL.val (Ex.assign rfl) (by decide) ?_
 refine GL.nil ?_
 refine GE.thenN ?_
 refine GC.seq ?_
 refine GC.drawP [⟨bq2, [(.int .i64 0), (.bool false), (.slice none 0 0), (.int .i64 0), (.bool false)], 38, true⟩, ⟨bq1, [(.int .i64 23), (.int .i64 8)], 67, true⟩] T.mixed (by kernel_rfl) (by kernel_rfl) (fuel := 7) rfl rfl ?_
 refine GH.take 0 (v := (.int .u64 a)) rfl (by kernel_rfl) (by kernel_rfl) (by kernel_rfl) (fun _ _ _ h => h) (Ex.move rfl) (ulC (ulC ulN)) (by decide) ?_
 refine GH.take 1 (v := (.pointer (some ⟨bq1, 0, none⟩))) rfl (by kernel_rfl) (by kernel_rfl) (by kernel_rfl) (fun _ _ _ h => h) (Ex.cast (Ex.fieldAddr rfl Try.underlying67 rfl T.sz3 (by decide)) rfl) (ulC (ulC ulN)) (by decide) ?_
 refine GH.take 2 (v := (.int .i64 23)) rfl (by kernel_rfl) (by kernel_rfl) (by kernel_rfl) (fun _ _ _ h => h) (Ex.load rfl T.ag3 (i := 1) rfl rfl) (ulC (ulC ulN)) (by decide) ?_
 refine GH.take 3 (v := (.int .u64 (a / 8388608))) rfl (by kernel_rfl) (by kernel_rfl) (by kernel_rfl) (fun _ _ _ h => h) (Ex.shr rfl (m := 23) rfl (by decide) (Z := a / 8388608) rfl) (ulC (ulC ulN)) (by decide) ?_
 refine GH.take 4 (v := (.agg #[(.int .i64 23), (.int .i64 8)])) rfl (by kernel_rfl) (by kernel_rfl) (by kernel_rfl) (fun _ _ _ h => h) (Ex.loadA rfl T.ag67 T.sz67 (i := 1) rfl (vs := [(.int .i64 23), (.int .i64 8)]) rfl rfl) (ulC (ulC ulN)) (by decide) ?_
 refine GH.one 5 rfl (by kernel_rfl) (Stp.callR (vs := [(.agg #[(.int .i64 23), (.int .i64 8)])]) rfl rfl T.own82 (by decide) (fun wc hw => j82_1  wc )) (fun _ => (ulC (ulC ulN))) (fun xq3 hq4 => ?_)
 refine GH.take 6 (v := (.int .u64 (a / 8388608 % 256))) rfl (by kernel_rfl) (by kernel_rfl) (by kernel_rfl) (fun _ _ _ h => h) (Ex.bits rfl rfl (by simp) (Z := a / 8388608 % 256) (andm64 8 (by omega) (by omega) (by omega) rfl rfl)) (ulC (ulC ulN)) (by decide) ?_
 refine GH.done (by kernel_rfl) ?_
 refine GE.thenN ?_
 refine GE.tail rfl (Ex.wp (v := (.int .u64 (a / 8388608 % 256))) (Ex.assign rfl) (by decide)) (fun _ _ => ?_)
 refine GE.thenN ?_
 refine GC.seq ?_
 refine GC.region ?_
 refine GL.val (Ex.move rfl) (by decide) ?_
 refine GL.val (v := (.pointer (some ⟨bq1, 0, none⟩))) (Ex.cast (Ex.fieldAddr rfl Try.underlying67 rfl T.sz3 (by decide)) rfl) (by decide) ?_
 refine GL.val (Ex.load rfl T.ag3 (i := 1) rfl rfl) (by decide) ?_
 refine GL.val (v := (.int .u64 8388608)) (Ex.shl rfl (m := 23) rfl (by decide) (Z := 8388608) (by decide)) (by decide) ?_
 refine GL.val (v := (.int .u64 8388607)) (Ex.sub' rfl rfl (Z := 8388607) (by decide)) (by decide) ?_
 refine GL.val (v := (.int .u64 (a % 8388608))) (Ex.bits rfl rfl (by simp) (Z := a % 8388608) (andm64 23 (by omega) (by omega) (by omega) rfl rfl)) (by decide) ?_
 refine GL.val (Ex.assign rfl) (by decide) ?_
 refine GL.nil ?_
 refine GE.thenN ?_
 refine GC.seq ?_
 refine GC.seq ?_
 refine GC.region ?_
 refine GL.val (Ex.move rfl) (by decide) ?_
 refine GL.val (v := (.agg #[(.int .i64 23), (.int .i64 8)])) (Ex.loadA rfl T.ag67 T.sz67 (i := 1) rfl (vs := [(.int .i64 23), (.int .i64 8)]) rfl rfl) (by decide) ?_
 refine GL.step (Stp.callR (vs := [(.agg #[(.int .i64 23), (.int .i64 8)])]) rfl rfl T.own82 (by decide) (fun wc hw => j82_1  wc )) (fun xq5 hq6 => ?_)
 refine GL.val (v := (.bool (decide ((a / 8388608 % 256) = 255)))) (Ex.eql rfl rfl) (by decide) ?_
 refine GL.nil ?_
 refine GE.thenN ?_
 refine GC.cond rfl (fun hq7 => ?_) (fun hq7 => ?_)
 ·replace hq7 := of_decide_eq_true hq7
  exfalso; omega
 ·replace hq7 := of_decide_eq_false hq7
  refine GC.skip ?_
  refine GE.thenN ?_
  refine GC.seq ?_
  refine GC.seq ?_
  refine GC.region ?_
  refine GL.val (Ex.move rfl) (by decide) ?_
  refine GL.val (v := (.bool (decide ((a / 8388608 % 256) = 0)))) (Ex.eql rfl rfl) (by decide) ?_
  refine GL.nil ?_
  refine GE.thenN ?_
  refine GC.cond rfl (fun hq8 => ?_) (fun hq8 => ?_)
  ·replace hq8 := of_decide_eq_true hq8
   refine GC.seq ?_
   refine GC.drawP [⟨bq2, [(.int .i64 0), (.bool false), (.slice none 0 0), (.int .i64 0), (.bool false)], 38, true⟩, ⟨bq1, [(.int .i64 23), (.int .i64 8)], 67, true⟩] T.mixed (by kernel_rfl) (by kernel_rfl) (fuel := 7) rfl rfl ?_
   refine GH.take 0 (v := (.bool (decide ((a / 2147483648 % 2) = 1)))) rfl (by kernel_rfl) (by kernel_rfl) (by kernel_rfl) (fun _ _ _ h => h) (Ex.move rfl) (ulC (ulC ulN)) (by decide) ?_
   refine GH.take 1 (v := (.int .u64 (a % 8388608))) rfl (by kernel_rfl) (by kernel_rfl) (by kernel_rfl) (fun _ _ _ h => h) (Ex.move rfl) (ulC (ulC ulN)) (by decide) ?_
   refine GH.take 3 (v := (.agg #[(.int .i64 23), (.int .i64 8)])) rfl (by kernel_rfl) (by kernel_rfl) (by kernel_rfl) (fun _ _ _ h => h) (Ex.loadA rfl T.ag67 T.sz67 (i := 1) rfl (vs := [(.int .i64 23), (.int .i64 8)]) rfl rfl) (ulC (ulC ulN)) (by decide) ?_
   refine GH.one 2 rfl (by kernel_rfl) (Stp.callR (vs := [(.int .u64 (a % 8388608))]) rfl rfl T.own62 (by decide) (fun wc hw => natof_r (a % 8388608) wc (by omega))) (fun _ => (ulS (ulC (ulC ulN)))) (fun xq9 hq10 => ?_)
   refine GH.one 4 rfl (by kernel_rfl) (Stp.callR (vs := [(.agg #[(.int .i64 23), (.int .i64 8)])]) rfl rfl T.own83 (by decide) (fun wc hw => j83_2  wc )) (fun _ => (ulS (ulC (ulC ulN)))) (fun xq11 hq12 => ?_)
   refine GH.take 5 (v := (.int .i64 (-149))) rfl (by kernel_rfl) (by kernel_rfl) (by kernel_rfl) (fun _ _ _ h => h) (Ex.sub' rfl rfl (Z := -149) (by decide)) (ulS (ulC (ulC ulN))) (by decide) ?_
   refine GH.take 6 (v := (.agg #[(.int .i64 2), (.bool (decide ((a / 2147483648 % 2) = 1))), (.slice (some ⟨xq9, 0, none⟩) ((if a % 8388608 = 0 then 0 else 1)) 2), (.int .i64 (-149)), (.bool false)])) rfl (by kernel_rfl) (by kernel_rfl) (by kernel_rfl) (fun _ _ _ h => h) (Ex.build (vs := [(0, (.int .i64 2)), (1, (.bool (decide ((a / 2147483648 % 2) = 1)))), (2, (.slice (some ⟨xq9, 0, none⟩) ((if a % 8388608 = 0 then 0 else 1)) 2)), (3, (.int .i64 (-149)))]) rfl (by first | rfl | kernel_rfl)) (ulS (ulC (ulC ulN))) (by decide) ?_
   refine GH.done (by kernel_rfl) ?_
   refine GE.thenN ?_
   refine GE.tail rfl (Stp.st1 (cs' := [(.int .i64 2), (.bool (decide ((a / 2147483648 % 2) = 1))), (.slice (some ⟨xq9, 0, none⟩) ((if a % 8388608 = 0 then 0 else 1)) 2), (.int .i64 (-149)), (.bool false)]) rfl rfl rfl T.sz38 rfl rfl rfl) (fun _ _ => ?_)
   refine GE.thenN ?_
   refine GC.ret ?_
   refine GE.thenR ?_
   refine GC.ret1 rfl (Rv.cellA rfl T.ag38 T.sz38 (L := _) (i := 1) rfl (vs := [(.int .i64 2), (.bool (decide ((a / 2147483648 % 2) = 1))), (.slice (some ⟨xq9, 0, none⟩) ((if a % 8388608 = 0 then 0 else 1)) 2), (.int .i64 (-149)), (.bool false)]) rfl rfl) (fun wN HN => ?_)
   have ex : a % 8388608 = ((v : Nat) : Int) := by rw [← hm]; unfold Bt.mant; first | rw [if_pos (by omega)] | rw [if_neg (by omega)]
   have ee : -149 = Bt.expo a := by unfold Bt.expo; first | rw [if_pos (by omega)] | rw [if_neg (by omega)]
   rw [ex] at HN
   exact HN.ret xq9 trivial (by rw [ex, ← ee, if_neg (by omega)]) (ulC (ulS (ulS ulN))) rfl
  ·replace hq8 := of_decide_eq_false hq8
   refine GC.skip ?_
   refine GE.thenN ?_
   refine GC.seq ?_
   refine GC.drawP [⟨bq2, [(.int .i64 0), (.bool false), (.slice none 0 0), (.int .i64 0), (.bool false)], 38, true⟩, ⟨bq1, [(.int .i64 23), (.int .i64 8)], 67, true⟩] T.mixed (by kernel_rfl) (by kernel_rfl) (fuel := 13) rfl rfl ?_
   refine GH.take 0 (v := (.bool (decide ((a / 2147483648 % 2) = 1)))) rfl (by kernel_rfl) (by kernel_rfl) (by kernel_rfl) (fun _ _ _ h => h) (Ex.move rfl) (ulC (ulC ulN)) (by decide) ?_
   refine GH.take 1 (v := (.int .u64 (a % 8388608))) rfl (by kernel_rfl) (by kernel_rfl) (by kernel_rfl) (fun _ _ _ h => h) (Ex.move rfl) (ulC (ulC ulN)) (by decide) ?_
   refine GH.take 2 (v := (.pointer (some ⟨bq1, 0, none⟩))) rfl (by kernel_rfl) (by kernel_rfl) (by kernel_rfl) (fun _ _ _ h => h) (Ex.cast (Ex.fieldAddr rfl Try.underlying67 rfl T.sz3 (by decide)) rfl) (ulC (ulC ulN)) (by decide) ?_
   refine GH.take 3 (v := (.int .i64 23)) rfl (by kernel_rfl) (by kernel_rfl) (by kernel_rfl) (fun _ _ _ h => h) (Ex.load rfl T.ag3 (i := 1) rfl rfl) (ulC (ulC ulN)) (by decide) ?_
   refine GH.take 4 (v := (.int .u64 8388608)) rfl (by kernel_rfl) (by kernel_rfl) (by kernel_rfl) (fun _ _ _ h => h) (Ex.shl rfl (m := 23) rfl (by decide) (Z := 8388608) (by decide)) (ulC (ulC ulN)) (by decide) ?_
   refine GH.take 5 (v := (.int .u64 (a % 8388608 + 8388608))) rfl (by kernel_rfl) (by kernel_rfl) (by kernel_rfl) (fun _ _ _ h => h) (Ex.bits rfl rfl (by simp) (Z := a % 8388608 + 8388608) (orm64 23 (by omega) (by omega) rfl rfl)) (ulC (ulC ulN)) (by decide) ?_
   refine GH.take 7 (v := (.int .u64 (a / 8388608 % 256))) rfl (by kernel_rfl) (by kernel_rfl) (by kernel_rfl) (fun _ _ _ h => h) (Ex.move rfl) (ulC (ulC ulN)) (by decide) ?_
   refine GH.take 8 (v := (.int .i64 (a / 8388608 % 256))) rfl (by kernel_rfl) (by kernel_rfl) (by kernel_rfl) (fun _ _ _ h => h) (Ex.conv rfl Try.underlying70 Try.underlying3 (Z := a / 8388608 % 256) (w64 (by omega))) (ulC (ulC ulN)) (by decide) ?_
   refine GH.take 9 (v := (.agg #[(.int .i64 23), (.int .i64 8)])) rfl (by kernel_rfl) (by kernel_rfl) (by kernel_rfl) (fun _ _ _ h => h) (Ex.loadA rfl T.ag67 T.sz67 (i := 1) rfl (vs := [(.int .i64 23), (.int .i64 8)]) rfl rfl) (ulC (ulC ulN)) (by decide) ?_
   refine GH.one 6 rfl (by kernel_rfl) (Stp.callR (vs := [(.int .u64 (a % 8388608 + 8388608))]) rfl rfl T.own62 (by decide) (fun wc hw => natof_r (a % 8388608 + 8388608) wc (by omega))) (fun _ => (ulS (ulC (ulC ulN)))) (fun xq13 hq14 => ?_)
   refine GH.one 10 rfl (by kernel_rfl) (Stp.callR (vs := [(.agg #[(.int .i64 23), (.int .i64 8)])]) rfl rfl T.own83 (by decide) (fun wc hw => j83_2  wc )) (fun _ => (ulS (ulC (ulC ulN)))) (fun xq15 hq16 => ?_)
   refine GH.take 11 (v := (.int .i64 ((a / 8388608 % 256) - 150))) rfl (by kernel_rfl) (by kernel_rfl) (by kernel_rfl) (fun _ _ _ h => h) (Ex.sub' rfl rfl (Z := (a / 8388608 % 256) - 150) (w64 (by omega))) (ulS (ulC (ulC ulN))) (by decide) ?_
   refine GH.take 12 (v := (.agg #[(.int .i64 2), (.bool (decide ((a / 2147483648 % 2) = 1))), (.slice (some ⟨xq13, 0, none⟩) ((if a % 8388608 + 8388608 = 0 then 0 else 1)) 2), (.int .i64 ((a / 8388608 % 256) - 150)), (.bool false)])) rfl (by kernel_rfl) (by kernel_rfl) (by kernel_rfl) (fun _ _ _ h => h) (Ex.build (vs := [(0, (.int .i64 2)), (1, (.bool (decide ((a / 2147483648 % 2) = 1)))), (2, (.slice (some ⟨xq13, 0, none⟩) ((if a % 8388608 + 8388608 = 0 then 0 else 1)) 2)), (3, (.int .i64 ((a / 8388608 % 256) - 150)))]) rfl (by first | rfl | kernel_rfl)) (ulS (ulC (ulC ulN))) (by decide) ?_
   refine GH.done (by kernel_rfl) ?_
   refine GE.thenN ?_
   refine GE.tail rfl (Stp.st1 (cs' := [(.int .i64 2), (.bool (decide ((a / 2147483648 % 2) = 1))), (.slice (some ⟨xq13, 0, none⟩) ((if a % 8388608 + 8388608 = 0 then 0 else 1)) 2), (.int .i64 ((a / 8388608 % 256) - 150)), (.bool false)]) rfl rfl rfl T.sz38 rfl rfl rfl) (fun _ _ => ?_)
   refine GE.thenN ?_
   refine GC.ret ?_
   refine GC.ret1 rfl (Rv.cellA rfl T.ag38 T.sz38 (L := _) (i := 1) rfl (vs := [(.int .i64 2), (.bool (decide ((a / 2147483648 % 2) = 1))), (.slice (some ⟨xq13, 0, none⟩) ((if a % 8388608 + 8388608 = 0 then 0 else 1)) 2), (.int .i64 ((a / 8388608 % 256) - 150)), (.bool false)]) rfl rfl) (fun wN HN => ?_)
   have ex : a % 8388608 + 8388608 = ((v : Nat) : Int) := by rw [← hm]; unfold Bt.mant; first | rw [if_pos (by omega)] | rw [if_neg (by omega)]
   have ee : (a / 8388608 % 256) - 150 = Bt.expo a := by unfold Bt.expo; first | rw [if_pos (by omega)] | rw [if_neg (by omega)]
   rw [ex] at HN
   exact HN.ret xq13 trivial (by rw [ex, ← ee, if_neg (by omega)]) (ulC (ulS (ulS ulN))) rfl

set_option maxRecDepth 100000 in
set_option maxHeartbeats 1000000 in
theorem of_zero (a : Int) (w : World) (ha : 0 ≤ a ∧ a < 4294967296) (hf : a % 2147483648 < 2139095040) (hm : a % 2147483648 = 0) :
  Calls Try.prog 59 #[(.agg #[(.int .i64 23), (.int .i64 8)]), (.int .u64 a)] w (Ret w (fun _ : Nat => True) (fun z => (.agg #[(.int .i64 2), (.bool ((decide (a / 2147483648 % 2 = 1)))), (.slice (some ⟨z, 0, none⟩) 0 2), (.int .i64 ((-149))), (.bool false)])) (fun z => [⟨z, [(.int .u32 0), (.int .u32 0)], 23, true⟩])) := by
 refine enter (M := None) (L := []) (n := 61) (l := [(0, (.agg #[(.int .i64 23), (.int .i64 8)])), (1, (.int .u64 a))]) Try.func59 rfl rfl (Args.cons rfl (Args.cons rfl (Args.nil _))) (Hp.start _ _) ?_
 refine GC.seq ?_
 refine GC.region ?_
 refine GL.step (Stp.box (cs := [(.int .i64 23), (.int .i64 8)]) rfl rfl (by decide)) (fun bq1 _ => ?_)
 refine GL.step (Stp.alloc T.zr38 (by decide)) (fun bq2 _ => ?_)
 refine GL.nil ?_
 refine GE.thenN ?_
 refine GC.seq ?_
 refine GC.region ?_
 refine GL.val (Ex.move rfl) (by decide) ?_
 refine GL.val (v := (.pointer (some ⟨bq1, 0, none⟩))) (Ex.cast (Ex.fieldAddr rfl Try.underlying67 rfl T.sz3 (by decide)) rfl) (by decide) ?_
 refine GL.val (Ex.load rfl T.ag3 (i := 1) rfl rfl) (by decide) ?_
 refine GL.val (v := (.pointer (some ⟨bq1, 1, none⟩))) (Ex.cast (Ex.fieldAddr rfl Try.underlying67 rfl T.sz3 (by decide)) rfl) (by decide) ?_
 refine GL.val (Ex.load rfl T.ag3 (i := 1) rfl rfl) (by decide) ?_
 refine GL.val (v := (.int .i64 31)) (Ex.add rfl rfl (Z := 31) (by decide)) (by decide) ?_
 refine GL.val (v := (.int .u64 (a / 2147483648))) (Ex.shr rfl (m := 31) rfl (by decide) (Z := a / 2147483648) rfl) (by decide) ?_
 refine GL.val (v := (.int .u64 (a / 2147483648 % 2))) (Ex.bits rfl rfl (by simp) (Z := a / 2147483648 % 2) (andm64 1 (by omega) (by omega) (by omega) rfl rfl)) (by decide) ?_
 refine GL.val (v := (.bool (decide ((a / 2147483648 % 2) = 1)))) (Ex.eql rfl rfl) (by decide) ?_
 refine GL.val (Ex.assign rfl) (by decide) ?_
 refine GL.nil ?_
 refine GE.thenN ?_
 refine GC.seq ?_
 refine GC.drawP [⟨bq2, [(.int .i64 0), (.bool false), (.slice none 0 0), (.int .i64 0), (.bool false)], 38, true⟩, ⟨bq1, [(.int .i64 23), (.int .i64 8)], 67, true⟩] T.mixed (by kernel_rfl) (by kernel_rfl) (fuel := 7) rfl rfl ?_
 refine GH.take 0 (v := (.int .u64 a)) rfl (by kernel_rfl) (by kernel_rfl) (by kernel_rfl) (fun _ _ _ h => h) (Ex.move rfl) (ulC (ulC ulN)) (by decide) ?_
 refine GH.take 1 (v := (.pointer (some ⟨bq1, 0, none⟩))) rfl (by kernel_rfl) (by kernel_rfl) (by kernel_rfl) (fun _ _ _ h => h) (Ex.cast (Ex.fieldAddr rfl Try.underlying67 rfl T.sz3 (by decide)) rfl) (ulC (ulC ulN)) (by decide) ?_
 refine GH.take 2 (v := (.int .i64 23)) rfl (by kernel_rfl) (by kernel_rfl) (by kernel_rfl) (fun _ _ _ h => h) (Ex.load rfl T.ag3 (i := 1) rfl rfl) (ulC (ulC ulN)) (by decide) ?_
 refine GH.take 3 (v := (.int .u64 (a / 8388608))) rfl (by kernel_rfl) (by kernel_rfl) (by kernel_rfl) (fun _ _ _ h => h) (Ex.shr rfl (m := 23) rfl (by decide) (Z := a / 8388608) rfl) (ulC (ulC ulN)) (by decide) ?_
 refine GH.take 4 (v := (.agg #[(.int .i64 23), (.int .i64 8)])) rfl (by kernel_rfl) (by kernel_rfl) (by kernel_rfl) (fun _ _ _ h => h) (Ex.loadA rfl T.ag67 T.sz67 (i := 1) rfl (vs := [(.int .i64 23), (.int .i64 8)]) rfl rfl) (ulC (ulC ulN)) (by decide) ?_
 refine GH.one 5 rfl (by kernel_rfl) (Stp.callR (vs := [(.agg #[(.int .i64 23), (.int .i64 8)])]) rfl rfl T.own82 (by decide) (fun wc hw => j82_1  wc )) (fun _ => (ulC (ulC ulN))) (fun xq3 hq4 => ?_)
 refine GH.take 6 (v := (.int .u64 (a / 8388608 % 256))) rfl (by kernel_rfl) (by kernel_rfl) (by kernel_rfl) (fun _ _ _ h => h) (Ex.bits rfl rfl (by simp) (Z := a / 8388608 % 256) (andm64 8 (by omega) (by omega) (by omega) rfl rfl)) (ulC (ulC ulN)) (by decide) ?_
 refine GH.done (by kernel_rfl) ?_
 refine GE.thenN ?_
 refine GE.tail rfl (Ex.wp (v := (.int .u64 (a / 8388608 % 256))) (Ex.assign rfl) (by decide)) (fun _ _ => ?_)
 refine GE.thenN ?_
 refine GC.seq ?_
 refine GC.region ?_
 refine GL.val (Ex.move rfl) (by decide) ?_
 refine GL.val (v := (.pointer (some ⟨bq1, 0, none⟩))) (Ex.cast (Ex.fieldAddr rfl Try.underlying67 rfl T.sz3 (by decide)) rfl) (by decide) ?_
 refine GL.val (Ex.load rfl T.ag3 (i := 1) rfl rfl) (by decide) ?_
 refine GL.val (v := (.int .u64 8388608)) (Ex.shl rfl (m := 23) rfl (by decide) (Z := 8388608) (by decide)) (by decide) ?_
 refine GL.val (v := (.int .u64 8388607)) (Ex.sub' rfl rfl (Z := 8388607) (by decide)) (by decide) ?_
 refine GL.val (v := (.int .u64 (a % 8388608))) (Ex.bits rfl rfl (by simp) (Z := a % 8388608) (andm64 23 (by omega) (by omega) (by omega) rfl rfl)) (by decide) ?_
 refine GL.val (Ex.assign rfl) (by decide) ?_
 refine GL.nil ?_
 refine GE.thenN ?_
 refine GC.seq ?_
 refine GC.seq ?_
 refine GC.region ?_
 refine GL.val (Ex.move rfl) (by decide) ?_
 refine GL.val (v := (.agg #[(.int .i64 23), (.int .i64 8)])) (Ex.loadA rfl T.ag67 T.sz67 (i := 1) rfl (vs := [(.int .i64 23), (.int .i64 8)]) rfl rfl) (by decide) ?_
 refine GL.step (Stp.callR (vs := [(.agg #[(.int .i64 23), (.int .i64 8)])]) rfl rfl T.own82 (by decide) (fun wc hw => j82_1  wc )) (fun xq5 hq6 => ?_)
 refine GL.val (v := (.bool (decide ((a / 8388608 % 256) = 255)))) (Ex.eql rfl rfl) (by decide) ?_
 refine GL.nil ?_
 refine GE.thenN ?_
 refine GC.cond rfl (fun hq7 => ?_) (fun hq7 => ?_)
 ·replace hq7 := of_decide_eq_true hq7
  exfalso; omega
 ·replace hq7 := of_decide_eq_false hq7
  refine GC.skip ?_
  refine GE.thenN ?_
  refine GC.seq ?_
  refine GC.seq ?_
  refine GC.region ?_
  refine GL.val (Ex.move rfl) (by decide) ?_
  refine GL.val (v := (.bool (decide ((a / 8388608 % 256) = 0)))) (Ex.eql rfl rfl) (by decide) ?_
  refine GL.nil ?_
  refine GE.thenN ?_
  refine GC.cond rfl (fun hq8 => ?_) (fun hq8 => ?_)
  ·replace hq8 := of_decide_eq_true hq8
   refine GC.seq ?_
   refine GC.drawP [⟨bq2, [(.int .i64 0), (.bool false), (.slice none 0 0), (.int .i64 0), (.bool false)], 38, true⟩, ⟨bq1, [(.int .i64 23), (.int .i64 8)], 67, true⟩] T.mixed (by kernel_rfl) (by kernel_rfl) (fuel := 7) rfl rfl ?_
   refine GH.take 0 (v := (.bool (decide ((a / 2147483648 % 2) = 1)))) rfl (by kernel_rfl) (by kernel_rfl) (by kernel_rfl) (fun _ _ _ h => h) (Ex.move rfl) (ulC (ulC ulN)) (by decide) ?_
   refine GH.take 1 (v := (.int .u64 (a % 8388608))) rfl (by kernel_rfl) (by kernel_rfl) (by kernel_rfl) (fun _ _ _ h => h) (Ex.move rfl) (ulC (ulC ulN)) (by decide) ?_
   refine GH.take 3 (v := (.agg #[(.int .i64 23), (.int .i64 8)])) rfl (by kernel_rfl) (by kernel_rfl) (by kernel_rfl) (fun _ _ _ h => h) (Ex.loadA rfl T.ag67 T.sz67 (i := 1) rfl (vs := [(.int .i64 23), (.int .i64 8)]) rfl rfl) (ulC (ulC ulN)) (by decide) ?_
   refine GH.one 2 rfl (by kernel_rfl) (Stp.callR (vs := [(.int .u64 (a % 8388608))]) rfl rfl T.own62 (by decide) (fun wc hw => natof_r (a % 8388608) wc (by omega))) (fun _ => (ulS (ulC (ulC ulN)))) (fun xq9 hq10 => ?_)
   refine GH.one 4 rfl (by kernel_rfl) (Stp.callR (vs := [(.agg #[(.int .i64 23), (.int .i64 8)])]) rfl rfl T.own83 (by decide) (fun wc hw => j83_2  wc )) (fun _ => (ulS (ulC (ulC ulN)))) (fun xq11 hq12 => ?_)
   refine GH.take 5 (v := (.int .i64 (-149))) rfl (by kernel_rfl) (by kernel_rfl) (by kernel_rfl) (fun _ _ _ h => h) (Ex.sub' rfl rfl (Z := -149) (by decide)) (ulS (ulC (ulC ulN))) (by decide) ?_
   refine GH.take 6 (v := (.agg #[(.int .i64 2), (.bool (decide ((a / 2147483648 % 2) = 1))), (.slice (some ⟨xq9, 0, none⟩) ((if a % 8388608 = 0 then 0 else 1)) 2), (.int .i64 (-149)), (.bool false)])) rfl (by kernel_rfl) (by kernel_rfl) (by kernel_rfl) (fun _ _ _ h => h) (Ex.build (vs := [(0, (.int .i64 2)), (1, (.bool (decide ((a / 2147483648 % 2) = 1)))), (2, (.slice (some ⟨xq9, 0, none⟩) ((if a % 8388608 = 0 then 0 else 1)) 2)), (3, (.int .i64 (-149)))]) rfl (by first | rfl | kernel_rfl)) (ulS (ulC (ulC ulN))) (by decide) ?_
   refine GH.done (by kernel_rfl) ?_
   refine GE.thenN ?_
   refine GE.tail rfl (Stp.st1 (cs' := [(.int .i64 2), (.bool (decide ((a / 2147483648 % 2) = 1))), (.slice (some ⟨xq9, 0, none⟩) ((if a % 8388608 = 0 then 0 else 1)) 2), (.int .i64 (-149)), (.bool false)]) rfl rfl rfl T.sz38 rfl rfl rfl) (fun _ _ => ?_)
   refine GE.thenN ?_
   refine GC.ret ?_
   refine GE.thenR ?_
   refine GC.ret1 rfl (Rv.cellA rfl T.ag38 T.sz38 (L := _) (i := 1) rfl (vs := [(.int .i64 2), (.bool (decide ((a / 2147483648 % 2) = 1))), (.slice (some ⟨xq9, 0, none⟩) ((if a % 8388608 = 0 then 0 else 1)) 2), (.int .i64 (-149)), (.bool false)]) rfl rfl) (fun wN HN => ?_)
   have ex : a % 8388608 = 0 := by omega
   rw [ex] at HN
   exact HN.ret xq9 trivial (by rw [ex]; rfl) (ulC (ulS (ulS ulN))) rfl
  ·replace hq8 := of_decide_eq_false hq8
   exfalso; omega

set_option maxRecDepth 100000 in
set_option maxHeartbeats 1000000 in
theorem trim_g (b L V : Nat) (w : World) (hL : L ≤ 1000000) (hV : V < Nd.Bs ^ L) (hh : Has w [⟨b, (Nd.dl L V).map u32, 23, false⟩]) :
  Calls Try.prog 63 #[(.slice (some ⟨b, 0, none⟩) L L)] w (Ret w (fun _ : Unit => True) (fun _ => (.slice (some ⟨b, 0, none⟩) ((Nd.nd V)) L)) (fun _ => [])) := by
 refine enter (M := None) (L := [⟨b, (Nd.dl L V).map u32, 23, false⟩]) (n := 21) (l := [(0, (.slice (some ⟨b, 0, none⟩) L L))]) Try.func63 rfl rfl (Args.cons rfl (Args.nil _)) (Hp.reads hh rfl) ?_
 refine GC.seq ?_
 refine GC.region ?_
 refine GL.val (Ex.assign rfl) (by decide) ?_
 refine GL.nil ?_
 refine GE.thenN ?_
 refine GC.seq ?_
 refine GC.region ?_
 refine GL.val (Ex.move rfl) (by decide) ?_
 refine GL.val (v := (.int .i64 ((L : Int)))) (Ex.len rfl Try.underlying36) (by decide) ?_
 refine GL.val (Ex.assign rfl) (by decide) ?_
 refine GL.nil ?_
 refine GE.thenN ?_
 refine GC.seq ?_
 refine GC.block ?_
 refine GC.loop (σ := Nat) (fun n => n ≤ L ∧ V < Nd.Bs ^ n) (fun n => [(0, (.slice (some ⟨b, 0, none⟩) L L)), (2, (.slice none 0 0)), (3, (.int .i64 (((n : Nat) : Int))))]) (fun n => [⟨b, (Nd.dl L V).map u32, 23, false⟩]) (fun n => n) (L) ⟨Nat.le_refl _, hV⟩ ((sub_cons rfl ((sub_cons rfl ((sub_cons rfl ((sub_nil _)))))))) (ulC ulN) (fun n hp => ?_)
 have hpn : n ≤ L ∧ V < Nd.Bs ^ n := hp
 refine GC.seq ?_
 refine GC.seq ?_
 refine GC.region ?_
 refine GL.val (Ex.move rfl) (by decide) ?_
 by_cases hq1 : 0 < (((n : Nat) : Int))
 ·refine GL.val (v := (.bool true)) (Ex.cast (Ex.gtr rfl rfl) (congrArg Value.bool (decide_eq_true hq1))) (by decide) ?_
  refine GL.val (Ex.move rfl) (by decide) ?_
  refine GL.stepG (tj := 8) rfl rfl (Ex.wp (v := (.slice (some ⟨b, 0, none⟩) L L)) (Ex.move rfl) (by decide)) (fun _ _ => ?_)
  refine GL.stepG (tj := 8) rfl rfl (Ex.wp (v := (.int .i64 (((n : Nat) : Int)))) (Ex.move rfl) (by decide)) (fun _ _ => ?_)
  refine GL.stepG (tj := 8) rfl rfl (Ex.wp (v := (.int .i64 (((n - 1 : Nat) : Int)))) (Ex.sub' rfl rfl (Z := ((n - 1 : Nat) : Int)) (subN (b := 1) (by omega) (by omega))) (by decide)) (fun _ _ => ?_)
  refine GL.stepG (tj := 8) rfl rfl (Ex.wp (v := (.pointer (some ⟨b, n - 1, none⟩))) (Ex.cast (Ex.indexAddr rfl rfl Try.underlying36 T.sz23 (by omega) (by omega)) (by simp only [Int.toNat_natCast, Nat.mul_one, Nat.zero_add])) (by decide)) (fun _ _ => ?_)
  refine GL.stepG (tj := 8) rfl rfl (Ex.wp (v := (.int .u32 (((Nd.D V (n - 1) : Nat) : Int)))) (Ex.load rfl T.ag23 (i := 0) rfl (Nd.dl_cell' (by omega))) (by decide)) (fun _ _ => ?_)
  refine GL.stepG (tj := 8) rfl rfl (Ex.wp (v := (.bool (decide ((((Nd.D V (n - 1) : Nat) : Int)) = 0)))) (Ex.eql rfl rfl) (by decide)) (fun _ _ => ?_)
  refine GL.val (v := (.bool (decide ((((Nd.D V (n - 1) : Nat) : Int)) = 0)))) (Ex.pickT rfl rfl) (by decide) ?_
  refine GL.nil ?_
  refine GE.thenN ?_
  refine GC.cond rfl (fun hq2 => ?_) (fun hq2 => ?_)
  ·replace hq2 := of_decide_eq_true hq2
   refine GC.skip ?_
   refine GE.thenN ?_
   refine GC.block ?_
   refine GC.region ?_
   refine GL.val (Ex.move rfl) (by decide) ?_
   refine GL.val (v := (.int .i64 (((n - 1 : Nat) : Int)))) (Ex.sub' rfl rfl (Z := ((n - 1 : Nat) : Int)) (subN (b := 1) (by omega) (by omega))) (by decide) ?_
   refine GL.val (Ex.assign rfl) (by decide) ?_
   refine GL.nil ?_
   refine GE.blockN ?_
   refine GE.thenN ?_
   exact Head.mk (n - 1) ⟨(by omega), Nd.shrink' (by omega) hpn.2 (by omega)⟩ (by omega) ((sub_cons rfl ((sub_cons rfl ((sub_cons rfl ((sub_nil _)))))))) (ulC ulN)
  ·replace hq2 := of_decide_eq_false hq2
   refine GC.exit ?_
   refine GE.thenE ?_
   refine GE.thenE ?_
   refine GE.blockE ?_
   refine GE.thenN ?_
   refine GC.seq ?_
   refine GC.region ?_
   refine GL.val (Ex.move rfl) (by decide) ?_
   refine GL.val (Ex.move rfl) (by decide) ?_
   refine GL.val (v := (.slice (some ⟨b, 0, none⟩) n L)) (Ex.sliceH (m := n) rfl rfl Try.underlying36 T.sz23 rfl (by omega)) (by decide) ?_
   refine GL.val (Ex.assign rfl) (by decide) ?_
   refine GL.nil ?_
   refine GE.thenN ?_
   refine GC.ret ?_
   refine GC.ret1 rfl (Rv.tmp rfl) (fun wN HN => ?_)
   exact HN.ret () trivial (by rw [show Nd.nd V = n from Nd.nd_is hpn.2 (by omega)]) (List.nil_sublist _) rfl
 ·refine GL.val (v := (.bool false)) (Ex.cast (Ex.gtr rfl rfl) (congrArg Value.bool (decide_eq_false hq1))) (by decide) ?_
  refine GL.val (Ex.move rfl) (by decide) ?_
  refine GL.skipG (tj := 8) rfl rfl rfl (by decide) ?_
  refine GL.skipG (tj := 8) rfl rfl rfl (by decide) ?_
  refine GL.skipG (tj := 8) rfl rfl rfl (by decide) ?_
  refine GL.skipG (tj := 8) rfl rfl rfl (by decide) ?_
  refine GL.skipG (tj := 8) rfl rfl rfl (by decide) ?_
  refine GL.skipG (tj := 8) rfl rfl rfl (by decide) ?_
  refine GL.val (v := (.bool false)) (Ex.pickF rfl rfl) (by decide) ?_
  refine GL.nil ?_
  refine GE.thenN ?_
  refine GC.cond rfl (fun hq3 => by cases hq3) (fun _ => ?_)
  refine GC.exit ?_
  refine GE.thenE ?_
  refine GE.thenE ?_
  refine GE.blockE ?_
  refine GE.thenN ?_
  refine GC.seq ?_
  refine GC.region ?_
  refine GL.val (Ex.move rfl) (by decide) ?_
  refine GL.val (Ex.move rfl) (by decide) ?_
  refine GL.val (v := (.slice (some ⟨b, 0, none⟩) n L)) (Ex.sliceH (m := n) rfl rfl Try.underlying36 T.sz23 rfl (by omega)) (by decide) ?_
  refine GL.val (Ex.assign rfl) (by decide) ?_
  refine GL.nil ?_
  refine GE.thenN ?_
  refine GC.ret ?_
  refine GC.ret1 rfl (Rv.tmp rfl) (fun wN HN => ?_)
  exact HN.ret () trivial (by rw [show Nd.nd V = n from Nd.nd_is hpn.2 (by omega)]) (List.nil_sublist _) rfl

set_option maxRecDepth 100000 in
set_option maxHeartbeats 1000000 in
theorem cmp_bb (x bx cx : Nat) (z bz cz : Nat) (w : World) (hrx : Nd.Nb w bx x) (hnx : Nd.nd x ≤ 1000) (hrz : Nd.Nb w bz z) (hnz : Nd.nd z ≤ 1000) :
  Calls Try.prog 60 #[(.slice (some ⟨bx, 0, none⟩) ((Nd.nd x)) cx), (.slice (some ⟨bz, 0, none⟩) ((Nd.nd z)) cz)] w (Ret w (fun _ : Unit => True) (fun _ => (.int .i64 ((if x < z then (-1 : Int) else if x = z then 0 else 1)))) (fun _ => [])) := by
 have h00 : Nd.nd 0 = 0 := rfl
 refine enter (M := None) (L := []) (n := 41) (l := [(0, (.slice (some ⟨bx, 0, none⟩) ((Nd.nd x)) cx)), (1, (.slice (some ⟨bz, 0, none⟩) ((Nd.nd z)) cz))]) Try.func60 rfl rfl (Args.cons rfl (Args.cons rfl (Args.nil _))) (Hp.start _ _) ?_
 refine GC.seq ?_
 refine GC.region ?_
 refine GL.val (Ex.assign rfl) (by decide) ?_
 refine GL.nil ?_
 refine GE.thenN ?_
 refine GC.seq ?_
 refine GC.seq ?_
 refine GC.region ?_
 refine GL.val (Ex.move rfl) (by decide) ?_
 refine GL.val (v := (.int .i64 ((((Nd.nd x)) : Int)))) (Ex.len rfl Try.underlying36) (by decide) ?_
 refine GL.val (Ex.move rfl) (by decide) ?_
 refine GL.val (v := (.int .i64 ((((Nd.nd z)) : Int)))) (Ex.len rfl Try.underlying36) (by decide) ?_
 refine GL.val (v := (.bool (decide (((((Nd.nd x)) : Int)) ≠ ((((Nd.nd z)) : Int)))))) (Ex.neq rfl rfl) (by decide) ?_
 refine GL.nil ?_
 refine GE.thenN ?_
 refine GC.cond rfl (fun hq1 => ?_) (fun hq1 => ?_)
 ·replace hq1 := of_decide_eq_true hq1
  refine GC.seq ?_
  refine GC.seq ?_
  refine GC.region ?_
  refine GL.val (Ex.move rfl) (by decide) ?_
  refine GL.val (v := (.int .i64 ((((Nd.nd x)) : Int)))) (Ex.len rfl Try.underlying36) (by decide) ?_
  refine GL.val (Ex.move rfl) (by decide) ?_
  refine GL.val (v := (.int .i64 ((((Nd.nd z)) : Int)))) (Ex.len rfl Try.underlying36) (by decide) ?_
  refine GL.val (v := (.bool (decide (((((Nd.nd x)) : Int)) < ((((Nd.nd z)) : Int)))))) (Ex.lss rfl rfl) (by decide) ?_
  refine GL.nil ?_
  refine GE.thenN ?_
  refine GC.cond rfl (fun hq2 => ?_) (fun hq2 => ?_)
  ·replace hq2 := of_decide_eq_true hq2
   refine GC.seq ?_
   refine GC.region ?_
   refine GL.val (Ex.assign rfl) (by decide) ?_
   refine GL.nil ?_
   refine GE.thenN ?_
   refine GC.ret ?_
   refine GE.thenR ?_
   refine GE.thenR ?_
   refine GC.ret1 rfl (Rv.tmp rfl) (fun wN HN => ?_)
   exact HN.ret () trivial (congrArg (Value.int .i64) (Nd.cmp_lens1 (by omega))) (List.nil_sublist _) rfl
  ·replace hq2 := of_decide_eq_false hq2
   refine GC.skip ?_
   refine GE.thenN ?_
   refine GC.seq ?_
   refine GC.region ?_
   refine GL.val (Ex.assign rfl) (by decide) ?_
   refine GL.nil ?_
   refine GE.thenN ?_
   refine GC.ret ?_
   refine GE.thenR ?_
   refine GC.ret1 rfl (Rv.tmp rfl) (fun wN HN => ?_)
   exact HN.ret () trivial (congrArg (Value.int .i64) (Nd.cmp_lens2 (by omega))) (List.nil_sublist _) rfl
 ·replace hq1 := of_decide_eq_false hq1
  have hlen : (Nd.nd x) = (Nd.nd z) := by omega
  refine GC.skip ?_
  refine GE.thenN ?_
  refine GC.seq ?_
  refine GC.seq ?_
  refine GC.region ?_
  refine GL.val (Ex.move rfl) (by decide) ?_
  refine GL.val (v := (.int .i64 ((((Nd.nd x)) : Int)))) (Ex.len rfl Try.underlying36) (by decide) ?_
  refine GL.val (v := (.int .i64 (((((Nd.nd x) : Nat) : Int) - 1)))) (Ex.sub' rfl rfl (Z := ((((Nd.nd x) : Nat) : Int) - 1)) (w64 (by omega))) (by decide) ?_
  refine GL.val (Ex.assign rfl) (by decide) ?_
  refine GL.nil ?_
  refine GE.thenN ?_
  refine GC.block ?_
  refine GC.loop (σ := Nat) (fun q => q ≤ (Nd.nd x) ∧ x / Nd.Bs ^ q = z / Nd.Bs ^ q) (fun q => [(0, (.slice (some ⟨bx, 0, none⟩) ((Nd.nd x)) cx)), (1, (.slice (some ⟨bz, 0, none⟩) ((Nd.nd z)) cz)), (4, (.int .i64 0)), (5, (.int .i64 ((((q : Nat) : Int) - 1))))]) (fun q => []) (fun q => q) ((Nd.nd x)) ⟨Nat.le_refl _, Nd.top_eq hlen⟩ ((sub_cons rfl ((sub_cons rfl ((sub_cons rfl ((sub_cons rfl ((sub_nil _)))))))))) ulN (fun q hp => ?_)
  have hpq : q ≤ (Nd.nd x) ∧ x / Nd.Bs ^ q = z / Nd.Bs ^ q := hp
  refine GC.seq ?_
  refine GC.seq ?_
  refine GC.region ?_
  refine GL.val (Ex.move rfl) (by decide) ?_
  refine GL.val (v := (.bool (decide (0 ≤ ((((q : Nat) : Int) - 1)))))) (Ex.geq rfl rfl) (by decide) ?_
  refine GL.nil ?_
  refine GE.thenN ?_
  refine GC.cond rfl (fun hq3 => ?_) (fun hq3 => ?_)
  ·replace hq3 := of_decide_eq_true hq3
   obtain ⟨i, hi⟩ : ∃ i, q = i + 1 := ⟨q - 1, by omega⟩
   have hq1 : x / Nd.Bs ^ (i + 1) = z / Nd.Bs ^ (i + 1) := by rw [← hi]; exact hpq.2
   rw [show ((q : Nat) : Int) - 1 = ((i : Nat) : Int) by omega]
   refine GC.skip ?_
   refine GE.thenN ?_
   refine GC.seq ?_
   refine GC.block ?_
   refine GC.seq ?_
   refine GC.draw [] T.mixed (fuel := 9) rfl rfl ?_
   refine GH.take 0 (v := (.slice (some ⟨bx, 0, none⟩) ((Nd.nd x)) cx)) rfl (by kernel_rfl) (by kernel_rfl) (by kernel_rfl) (fun _ _ _ h => h) (Ex.move rfl) ulN (by decide) ?_
   refine GH.take 1 (v := (.int .i64 (((i : Nat) : Int)))) rfl (by kernel_rfl) (by kernel_rfl) (by kernel_rfl) (fun _ _ _ h => h) (Ex.move rfl) ulN (by decide) ?_
   refine GH.take 2 (v := (.pointer (some ⟨bx, i, none⟩))) rfl (by kernel_rfl) (by kernel_rfl) (by kernel_rfl) (fun _ _ _ h => h) (Ex.cast (Ex.indexAddr rfl rfl Try.underlying36 T.sz23 (by omega) (by omega)) (by simp)) ulN (by decide) ?_
   refine GH.take 3 (v := (.int .u32 (((Nd.D x i : Nat) : Int)))) rfl (by kernel_rfl) (by kernel_rfl) (by kernel_rfl) (fun _ _ _ h => h) (Ex.loadO rfl T.ag23 (Nd.Nb.dig hrx (by omega)) (fun x => x)) ulN (by decide) ?_
   refine GH.take 4 (v := (.slice (some ⟨bz, 0, none⟩) ((Nd.nd z)) cz)) rfl (by kernel_rfl) (by kernel_rfl) (by kernel_rfl) (fun _ _ _ h => h) (Ex.move rfl) ulN (by decide) ?_
   refine GH.take 5 (v := (.int .i64 (((i : Nat) : Int)))) rfl (by kernel_rfl) (by kernel_rfl) (by kernel_rfl) (fun _ _ _ h => h) (Ex.move rfl) ulN (by decide) ?_
   refine GH.take 6 (v := (.pointer (some ⟨bz, i, none⟩))) rfl (by kernel_rfl) (by kernel_rfl) (by kernel_rfl) (fun _ _ _ h => h) (Ex.cast (Ex.indexAddr rfl rfl Try.underlying36 T.sz23 (by omega) (by omega)) (by simp)) ulN (by decide) ?_
   refine GH.take 7 (v := (.int .u32 (((Nd.D z i : Nat) : Int)))) rfl (by kernel_rfl) (by kernel_rfl) (by kernel_rfl) (fun _ _ _ h => h) (Ex.loadO rfl T.ag23 (Nd.Nb.dig hrz (by omega)) (fun x => x)) ulN (by decide) ?_
   refine GH.take 8 (v := (.bool (decide ((((Nd.D x i : Nat) : Int)) ≠ (((Nd.D z i : Nat) : Int)))))) rfl (by kernel_rfl) (by kernel_rfl) (by kernel_rfl) (fun _ _ _ h => h) (Ex.neq rfl rfl) ulN (by decide) ?_
   refine GH.done (by kernel_rfl) ?_
   refine GE.thenN ?_
   refine GC.cond rfl (fun hq4 => ?_) (fun hq4 => ?_)
   ·replace hq4 := of_decide_eq_true hq4
    refine GC.seq ?_
    refine GC.seq ?_
    refine GC.draw [] T.mixed (fuel := 9) rfl rfl ?_
    refine GH.take 0 (v := (.slice (some ⟨bx, 0, none⟩) ((Nd.nd x)) cx)) rfl (by kernel_rfl) (by kernel_rfl) (by kernel_rfl) (fun _ _ _ h => h) (Ex.move rfl) ulN (by decide) ?_
    refine GH.take 1 (v := (.int .i64 (((i : Nat) : Int)))) rfl (by kernel_rfl) (by kernel_rfl) (by kernel_rfl) (fun _ _ _ h => h) (Ex.move rfl) ulN (by decide) ?_
    refine GH.take 2 (v := (.pointer (some ⟨bx, i, none⟩))) rfl (by kernel_rfl) (by kernel_rfl) (by kernel_rfl) (fun _ _ _ h => h) (Ex.cast (Ex.indexAddr rfl rfl Try.underlying36 T.sz23 (by omega) (by omega)) (by simp)) ulN (by decide) ?_
    refine GH.take 3 (v := (.int .u32 (((Nd.D x i : Nat) : Int)))) rfl (by kernel_rfl) (by kernel_rfl) (by kernel_rfl) (fun _ _ _ h => h) (Ex.loadO rfl T.ag23 (Nd.Nb.dig hrx (by omega)) (fun x => x)) ulN (by decide) ?_
    refine GH.take 4 (v := (.slice (some ⟨bz, 0, none⟩) ((Nd.nd z)) cz)) rfl (by kernel_rfl) (by kernel_rfl) (by kernel_rfl) (fun _ _ _ h => h) (Ex.move rfl) ulN (by decide) ?_
    refine GH.take 5 (v := (.int .i64 (((i : Nat) : Int)))) rfl (by kernel_rfl) (by kernel_rfl) (by kernel_rfl) (fun _ _ _ h => h) (Ex.move rfl) ulN (by decide) ?_
    refine GH.take 6 (v := (.pointer (some ⟨bz, i, none⟩))) rfl (by kernel_rfl) (by kernel_rfl) (by kernel_rfl) (fun _ _ _ h => h) (Ex.cast (Ex.indexAddr rfl rfl Try.underlying36 T.sz23 (by omega) (by omega)) (by simp)) ulN (by decide) ?_
    refine GH.take 7 (v := (.int .u32 (((Nd.D z i : Nat) : Int)))) rfl (by kernel_rfl) (by kernel_rfl) (by kernel_rfl) (fun _ _ _ h => h) (Ex.loadO rfl T.ag23 (Nd.Nb.dig hrz (by omega)) (fun x => x)) ulN (by decide) ?_
    refine GH.take 8 (v := (.bool (decide ((((Nd.D x i : Nat) : Int)) < (((Nd.D z i : Nat) : Int)))))) rfl (by kernel_rfl) (by kernel_rfl) (by kernel_rfl) (fun _ _ _ h => h) (Ex.lss rfl rfl) ulN (by decide) ?_
    refine GH.done (by kernel_rfl) ?_
    refine GE.thenN ?_
    refine GC.cond rfl (fun hq5 => ?_) (fun hq5 => ?_)
    ·replace hq5 := of_decide_eq_true hq5
     refine GC.seq ?_
     refine GC.region ?_
     refine GL.val (Ex.assign rfl) (by decide) ?_
     refine GL.nil ?_
     refine GE.thenN ?_
     refine GC.ret ?_
     refine GE.thenR ?_
     refine GE.blockR ?_
     refine GE.thenR ?_
     refine GE.thenR ?_
     refine GE.blockR ?_
     refine GE.thenR ?_
     refine GC.ret1 rfl (Rv.tmp rfl) (fun wN HN => ?_)
     exact HN.ret () trivial (congrArg (Value.int .i64) (Nd.cmp_lt (Nd.cmp_dig hq1 (by omega)))) (List.nil_sublist _) rfl
    ·replace hq5 := of_decide_eq_false hq5
     refine GC.skip ?_
     refine GE.thenN ?_
     refine GC.seq ?_
     refine GC.region ?_
     refine GL.val (Ex.assign rfl) (by decide) ?_
     refine GL.nil ?_
     refine GE.thenN ?_
     refine GC.ret ?_
     refine GE.blockR ?_
     refine GE.thenR ?_
     refine GE.thenR ?_
     refine GE.blockR ?_
     refine GE.thenR ?_
     refine GC.ret1 rfl (Rv.tmp rfl) (fun wN HN => ?_)
     exact HN.ret () trivial (congrArg (Value.int .i64) (Nd.cmp_gt (Nd.cmp_dig hq1.symm (by omega)))) (List.nil_sublist _) rfl
   ·replace hq4 := of_decide_eq_false hq4
    refine GC.skip ?_
    refine GE.blockN ?_
    refine GE.thenN ?_
    refine GC.region ?_
    refine GL.val (Ex.move rfl) (by decide) ?_
    refine GL.val (v := (.int .i64 ((((i : Nat) : Int) - 1)))) (Ex.sub' rfl rfl (Z := (((i : Nat) : Int) - 1)) (w64 (by omega))) (by decide) ?_
    refine GL.val (Ex.assign rfl) (by decide) ?_
    refine GL.nil ?_
    refine GE.thenN ?_
    exact Head.mk (i) ⟨(by omega), Nd.cmp_step hq1 (by omega)⟩ (by omega) ((sub_cons rfl ((sub_cons rfl ((sub_cons rfl ((sub_cons rfl ((sub_nil _)))))))))) ulN
  ·replace hq3 := of_decide_eq_false hq3
   refine GC.exit ?_
   refine GE.thenE ?_
   refine GE.thenE ?_
   refine GE.blockE ?_
   refine GE.thenN ?_
   refine GC.seq ?_
   refine GC.region ?_
   refine GL.val (Ex.assign rfl) (by decide) ?_
   refine GL.nil ?_
   refine GE.thenN ?_
   refine GC.ret ?_
   refine GC.ret1 rfl (Rv.tmp rfl) (fun wN HN => ?_)
   exact HN.ret () trivial (congrArg (Value.int .i64) (Nd.cmp_same (show x = z by have := hpq.2; rw [show q = 0 by omega] at this; simpa using this))) (List.nil_sublist _) rfl

set_option maxRecDepth 100000 in
set_option maxHeartbeats 1000000 in
theorem cmp_nb (adx : Option Addr) (cx : Nat) (z bz cz : Nat) (w : World)  (hrz : Nd.Nb w bz z) (hnz : Nd.nd z ≤ 1000) :
  Calls Try.prog 60 #[(.slice adx 0 cx), (.slice (some ⟨bz, 0, none⟩) ((Nd.nd z)) cz)] w (Ret w (fun _ : Unit => True) (fun _ => (.int .i64 ((if 0 < z then (-1 : Int) else if 0 = z then 0 else 1)))) (fun _ => [])) := by
 have h00 : Nd.nd 0 = 0 := rfl
 refine enter (M := None) (L := []) (n := 41) (l := [(0, (.slice adx 0 cx)), (1, (.slice (some ⟨bz, 0, none⟩) ((Nd.nd z)) cz))]) Try.func60 rfl rfl (Args.cons rfl (Args.cons rfl (Args.nil _))) (Hp.start _ _) ?_
 refine GC.seq ?_
 refine GC.region ?_
 refine GL.val (Ex.assign rfl) (by decide) ?_
 refine GL.nil ?_
 refine GE.thenN ?_
 refine GC.seq ?_
 refine GC.seq ?_
 refine GC.region ?_
 refine GL.val (Ex.move rfl) (by decide) ?_
 refine GL.val (v := (.int .i64 0)) (Ex.len rfl Try.underlying36) (by decide) ?_
 refine GL.val (Ex.move rfl) (by decide) ?_
 refine GL.val (v := (.int .i64 ((((Nd.nd z)) : Int)))) (Ex.len rfl Try.underlying36) (by decide) ?_
 refine GL.val (v := (.bool (decide (0 ≠ ((((Nd.nd z)) : Int)))))) (Ex.neq rfl rfl) (by decide) ?_
 refine GL.nil ?_
 refine GE.thenN ?_
 refine GC.cond rfl (fun hq1 => ?_) (fun hq1 => ?_)
 ·replace hq1 := of_decide_eq_true hq1
  refine GC.seq ?_
  refine GC.seq ?_
  refine GC.region ?_
  refine GL.val (Ex.move rfl) (by decide) ?_
  refine GL.val (v := (.int .i64 0)) (Ex.len rfl Try.underlying36) (by decide) ?_
  refine GL.val (Ex.move rfl) (by decide) ?_
  refine GL.val (v := (.int .i64 ((((Nd.nd z)) : Int)))) (Ex.len rfl Try.underlying36) (by decide) ?_
  refine GL.val (v := (.bool (decide (0 < ((((Nd.nd z)) : Int)))))) (Ex.lss rfl rfl) (by decide) ?_
  refine GL.nil ?_
  refine GE.thenN ?_
  refine GC.cond rfl (fun hq2 => ?_) (fun hq2 => ?_)
  ·replace hq2 := of_decide_eq_true hq2
   refine GC.seq ?_
   refine GC.region ?_
   refine GL.val (Ex.assign rfl) (by decide) ?_
   refine GL.nil ?_
   refine GE.thenN ?_
   refine GC.ret ?_
   refine GE.thenR ?_
   refine GE.thenR ?_
   refine GC.ret1 rfl (Rv.tmp rfl) (fun wN HN => ?_)
   exact HN.ret () trivial (congrArg (Value.int .i64) (Nd.cmp_lens1 (by omega))) (List.nil_sublist _) rfl
  ·replace hq2 := of_decide_eq_false hq2
   refine GC.skip ?_
   refine GE.thenN ?_
   refine GC.seq ?_
   refine GC.region ?_
   refine GL.val (Ex.assign rfl) (by decide) ?_
   refine GL.nil ?_
   refine GE.thenN ?_
   refine GC.ret ?_
   refine GE.thenR ?_
   refine GC.ret1 rfl (Rv.tmp rfl) (fun wN HN => ?_)
   exact HN.ret () trivial (congrArg (Value.int .i64) (Nd.cmp_lens2 (by omega))) (List.nil_sublist _) rfl
 ·replace hq1 := of_decide_eq_false hq1
  have hlen : (Nd.nd 0) = (Nd.nd z) := by omega
  refine GC.skip ?_
  refine GE.thenN ?_
  refine GC.seq ?_
  refine GC.seq ?_
  refine GC.region ?_
  refine GL.val (Ex.move rfl) (by decide) ?_
  refine GL.val (v := (.int .i64 0)) (Ex.len rfl Try.underlying36) (by decide) ?_
  refine GL.val (v := (.int .i64 (((((Nd.nd 0) : Nat) : Int) - 1)))) (Ex.sub' rfl rfl (Z := ((((Nd.nd 0) : Nat) : Int) - 1)) (w64 (by omega))) (by decide) ?_
  refine GL.val (Ex.assign rfl) (by decide) ?_
  refine GL.nil ?_
  refine GE.thenN ?_
  refine GC.block ?_
  refine GC.loop (σ := Nat) (fun q => q ≤ (Nd.nd 0) ∧ 0 / Nd.Bs ^ q = z / Nd.Bs ^ q) (fun q => [(0, (.slice adx 0 cx)), (1, (.slice (some ⟨bz, 0, none⟩) ((Nd.nd z)) cz)), (4, (.int .i64 0)), (5, (.int .i64 ((((q : Nat) : Int) - 1))))]) (fun q => []) (fun q => q) ((Nd.nd 0)) ⟨Nat.le_refl _, Nd.top_eq hlen⟩ ((sub_cons rfl ((sub_cons rfl ((sub_cons rfl ((sub_cons rfl ((sub_nil _)))))))))) ulN (fun q hp => ?_)
  have hpq : q ≤ (Nd.nd 0) ∧ 0 / Nd.Bs ^ q = z / Nd.Bs ^ q := hp
  refine GC.seq ?_
  refine GC.seq ?_
  refine GC.region ?_
  refine GL.val (Ex.move rfl) (by decide) ?_
  refine GL.val (v := (.bool (decide (0 ≤ ((((q : Nat) : Int) - 1)))))) (Ex.geq rfl rfl) (by decide) ?_
  refine GL.nil ?_
  refine GE.thenN ?_
  refine GC.cond rfl (fun hq3 => ?_) (fun hq3 => ?_)
  ·replace hq3 := of_decide_eq_true hq3
   exfalso; omega
  ·replace hq3 := of_decide_eq_false hq3
   refine GC.exit ?_
   refine GE.thenE ?_
   refine GE.thenE ?_
   refine GE.blockE ?_
   refine GE.thenN ?_
   refine GC.seq ?_
   refine GC.region ?_
   refine GL.val (Ex.assign rfl) (by decide) ?_
   refine GL.nil ?_
   refine GE.thenN ?_
   refine GC.ret ?_
   refine GC.ret1 rfl (Rv.tmp rfl) (fun wN HN => ?_)
   exact HN.ret () trivial (congrArg (Value.int .i64) (Nd.cmp_same (show 0 = z by have := hpq.2; rw [show q = 0 by omega] at this; simpa using this))) (List.nil_sublist _) rfl

set_option maxRecDepth 100000 in
set_option maxHeartbeats 1000000 in
theorem cmp_bn (x bx cx : Nat) (adz : Option Addr) (cz : Nat) (w : World) (hrx : Nd.Nb w bx x) (hnx : Nd.nd x ≤ 1000)  :
  Calls Try.prog 60 #[(.slice (some ⟨bx, 0, none⟩) ((Nd.nd x)) cx), (.slice adz 0 cz)] w (Ret w (fun _ : Unit => True) (fun _ => (.int .i64 ((if x < 0 then (-1 : Int) else if x = 0 then 0 else 1)))) (fun _ => [])) := by
 have h00 : Nd.nd 0 = 0 := rfl
 refine enter (M := None) (L := []) (n := 41) (l := [(0, (.slice (some ⟨bx, 0, none⟩) ((Nd.nd x)) cx)), (1, (.slice adz 0 cz))]) Try.func60 rfl rfl (Args.cons rfl (Args.cons rfl (Args.nil _))) (Hp.start _ _) ?_
 refine GC.seq ?_
 refine GC.region ?_
 refine GL.val (Ex.assign rfl) (by decide) ?_
 refine GL.nil ?_
 refine GE.thenN ?_
 refine GC.seq ?_
 refine GC.seq ?_
 refine GC.region ?_
 refine GL.val (Ex.move rfl) (by decide) ?_
 refine GL.val (v := (.int .i64 ((((Nd.nd x)) : Int)))) (Ex.len rfl Try.underlying36) (by decide) ?_
 refine GL.val (Ex.move rfl) (by decide) ?_
 refine GL.val (v := (.int .i64 0)) (Ex.len rfl Try.underlying36) (by decide) ?_
 refine GL.val (v := (.bool (decide (((((Nd.nd x)) : Int)) ≠ 0)))) (Ex.neq rfl rfl) (by decide) ?_
 refine GL.nil ?_
 refine GE.thenN ?_
 refine GC.cond rfl (fun hq1 => ?_) (fun hq1 => ?_)
 ·replace hq1 := of_decide_eq_true hq1
  refine GC.seq ?_
  refine GC.seq ?_
  refine GC.region ?_
  refine GL.val (Ex.move rfl) (by decide) ?_
  refine GL.val (v := (.int .i64 ((((Nd.nd x)) : Int)))) (Ex.len rfl Try.underlying36) (by decide) ?_
  refine GL.val (Ex.move rfl) (by decide) ?_
  refine GL.val (v := (.int .i64 0)) (Ex.len rfl Try.underlying36) (by decide) ?_
  refine GL.val (v := (.bool (decide (((((Nd.nd x)) : Int)) < 0)))) (Ex.lss rfl rfl) (by decide) ?_
  refine GL.nil ?_
  refine GE.thenN ?_
  refine GC.cond rfl (fun hq2 => ?_) (fun hq2 => ?_)
  ·replace hq2 := of_decide_eq_true hq2
   refine GC.seq ?_
   refine GC.region ?_
   refine GL.val (Ex.assign rfl) (by decide) ?_
   refine GL.nil ?_
   refine GE.thenN ?_
   refine GC.ret ?_
   refine GE.thenR ?_
   refine GE.thenR ?_
   refine GC.ret1 rfl (Rv.tmp rfl) (fun wN HN => ?_)
   exact HN.ret () trivial (congrArg (Value.int .i64) (Nd.cmp_lens1 (by omega))) (List.nil_sublist _) rfl
  ·replace hq2 := of_decide_eq_false hq2
   refine GC.skip ?_
   refine GE.thenN ?_
   refine GC.seq ?_
   refine GC.region ?_
   refine GL.val (Ex.assign rfl) (by decide) ?_
   refine GL.nil ?_
   refine GE.thenN ?_
   refine GC.ret ?_
   refine GE.thenR ?_
   refine GC.ret1 rfl (Rv.tmp rfl) (fun wN HN => ?_)
   exact HN.ret () trivial (congrArg (Value.int .i64) (Nd.cmp_lens2 (by omega))) (List.nil_sublist _) rfl
 ·replace hq1 := of_decide_eq_false hq1
  have hlen : (Nd.nd x) = (Nd.nd 0) := by omega
  refine GC.skip ?_
  refine GE.thenN ?_
  refine GC.seq ?_
  refine GC.seq ?_
  refine GC.region ?_
  refine GL.val (Ex.move rfl) (by decide) ?_
  refine GL.val (v := (.int .i64 ((((Nd.nd x)) : Int)))) (Ex.len rfl Try.underlying36) (by decide) ?_
  refine GL.val (v := (.int .i64 (((((Nd.nd x) : Nat) : Int) - 1)))) (Ex.sub' rfl rfl (Z := ((((Nd.nd x) : Nat) : Int) - 1)) (w64 (by omega))) (by decide) ?_
  refine GL.val (Ex.assign rfl) (by decide) ?_
  refine GL.nil ?_
  refine GE.thenN ?_
  refine GC.block ?_
  refine GC.loop (σ := Nat) (fun q => q ≤ (Nd.nd x) ∧ x / Nd.Bs ^ q = 0 / Nd.Bs ^ q) (fun q => [(0, (.slice (some ⟨bx, 0, none⟩) ((Nd.nd x)) cx)), (1, (.slice adz 0 cz)), (4, (.int .i64 0)), (5, (.int .i64 ((((q : Nat) : Int) - 1))))]) (fun q => []) (fun q => q) ((Nd.nd x)) ⟨Nat.le_refl _, Nd.top_eq hlen⟩ ((sub_cons rfl ((sub_cons rfl ((sub_cons rfl ((sub_cons rfl ((sub_nil _)))))))))) ulN (fun q hp => ?_)
  have hpq : q ≤ (Nd.nd x) ∧ x / Nd.Bs ^ q = 0 / Nd.Bs ^ q := hp
  refine GC.seq ?_
  refine GC.seq ?_
  refine GC.region ?_
  refine GL.val (Ex.move rfl) (by decide) ?_
  refine GL.val (v := (.bool (decide (0 ≤ ((((q : Nat) : Int) - 1)))))) (Ex.geq rfl rfl) (by decide) ?_
  refine GL.nil ?_
  refine GE.thenN ?_
  refine GC.cond rfl (fun hq3 => ?_) (fun hq3 => ?_)
  ·replace hq3 := of_decide_eq_true hq3
   exfalso; omega
  ·replace hq3 := of_decide_eq_false hq3
   refine GC.exit ?_
   refine GE.thenE ?_
   refine GE.thenE ?_
   refine GE.blockE ?_
   refine GE.thenN ?_
   refine GC.seq ?_
   refine GC.region ?_
   refine GL.val (Ex.assign rfl) (by decide) ?_
   refine GL.nil ?_
   refine GE.thenN ?_
   refine GC.ret ?_
   refine GC.ret1 rfl (Rv.tmp rfl) (fun wN HN => ?_)
   exact HN.ret () trivial (congrArg (Value.int .i64) (Nd.cmp_same (show x = 0 by have := hpq.2; rw [show q = 0 by omega] at this; simpa using this))) (List.nil_sublist _) rfl

set_option maxRecDepth 100000 in
set_option maxHeartbeats 1000000 in
theorem cmp_nn (adx : Option Addr) (cx : Nat) (adz : Option Addr) (cz : Nat) (w : World) :
  Calls Try.prog 60 #[(.slice adx 0 cx), (.slice adz 0 cz)] w (Ret w (fun _ : Unit => True) (fun _ => (.int .i64 0)) (fun _ => [])) := by
 refine enter (M := None) (L := []) (n := 41) (l := [(0, (.slice adx 0 cx)), (1, (.slice adz 0 cz))]) Try.func60 rfl rfl (Args.cons rfl (Args.cons rfl (Args.nil _))) (Hp.start _ _) ?_
 refine GC.seq ?_
 refine GC.region ?_
 refine GL.val (Ex.assign rfl) (by decide) ?_
 refine GL.nil ?_
 refine GE.thenN ?_
 refine GC.seq ?_
 refine GC.seq ?_
 refine GC.region ?_
 refine GL.val (Ex.move rfl) (by decide) ?_
 refine GL.val (v := (.int .i64 0)) (Ex.len rfl Try.underlying36) (by decide) ?_
 refine GL.val (Ex.move rfl) (by decide) ?_
 refine GL.val (v := (.int .i64 0)) (Ex.len rfl Try.underlying36) (by decide) ?_
 refine GL.val (v := (.bool false)) (Ex.cast (Ex.neq rfl rfl) rfl) (by decide) ?_
 refine GL.nil ?_
 refine GE.thenN ?_
 refine GC.cond rfl (fun hq1 => by cases hq1) (fun _ => ?_)
 refine GC.skip ?_
 refine GE.thenN ?_
 refine GC.seq ?_
 refine GC.seq ?_
 refine GC.region ?_
 refine GL.val (Ex.move rfl) (by decide) ?_
 refine GL.val (v := (.int .i64 0)) (Ex.len rfl Try.underlying36) (by decide) ?_
 refine GL.val (v := (.int .i64 (-1))) (Ex.sub' rfl rfl (Z := -1) (by decide)) (by decide) ?_
 refine GL.val (Ex.assign rfl) (by decide) ?_
 refine GL.nil ?_
 refine GE.thenN ?_
 refine GC.block ?_
 refine GC.unroll 1 ?_
 refine GE.round ?_
 refine GC.seq ?_
 refine GC.seq ?_
 refine GC.region ?_
 refine GL.val (Ex.move rfl) (by decide) ?_
 refine GL.val (v := (.bool false)) (Ex.cast (Ex.geq rfl rfl) rfl) (by decide) ?_
 refine GL.nil ?_
 refine GE.thenN ?_
 refine GC.cond rfl (fun hq2 => by cases hq2) (fun _ => ?_)
 refine GC.exit ?_
 refine GE.thenE ?_
 refine GE.thenE ?_
 refine GE.blockE ?_
 refine GE.thenN ?_
 refine GC.seq ?_
 refine GC.region ?_
 refine GL.val (Ex.assign rfl) (by decide) ?_
 refine GL.nil ?_
 refine GE.thenN ?_
 refine GC.ret ?_
 refine GC.ret1 rfl (Rv.tmp rfl) (fun wN HN => ?_)
 exact HN.ret () trivial rfl (List.nil_sublist _) rfl

set_option maxRecDepth 100000 in
set_option maxHeartbeats 1000000 in
theorem plus_bb (x bx cx : Nat) (z bz cz : Nat) (n : Nat) (w : World) (hrx : Nd.Nb w bx x) (hnx : Nd.nd x ≤ 1000) (hrz : Nd.Nb w bz z) (hnz : Nd.nd z ≤ 1000) (hn : n = max (Nd.nd x) (Nd.nd z) + 1) :
  Calls Try.prog 64 #[(.slice (some ⟨bx, 0, none⟩) ((Nd.nd x)) cx), (.slice (some ⟨bz, 0, none⟩) ((Nd.nd z)) cz)] w (Ret w (fun _ : Nat => True) (fun z' => (.slice (some ⟨z', 0, none⟩) ((Nd.nd (x + z))) n)) (fun z' => [⟨z', (Nd.dl n (x + z)).map u32, 23, true⟩])) := by
 have h00 : Nd.nd 0 = 0 := rfl
 refine enter (M := None) (L := []) (n := 56) (l := [(0, (.slice (some ⟨bx, 0, none⟩) ((Nd.nd x)) cx)), (1, (.slice (some ⟨bz, 0, none⟩) ((Nd.nd z)) cz))]) Try.func64 rfl rfl (Args.cons rfl (Args.cons rfl (Args.nil _))) (Hp.start _ _) ?_
 refine GC.seq ?_
 refine GC.region ?_
 refine GL.val (Ex.assign rfl) (by decide) ?_
 refine GL.nil ?_
 refine GE.thenN ?_
 refine GC.seq ?_
 refine GC.region ?_
 refine GL.val (Ex.move rfl) (by decide) ?_
 refine GL.val (v := (.int .i64 ((((Nd.nd x)) : Int)))) (Ex.len rfl Try.underlying36) (by decide) ?_
 refine GL.val (Ex.move rfl) (by decide) ?_
 refine GL.val (v := (.int .i64 ((((Nd.nd z)) : Int)))) (Ex.len rfl Try.underlying36) (by decide) ?_
 refine GL.val (v := (.int .i64 ((((n : Nat) : Int) - 1)))) (Ex.maxI rfl rfl (Z := ((n : Nat) : Int) - 1) (by split <;> omega)) (by decide) ?_
 refine GL.val (v := (.int .i64 (((n : Nat) : Int)))) (Ex.add rfl rfl (Z := ((n : Nat) : Int)) (by rw [w64 (by omega)]; omega)) (by decide) ?_
 refine GL.val (Ex.assign rfl) (by decide) ?_
 refine GL.nil ?_
 refine GE.thenN ?_
 refine GC.seq ?_
 refine GC.region ?_
 refine GL.val (Ex.move rfl) (by decide) ?_
 refine GL.step (Stp.makeSlice (a1 := n) (c := n) rfl rfl Try.underlying36 T.zr23 T.sz23 T.by23 rfl (Nat.le_refl _) (by omega) (by omega) (by decide)) (fun bq1 _ => ?_)
 rw [madeOne, Nd.rep_0 n (x + z)]
 refine GL.val (Ex.assign rfl) (by decide) ?_
 refine GL.nil ?_
 refine GE.thenN ?_
 refine GC.seq ?_
 refine GC.region ?_
 refine GL.val (v := (.int .u64 (((Nd.C x z 0 : Nat) : Int)))) (Ex.cast (Ex.assign rfl) (show Value.int .u64 0 = Value.int .u64 ((Nd.C x z 0 : Nat) : Int) by rw [Nd.C_zero]; rfl)) (by decide) ?_
 refine GL.nil ?_
 refine GE.thenN ?_
 refine GC.seq ?_
 refine GC.seq ?_
 refine GC.region ?_
 refine GL.val (Ex.assign rfl) (by decide) ?_
 refine GL.nil ?_
 refine GE.thenN ?_
 refine GC.block ?_
 refine GC.loop (σ := Nat) (fun i => i ≤ n) (fun i => [(0, (.slice (some ⟨bx, 0, none⟩) ((Nd.nd x)) cx)), (1, (.slice (some ⟨bz, 0, none⟩) ((Nd.nd z)) cz)), (4, (.slice none 0 0)), (5, (.int .i64 (((n : Nat) : Int)))), (6, (.slice (some ⟨bq1, 0, none⟩) n n)), (7, (.int .u64 (((Nd.C x z i : Nat) : Int)))), (8, (.int .i64 (((i : Nat) : Int))))]) (fun i => [⟨bq1, (Nd.dl n ((x + z) % Nd.Bs ^ i)).map u32, 23, true⟩]) (fun i => n - i) (0) (Nat.zero_le _) ((sub_cons rfl ((sub_cons rfl ((sub_cons rfl ((sub_cons rfl ((sub_cons rfl ((sub_cons rfl ((sub_cons rfl ((sub_nil _)))))))))))))))) (ulC ulN) (fun i hp => ?_)
 have hpi : i ≤ n := hp
 obtain ⟨f1, f2, f3, f4, f5, f6⟩ := Nd.add_facts x z i
 refine GC.seq ?_
 refine GC.seq ?_
 refine GC.region ?_
 refine GL.val (Ex.move rfl) (by decide) ?_
 refine GL.val (Ex.move rfl) (by decide) ?_
 refine GL.val (v := (.bool (decide ((((i : Nat) : Int)) < (((n : Nat) : Int)))))) (Ex.lss rfl rfl) (by decide) ?_
 refine GL.nil ?_
 refine GE.thenN ?_
 refine GC.cond rfl (fun hq2 => ?_) (fun hq2 => ?_)
 ·replace hq2 := of_decide_eq_true hq2
  refine GC.skip ?_
  refine GE.thenN ?_
  refine GC.seq ?_
  refine GC.block ?_
  refine GC.seq ?_
  refine GC.region ?_
  refine GL.val (Ex.move rfl) (by decide) ?_
  refine GL.val (Ex.assign rfl) (by decide) ?_
  refine GL.nil ?_
  refine GE.thenN ?_
  refine GC.seq ?_
  refine GC.seq ?_
  refine GC.region ?_
  refine GL.val (Ex.move rfl) (by decide) ?_
  refine GL.val (Ex.move rfl) (by decide) ?_
  refine GL.val (v := (.int .i64 ((((Nd.nd x)) : Int)))) (Ex.len rfl Try.underlying36) (by decide) ?_
  refine GL.val (v := (.bool (decide ((((i : Nat) : Int)) < ((((Nd.nd x)) : Int)))))) (Ex.lss rfl rfl) (by decide) ?_
  refine GL.nil ?_
  refine GE.thenN ?_
  refine GC.cond rfl (fun hq3 => ?_) (fun hq3 => ?_)
  ·replace hq3 := of_decide_eq_true hq3
   refine GC.region ?_
   refine GL.val (Ex.move rfl) (by decide) ?_
   refine GL.val (Ex.move rfl) (by decide) ?_
   refine GL.val (Ex.move rfl) (by decide) ?_
   refine GL.val (v := (.pointer (some ⟨bx, i, none⟩))) (Ex.cast (Ex.indexAddr rfl rfl Try.underlying36 T.sz23 (by omega) (by omega)) (by simp)) (by decide) ?_
   refine GL.val (v := (.int .u32 (((Nd.D x i : Nat) : Int)))) (Ex.loadO rfl T.ag23 (Nd.Nb.dig hrx (by omega)) (fun x => x)) (by decide) ?_
   refine GL.val (v := (.int .u64 (((Nd.D x i : Nat) : Int)))) (Ex.conv rfl Try.underlying23 Try.underlying70 (Z := ((Nd.D x i : Nat) : Int)) (wu64b (by omega))) (by decide) ?_
   refine GL.val (v := (.int .u64 ((((Nd.C x z i : Nat) : Int)) + (((Nd.D x i : Nat) : Int))))) (Ex.add rfl rfl (Z := (((Nd.C x z i : Nat) : Int)) + (((Nd.D x i : Nat) : Int))) (wu64b (by omega))) (by decide) ?_
   refine GL.val (Ex.assign rfl) (by decide) ?_
   refine GL.nil ?_
   refine GE.thenN ?_
   refine GC.seq ?_
   refine GC.seq ?_
   refine GC.region ?_
   refine GL.val (Ex.move rfl) (by decide) ?_
   refine GL.val (Ex.move rfl) (by decide) ?_
   refine GL.val (v := (.int .i64 ((((Nd.nd z)) : Int)))) (Ex.len rfl Try.underlying36) (by decide) ?_
   refine GL.val (v := (.bool (decide ((((i : Nat) : Int)) < ((((Nd.nd z)) : Int)))))) (Ex.lss rfl rfl) (by decide) ?_
   refine GL.nil ?_
   refine GE.thenN ?_
   refine GC.cond rfl (fun hq4 => ?_) (fun hq4 => ?_)
   ·replace hq4 := of_decide_eq_true hq4
    refine GC.region ?_
    refine GL.val (Ex.move rfl) (by decide) ?_
    refine GL.val (Ex.move rfl) (by decide) ?_
    refine GL.val (Ex.move rfl) (by decide) ?_
    refine GL.val (v := (.pointer (some ⟨bz, i, none⟩))) (Ex.cast (Ex.indexAddr rfl rfl Try.underlying36 T.sz23 (by omega) (by omega)) (by simp)) (by decide) ?_
    refine GL.val (v := (.int .u32 (((Nd.D z i : Nat) : Int)))) (Ex.loadO rfl T.ag23 (Nd.Nb.dig hrz (by omega)) (fun x => x)) (by decide) ?_
    refine GL.val (v := (.int .u64 (((Nd.D z i : Nat) : Int)))) (Ex.conv rfl Try.underlying23 Try.underlying70 (Z := ((Nd.D z i : Nat) : Int)) (wu64b (by omega))) (by decide) ?_
    refine GL.val (v := (.int .u64 (((((Nd.C x z i : Nat) : Int)) + (((Nd.D x i : Nat) : Int))) + (((Nd.D z i : Nat) : Int))))) (Ex.add rfl rfl (Z := ((((Nd.C x z i : Nat) : Int)) + (((Nd.D x i : Nat) : Int))) + (((Nd.D z i : Nat) : Int))) (wu64b (by omega))) (by decide) ?_
    refine GL.val (Ex.assign rfl) (by decide) ?_
    refine GL.nil ?_
    refine GE.thenN ?_
    refine GC.seq ?_
    refine GC.region ?_
    refine GL.val (Ex.move rfl) (by decide) ?_
    refine GL.val (Ex.move rfl) (by decide) ?_
    refine GL.val (Ex.move rfl) (by decide) ?_
    refine GL.val (v := (.int .u64 (((Nd.D (x + z) i : Nat) : Int)))) (Ex.bits rfl rfl (by simp) (Z := ((Nd.D (x + z) i : Nat) : Int)) (andm64 32 (by omega) (by omega) (by omega) (by omega) rfl)) (by decide) ?_
    refine GL.val (v := (.int .u32 (((Nd.D (x + z) i : Nat) : Int)))) (Ex.conv rfl Try.underlying70 Try.underlying23 (Z := ((Nd.D (x + z) i : Nat) : Int)) (wu32b (by omega))) (by decide) ?_
    refine GL.val (v := (.pointer (some ⟨bq1, i, none⟩))) (Ex.cast (Ex.indexAddr rfl rfl Try.underlying36 T.sz23 (by omega) (by omega)) (by simp)) (by decide) ?_
    refine GL.step (Stp.storeL (i := 0) (cs := (Nd.dl n ((x + z) % Nd.Bs ^ i)).map u32) (vs := [(.int .u32 (((Nd.D (x + z) i : Nat) : Int)))]) (o := i) (L1 := [⟨bq1, (Nd.dl n ((x + z) % Nd.Bs ^ (i + 1))).map u32, 23, true⟩]) rfl rfl rfl T.sz23 rfl (Nat.ble_eq_true_of_le (show i + 1 ≤ _ by rw [Nd.dl_mlen]; omega)) rfl (by rw [Nd.st_next (by omega) rfl]; rfl)) (fun _ _ => ?_)
    refine GL.nil ?_
    refine GE.thenN ?_
    refine GC.region ?_
    refine GL.val (Ex.move rfl) (by decide) ?_
    refine GL.val (v := (.int .u64 (((Nd.C x z (i + 1) : Nat) : Int)))) (Ex.shr rfl (m := 32) rfl (by decide) (Z := ((Nd.C x z (i + 1) : Nat) : Int)) (by omega)) (by decide) ?_
    refine GL.val (Ex.assign rfl) (by decide) ?_
    refine GL.nil ?_
    refine GE.blockN ?_
    refine GE.thenN ?_
    refine GC.region ?_
    refine GL.val (Ex.move rfl) (by decide) ?_
    refine GL.val (v := (.int .i64 (((i + 1 : Nat) : Int)))) (Ex.add rfl rfl (Z := ((i + 1 : Nat) : Int)) (w64 (by omega))) (by decide) ?_
    refine GL.val (Ex.assign rfl) (by decide) ?_
    refine GL.nil ?_
    refine GE.thenN ?_
    exact Head.mk (i + 1) (by omega) (by omega) ((sub_cons rfl ((sub_cons rfl ((sub_cons rfl ((sub_cons rfl ((sub_cons rfl ((sub_cons rfl ((sub_cons rfl ((sub_nil _)))))))))))))))) (ulC ulN)
   ·replace hq4 := of_decide_eq_false hq4
    have yz : Nd.D z i = 0 := Nd.D_far (by omega)
    refine GC.skip ?_
    refine GE.thenN ?_
    refine GC.seq ?_
    refine GC.region ?_
    refine GL.val (Ex.move rfl) (by decide) ?_
    refine GL.val (Ex.move rfl) (by decide) ?_
    refine GL.val (Ex.move rfl) (by decide) ?_
    refine GL.val (v := (.int .u64 (((Nd.D (x + z) i : Nat) : Int)))) (Ex.bits rfl rfl (by simp) (Z := ((Nd.D (x + z) i : Nat) : Int)) (andm64 32 (by omega) (by omega) (by omega) (by omega) rfl)) (by decide) ?_
    refine GL.val (v := (.int .u32 (((Nd.D (x + z) i : Nat) : Int)))) (Ex.conv rfl Try.underlying70 Try.underlying23 (Z := ((Nd.D (x + z) i : Nat) : Int)) (wu32b (by omega))) (by decide) ?_
    refine GL.val (v := (.pointer (some ⟨bq1, i, none⟩))) (Ex.cast (Ex.indexAddr rfl rfl Try.underlying36 T.sz23 (by omega) (by omega)) (by simp)) (by decide) ?_
    refine GL.step (Stp.storeL (i := 0) (cs := (Nd.dl n ((x + z) % Nd.Bs ^ i)).map u32) (vs := [(.int .u32 (((Nd.D (x + z) i : Nat) : Int)))]) (o := i) (L1 := [⟨bq1, (Nd.dl n ((x + z) % Nd.Bs ^ (i + 1))).map u32, 23, true⟩]) rfl rfl rfl T.sz23 rfl (Nat.ble_eq_true_of_le (show i + 1 ≤ _ by rw [Nd.dl_mlen]; omega)) rfl (by rw [Nd.st_next (by omega) rfl]; rfl)) (fun _ _ => ?_)
    refine GL.nil ?_
    refine GE.thenN ?_
    refine GC.region ?_
    refine GL.val (Ex.move rfl) (by decide) ?_
    refine GL.val (v := (.int .u64 (((Nd.C x z (i + 1) : Nat) : Int)))) (Ex.shr rfl (m := 32) rfl (by decide) (Z := ((Nd.C x z (i + 1) : Nat) : Int)) (by omega)) (by decide) ?_
    refine GL.val (Ex.assign rfl) (by decide) ?_
    refine GL.nil ?_
    refine GE.blockN ?_
    refine GE.thenN ?_
    refine GC.region ?_
    refine GL.val (Ex.move rfl) (by decide) ?_
    refine GL.val (v := (.int .i64 (((i + 1 : Nat) : Int)))) (Ex.add rfl rfl (Z := ((i + 1 : Nat) : Int)) (w64 (by omega))) (by decide) ?_
    refine GL.val (Ex.assign rfl) (by decide) ?_
    refine GL.nil ?_
    refine GE.thenN ?_
    exact Head.mk (i + 1) (by omega) (by omega) ((sub_cons rfl ((sub_cons rfl ((sub_cons rfl ((sub_cons rfl ((sub_cons rfl ((sub_cons rfl ((sub_cons rfl ((sub_nil _)))))))))))))))) (ulC ulN)
  ·replace hq3 := of_decide_eq_false hq3
   have yx : Nd.D x i = 0 := Nd.D_far (by omega)
   refine GC.skip ?_
   refine GE.thenN ?_
   refine GC.seq ?_
   refine GC.seq ?_
   refine GC.region ?_
   refine GL.val (Ex.move rfl) (by decide) ?_
   refine GL.val (Ex.move rfl) (by decide) ?_
   refine GL.val (v := (.int .i64 ((((Nd.nd z)) : Int)))) (Ex.len rfl Try.underlying36) (by decide) ?_
   refine GL.val (v := (.bool (decide ((((i : Nat) : Int)) < ((((Nd.nd z)) : Int)))))) (Ex.lss rfl rfl) (by decide) ?_
   refine GL.nil ?_
   refine GE.thenN ?_
   refine GC.cond rfl (fun hq5 => ?_) (fun hq5 => ?_)
   ·replace hq5 := of_decide_eq_true hq5
    refine GC.region ?_
    refine GL.val (Ex.move rfl) (by decide) ?_
    refine GL.val (Ex.move rfl) (by decide) ?_
    refine GL.val (Ex.move rfl) (by decide) ?_
    refine GL.val (v := (.pointer (some ⟨bz, i, none⟩))) (Ex.cast (Ex.indexAddr rfl rfl Try.underlying36 T.sz23 (by omega) (by omega)) (by simp)) (by decide) ?_
    refine GL.val (v := (.int .u32 (((Nd.D z i : Nat) : Int)))) (Ex.loadO rfl T.ag23 (Nd.Nb.dig hrz (by omega)) (fun x => x)) (by decide) ?_
    refine GL.val (v := (.int .u64 (((Nd.D z i : Nat) : Int)))) (Ex.conv rfl Try.underlying23 Try.underlying70 (Z := ((Nd.D z i : Nat) : Int)) (wu64b (by omega))) (by decide) ?_
    refine GL.val (v := (.int .u64 ((((Nd.C x z i : Nat) : Int)) + (((Nd.D z i : Nat) : Int))))) (Ex.add rfl rfl (Z := (((Nd.C x z i : Nat) : Int)) + (((Nd.D z i : Nat) : Int))) (wu64b (by omega))) (by decide) ?_
    refine GL.val (Ex.assign rfl) (by decide) ?_
    refine GL.nil ?_
    refine GE.thenN ?_
    refine GC.seq ?_
    refine GC.region ?_
    refine GL.val (Ex.move rfl) (by decide) ?_
    refine GL.val (Ex.move rfl) (by decide) ?_
    refine GL.val (Ex.move rfl) (by decide) ?_
    refine GL.val (v := (.int .u64 (((Nd.D (x + z) i : Nat) : Int)))) (Ex.bits rfl rfl (by simp) (Z := ((Nd.D (x + z) i : Nat) : Int)) (andm64 32 (by omega) (by omega) (by omega) (by omega) rfl)) (by decide) ?_
    refine GL.val (v := (.int .u32 (((Nd.D (x + z) i : Nat) : Int)))) (Ex.conv rfl Try.underlying70 Try.underlying23 (Z := ((Nd.D (x + z) i : Nat) : Int)) (wu32b (by omega))) (by decide) ?_
    refine GL.val (v := (.pointer (some ⟨bq1, i, none⟩))) (Ex.cast (Ex.indexAddr rfl rfl Try.underlying36 T.sz23 (by omega) (by omega)) (by simp)) (by decide) ?_
    refine GL.step (Stp.storeL (i := 0) (cs := (Nd.dl n ((x + z) % Nd.Bs ^ i)).map u32) (vs := [(.int .u32 (((Nd.D (x + z) i : Nat) : Int)))]) (o := i) (L1 := [⟨bq1, (Nd.dl n ((x + z) % Nd.Bs ^ (i + 1))).map u32, 23, true⟩]) rfl rfl rfl T.sz23 rfl (Nat.ble_eq_true_of_le (show i + 1 ≤ _ by rw [Nd.dl_mlen]; omega)) rfl (by rw [Nd.st_next (by omega) rfl]; rfl)) (fun _ _ => ?_)
    refine GL.nil ?_
    refine GE.thenN ?_
    refine GC.region ?_
    refine GL.val (Ex.move rfl) (by decide) ?_
    refine GL.val (v := (.int .u64 (((Nd.C x z (i + 1) : Nat) : Int)))) (Ex.shr rfl (m := 32) rfl (by decide) (Z := ((Nd.C x z (i + 1) : Nat) : Int)) (by omega)) (by decide) ?_
    refine GL.val (Ex.assign rfl) (by decide) ?_
    refine GL.nil ?_
    refine GE.blockN ?_
    refine GE.thenN ?_
    refine GC.region ?_
    refine GL.val (Ex.move rfl) (by decide) ?_
    refine GL.val (v := (.int .i64 (((i + 1 : Nat) : Int)))) (Ex.add rfl rfl (Z := ((i + 1 : Nat) : Int)) (w64 (by omega))) (by decide) ?_
    refine GL.val (Ex.assign rfl) (by decide) ?_
    refine GL.nil ?_
    refine GE.thenN ?_
    exact Head.mk (i + 1) (by omega) (by omega) ((sub_cons rfl ((sub_cons rfl ((sub_cons rfl ((sub_cons rfl ((sub_cons rfl ((sub_cons rfl ((sub_cons rfl ((sub_nil _)))))))))))))))) (ulC ulN)
   ·replace hq5 := of_decide_eq_false hq5
    have yz : Nd.D z i = 0 := Nd.D_far (by omega)
    refine GC.skip ?_
    refine GE.thenN ?_
    refine GC.seq ?_
    refine GC.region ?_
    refine GL.val (Ex.move rfl) (by decide) ?_
    refine GL.val (Ex.move rfl) (by decide) ?_
    refine GL.val (Ex.move rfl) (by decide) ?_
    refine GL.val (v := (.int .u64 (((Nd.D (x + z) i : Nat) : Int)))) (Ex.bits rfl rfl (by simp) (Z := ((Nd.D (x + z) i : Nat) : Int)) (andm64 32 (by omega) (by omega) (by omega) (by omega) rfl)) (by decide) ?_
    refine GL.val (v := (.int .u32 (((Nd.D (x + z) i : Nat) : Int)))) (Ex.conv rfl Try.underlying70 Try.underlying23 (Z := ((Nd.D (x + z) i : Nat) : Int)) (wu32b (by omega))) (by decide) ?_
    refine GL.val (v := (.pointer (some ⟨bq1, i, none⟩))) (Ex.cast (Ex.indexAddr rfl rfl Try.underlying36 T.sz23 (by omega) (by omega)) (by simp)) (by decide) ?_
    refine GL.step (Stp.storeL (i := 0) (cs := (Nd.dl n ((x + z) % Nd.Bs ^ i)).map u32) (vs := [(.int .u32 (((Nd.D (x + z) i : Nat) : Int)))]) (o := i) (L1 := [⟨bq1, (Nd.dl n ((x + z) % Nd.Bs ^ (i + 1))).map u32, 23, true⟩]) rfl rfl rfl T.sz23 rfl (Nat.ble_eq_true_of_le (show i + 1 ≤ _ by rw [Nd.dl_mlen]; omega)) rfl (by rw [Nd.st_next (by omega) rfl]; rfl)) (fun _ _ => ?_)
    refine GL.nil ?_
    refine GE.thenN ?_
    refine GC.region ?_
    refine GL.val (Ex.move rfl) (by decide) ?_
    refine GL.val (v := (.int .u64 (((Nd.C x z (i + 1) : Nat) : Int)))) (Ex.shr rfl (m := 32) rfl (by decide) (Z := ((Nd.C x z (i + 1) : Nat) : Int)) (by omega)) (by decide) ?_
    refine GL.val (Ex.assign rfl) (by decide) ?_
    refine GL.nil ?_
    refine GE.blockN ?_
    refine GE.thenN ?_
    refine GC.region ?_
    refine GL.val (Ex.move rfl) (by decide) ?_
    refine GL.val (v := (.int .i64 (((i + 1 : Nat) : Int)))) (Ex.add rfl rfl (Z := ((i + 1 : Nat) : Int)) (w64 (by omega))) (by decide) ?_
    refine GL.val (Ex.assign rfl) (by decide) ?_
    refine GL.nil ?_
    refine GE.thenN ?_
    exact Head.mk (i + 1) (by omega) (by omega) ((sub_cons rfl ((sub_cons rfl ((sub_cons rfl ((sub_cons rfl ((sub_cons rfl ((sub_cons rfl ((sub_cons rfl ((sub_nil _)))))))))))))))) (ulC ulN)
 ·replace hq2 := of_decide_eq_false hq2
  refine GC.exit ?_
  refine GE.thenE ?_
  refine GE.thenE ?_
  refine GE.blockE ?_
  refine GE.thenN ?_
  refine GC.seq ?_
  have hin : i = n := by omega
  rw [hin, Nd.mod_all (by rw [hn]; exact Nd.plus_lt)]
  refine GC.region ?_
  refine GL.val (Ex.move rfl) (by decide) ?_
  refine GL.step (Stp.callR (vs := [(.slice (some ⟨bq1, 0, none⟩) n n)]) rfl rfl T.own63 (by decide) (fun wc hw => trim_g bq1 n (x + z) wc (by omega) (by rw [hn]; exact Nd.plus_lt) (Has.cons (hw.hasOf (i := 0) rfl) (Has.nil _)))) (fun xq6 hq7 => ?_)
  refine GL.val (Ex.assign rfl) (by decide) ?_
  refine GL.nil ?_
  refine GE.thenN ?_
  refine GC.ret ?_
  refine GC.ret1 rfl (Rv.tmp rfl) (fun wN HN => ?_)
  exact HN.ret bq1 trivial rfl (ulC ulN) rfl

end Go.Proofs.Ytbhjadkgeadpiaa.C
