/- SpaceLog: what its code does, walked. -/
import Derived.Test.YtbhjadkgeadpiaaKLog2
namespace Go.Proofs.Ytbhjadkgeadpiaa.C
open Go Go.RowKit Sx
set_option linter.unusedVariables false
set_option maxRecDepth 100000 in
set_option maxHeartbeats 1000000 in
theorem round_0 (ad : Option Addr) (c : Nat) (w : World) :
    Calls Try.prog 75 #[(.agg #[(.int .i64 23), (.int .i64 8)]), (.agg #[(.int .i64 2), (.bool false), (.slice ad 0 c), (.int .i64 ((-23))), (.bool false)])] w (Ret w (fun _ : Unit => True) (fun _ => (.int .u64 0)) (fun _ => [])) := by
  refine enter (M := None) (L := []) (n := 169) (l := [(0, (.agg #[(.int .i64 23), (.int .i64 8)])), (1, (.agg #[(.int .i64 2), (.bool false), (.slice ad 0 c), (.int .i64 ((-23))), (.bool false)]))]) Try.func75 rfl rfl (Args.cons rfl (Args.cons rfl (Args.nil _))) (Hp.start _ _) ?_
  refine GC.seq ?_
  refine GC.region ?_
  refine GL.step (Stp.box (cs := [(.int .i64 23), (.int .i64 8)]) rfl rfl (by decide)) (fun bq1 _ => ?_)
  refine GL.step (Stp.box (cs := [(.int .i64 2), (.bool false), (.slice ad 0 c), (.int .i64 ((-23))), (.bool false)]) rfl rfl (by decide)) (fun bq2 _ => ?_)
  refine GL.val (Ex.assign rfl) (by decide) ?_
  refine GL.nil ?_
  refine GE.thenN ?_
  refine GC.seq ?_
  refine GC.seq ?_
  refine GC.region ?_
  refine GL.val (v := (.pointer (some ⟨bq2, 0, none⟩))) (Ex.cast (Ex.fieldAddr rfl Try.underlying38 rfl T.sz3 (by decide)) rfl) (by decide) ?_
  refine GL.val (Ex.load rfl T.ag3 (i := 0) rfl rfl) (by decide) ?_
  refine GL.val (v := (.bool false)) (Ex.cast (Ex.eql rfl rfl) rfl) (by decide) ?_
  refine GL.nil ?_
  refine GE.thenN ?_
  refine GC.cond rfl (fun hq3 => by cases hq3) (fun _ => ?_)
  refine GC.skip ?_
  refine GE.thenN ?_
  refine GC.seq ?_
  refine GC.seq ?_
  refine GC.region ?_
  refine GL.val (v := (.pointer (some ⟨bq2, 0, none⟩))) (Ex.cast (Ex.fieldAddr rfl Try.underlying38 rfl T.sz3 (by decide)) rfl) (by decide) ?_
  refine GL.val (Ex.load rfl T.ag3 (i := 0) rfl rfl) (by decide) ?_
  refine GL.val (v := (.bool false)) (Ex.cast (Ex.eql rfl rfl) rfl) (by decide) ?_
  refine GL.nil ?_
  refine GE.thenN ?_
  refine GC.cond rfl (fun hq4 => by cases hq4) (fun _ => ?_)
  refine GC.skip ?_
  refine GE.thenN ?_
  refine GC.seq ?_
  refine GC.region ?_
  refine GL.val (v := (.pointer (some ⟨bq2, 2, none⟩))) (Ex.cast (Ex.fieldAddr rfl Try.underlying38 rfl T.sz36 (by decide)) rfl) (by decide) ?_
  refine GL.val (Ex.load rfl T.ag36 (i := 0) rfl rfl) (by decide) ?_
  refine GL.val (Ex.assign rfl) (by decide) ?_
  refine GL.nil ?_
  refine GE.thenN ?_
  refine GC.seq ?_
  refine GC.region ?_
  refine GL.val (v := (.pointer (some ⟨bq2, 3, none⟩))) (Ex.cast (Ex.fieldAddr rfl Try.underlying38 rfl T.sz3 (by decide)) rfl) (by decide) ?_
  refine GL.val (Ex.load rfl T.ag3 (i := 0) rfl rfl) (by decide) ?_
  refine GL.val (Ex.assign rfl) (by decide) ?_
  refine GL.nil ?_
  refine GE.thenN ?_
  refine GC.seq ?_
  refine GC.region ?_
  refine GL.val (v := (.agg #[(.int .i64 23), (.int .i64 8)])) (Ex.loadA rfl T.ag67 T.sz67 (i := 1) rfl (vs := [(.int .i64 23), (.int .i64 8)]) rfl rfl) (by decide) ?_
  refine GL.step (Stp.callR (vs := [(.agg #[(.int .i64 23), (.int .i64 8)])]) rfl rfl T.own83 (by decide) (fun wc hw => j83_2  wc )) (fun xq5 hq6 => ?_)
  refine GL.val (v := (.int .i64 (-149))) (Ex.sub' rfl rfl (Z := -149) (by decide)) (by decide) ?_
  refine GL.val (Ex.assign rfl) (by decide) ?_
  refine GL.nil ?_
  refine GE.thenN ?_
  refine GC.seq ?_
  refine GC.drawP [⟨bq2, [(.int .i64 2), (.bool false), (.slice ad 0 c), (.int .i64 ((-23))), (.bool false)], 38, true⟩, ⟨bq1, [(.int .i64 23), (.int .i64 8)], 67, true⟩] T.mixed (by kernel_rfl) (by kernel_rfl) (fuel := 10) rfl rfl ?_
  refine GH.take 0 (v := (.slice ad 0 c)) rfl (by kernel_rfl) (by kernel_rfl) (by kernel_rfl) (fun _ _ _ h => h) (Ex.move rfl) (ulC (ulC ulN)) (by decide) ?_
  refine GH.take 2 (v := (.int .i64 ((-23)))) rfl (by kernel_rfl) (by kernel_rfl) (by kernel_rfl) (fun _ _ _ h => h) (Ex.move rfl) (ulC (ulC ulN)) (by decide) ?_
  refine GH.take 4 (v := (.pointer (some ⟨bq1, 0, none⟩))) rfl (by kernel_rfl) (by kernel_rfl) (by kernel_rfl) (fun _ _ _ h => h) (Ex.cast (Ex.fieldAddr rfl Try.underlying67 rfl T.sz3 (by decide)) rfl) (ulC (ulC ulN)) (by decide) ?_
  refine GH.take 5 (v := (.int .i64 23)) rfl (by kernel_rfl) (by kernel_rfl) (by kernel_rfl) (fun _ _ _ h => h) (Ex.load rfl T.ag3 (i := 1) rfl rfl) (ulC (ulC ulN)) (by decide) ?_
  refine GH.take 6 (v := (.int .i64 24)) rfl (by kernel_rfl) (by kernel_rfl) (by kernel_rfl) (fun _ _ _ h => h) (Ex.add rfl rfl (Z := 24) (by decide)) (ulC (ulC ulN)) (by decide) ?_
  refine GH.take 8 (v := (.int .i64 (-149))) rfl (by kernel_rfl) (by kernel_rfl) (by kernel_rfl) (fun _ _ _ h => h) (Ex.move rfl) (ulC (ulC ulN)) (by decide) ?_
  refine GH.one 1 rfl (by kernel_rfl) (Stp.callR (vs := [(.slice ad 0 c)]) rfl rfl T.own88 (by decide) (fun wc hw => bits_0 ad c wc)) (fun _ => (ulC (ulC ulN))) (fun xq9 hq10 => ?_)
  refine GH.take 3 (v := (.int .i64 (0 + ((-23))))) rfl (by kernel_rfl) (by kernel_rfl) (by kernel_rfl) (fun _ _ _ h => h) (Ex.add rfl rfl (Z := 0 + ((-23))) (w64 (by omega))) (ulC (ulC ulN)) (by decide) ?_
  refine GH.take 7 (v := (.int .i64 ((0 + ((-23))) - 24))) rfl (by kernel_rfl) (by kernel_rfl) (by kernel_rfl) (fun _ _ _ h => h) (Ex.sub' rfl rfl (Z := (0 + ((-23))) - 24) (w64 (by omega))) (ulC (ulC ulN)) (by decide) ?_
  refine GH.take 9 (v := (.int .i64 ((-47)))) rfl (by kernel_rfl) (by kernel_rfl) (by kernel_rfl) (fun _ _ _ h => h) (Ex.maxI rfl rfl (Z := (-47)) (by decide)) (ulC (ulC ulN)) (by decide) ?_
  refine GH.done (by kernel_rfl) ?_
  refine GE.thenN ?_
  refine GE.tail rfl (Ex.wp (v := (.int .i64 ((-47)))) (Ex.assign rfl) (by decide)) (fun _ _ => ?_)
  refine GE.thenN ?_
  refine GC.seq ?_
  refine GC.region ?_
  refine GL.val (Ex.assign rfl) (by decide) ?_
  refine GL.nil ?_
  refine GE.thenN ?_
  refine GC.seq ?_
  refine GC.seq ?_
  refine GC.region ?_
  refine GL.val (Ex.move rfl) (by decide) ?_
  refine GL.val (Ex.move rfl) (by decide) ?_
  refine GL.val (v := (.bool false)) (Ex.cast (Ex.gtr rfl rfl) rfl) (by decide) ?_
  refine GL.nil ?_
  refine GE.thenN ?_
  refine GC.cond rfl (fun hq11 => by cases hq11) (fun _ => ?_)
  refine GC.region ?_
  refine GL.val (Ex.move rfl) (by decide) ?_
  refine GL.val (Ex.move rfl) (by decide) ?_
  refine GL.val (Ex.move rfl) (by decide) ?_
  refine GL.val (v := (.int .i64 24)) (Ex.sub' rfl rfl (Z := 24) (by decide)) (by decide) ?_
  refine GL.step (Stp.callR (vs := [(.slice ad 0 c), (.int .i64 24)]) rfl rfl T.own61 (by decide) (fun wc hw => up_0 ad c 24 wc)) (fun xq12 hq13 => ?_)
  refine GL.val (Ex.assign rfl) (by decide) ?_
  refine GL.nil ?_
  refine GE.thenN ?_
  refine GC.seq ?_
  refine GC.seq ?_
  refine GC.region ?_
  refine GL.val (Ex.move rfl) (by decide) ?_
  refine GL.nil ?_
  refine GE.thenN ?_
  refine GC.cond rfl (fun hq14 => by cases hq14) (fun _ => ?_)
  refine GC.skip ?_
  refine GE.thenN ?_
  refine GC.seq ?_
  refine GC.seq ?_
  refine GC.draw [⟨bq2, [(.int .i64 2), (.bool false), (.slice ad 0 c), (.int .i64 ((-23))), (.bool false)], 38, true⟩, ⟨bq1, [(.int .i64 23), (.int .i64 8)], 67, true⟩] T.mixed (fuel := 6) rfl rfl ?_
  refine GH.take 0 (v := (.slice none 0 0)) rfl (by kernel_rfl) (by kernel_rfl) (by kernel_rfl) (fun _ _ _ h => h) (Ex.move rfl) (ulC (ulC ulN)) (by decide) ?_
  refine GH.take 2 (v := (.pointer (some ⟨bq1, 0, none⟩))) rfl (by kernel_rfl) (by kernel_rfl) (by kernel_rfl) (fun _ _ _ h => h) (Ex.cast (Ex.fieldAddr rfl Try.underlying67 rfl T.sz3 (by decide)) rfl) (ulC (ulC ulN)) (by decide) ?_
  refine GH.take 3 (v := (.int .i64 23)) rfl (by kernel_rfl) (by kernel_rfl) (by kernel_rfl) (fun _ _ _ h => h) (Ex.load rfl T.ag3 (i := 1) rfl rfl) (ulC (ulC ulN)) (by decide) ?_
  refine GH.take 4 (v := (.int .i64 24)) rfl (by kernel_rfl) (by kernel_rfl) (by kernel_rfl) (fun _ _ _ h => h) (Ex.add rfl rfl (Z := 24) (by decide)) (ulC (ulC ulN)) (by decide) ?_
  refine GH.one 1 rfl (by kernel_rfl) (Stp.callR (vs := [(.slice none 0 0)]) rfl rfl T.own88 (by decide) (fun wc hw => bits_0 none 0 wc)) (fun _ => (ulC (ulC ulN))) (fun xq17 hq18 => ?_)
  refine GH.take 5 (v := (.bool false)) rfl (by kernel_rfl) (by kernel_rfl) (by kernel_rfl) (fun _ _ _ h => h) (Ex.cast (Ex.gtr rfl rfl) rfl) (ulC (ulC ulN)) (by decide) ?_
  refine GH.done (by kernel_rfl) ?_
  refine GE.thenN ?_
  refine GC.cond rfl (fun hq19 => by cases hq19) (fun _ => ?_)
  refine GC.skip ?_
  refine GE.thenN ?_
  refine GC.seq ?_
  refine GC.region ?_
  refine GL.val (Ex.move rfl) (by decide) ?_
  refine GL.step (Stp.callR (vs := [(.slice none 0 0)]) rfl rfl T.own89 (by decide) (fun wc hw => low_0 none 0 wc)) (fun xq20 hq21 => ?_)
  refine GL.val (Ex.assign rfl) (by decide) ?_
  refine GL.nil ?_
  refine GE.thenN ?_
  refine GC.seq ?_
  refine GC.seq ?_
  refine GC.region ?_
  refine GL.val (Ex.move rfl) (by decide) ?_
  refine GL.val (v := (.pointer (some ⟨bq1, 0, none⟩))) (Ex.cast (Ex.fieldAddr rfl Try.underlying67 rfl T.sz3 (by decide)) rfl) (by decide) ?_
  refine GL.val (Ex.load rfl T.ag3 (i := 1) rfl rfl) (by decide) ?_
  refine GL.val (v := (.int .u64 8388608)) (Ex.shl rfl (m := 23) rfl (by decide) (Z := 8388608) (by decide)) (by decide) ?_
  refine GL.val (v := (.bool true)) (Ex.cast (Ex.lss rfl rfl) rfl) (by decide) ?_
  refine GL.nil ?_
  refine GE.thenN ?_
  refine GC.cond rfl (fun _ => ?_) (fun hq22 => by cases hq22)
  refine GC.seq ?_
  refine GC.region ?_
  refine GL.val (v := (.agg #[(.int .i64 23), (.int .i64 8)])) (Ex.loadA rfl T.ag67 T.sz67 (i := 1) rfl (vs := [(.int .i64 23), (.int .i64 8)]) rfl rfl) (by decide) ?_
  refine GL.val (v := (.pointer (some ⟨bq2, 1, none⟩))) (Ex.cast (Ex.fieldAddr rfl Try.underlying38 rfl T.sz4 (by decide)) rfl) (by decide) ?_
  refine GL.val (Ex.load rfl T.ag4 (i := 0) rfl rfl) (by decide) ?_
  refine GL.step (Stp.callR (vs := [(.agg #[(.int .i64 23), (.int .i64 8)]), (.bool false)]) rfl rfl T.own87 (by decide) (fun wc hw => sign_p false wc)) (fun xq23 hq24 => ?_)
  refine GL.val (Ex.move rfl) (by decide) ?_
  refine GL.val (v := (.int .u64 0)) (Ex.bits rfl rfl (by simp) (Z := 0) (by decide)) (by decide) ?_
  refine GL.val (Ex.assign rfl) (by decide) ?_
  refine GL.nil ?_
  refine GE.thenN ?_
  refine GC.ret ?_
  refine GE.thenR ?_
  refine GC.ret1 rfl (Rv.tmp rfl) (fun wN HN => ?_)
  exact HN.ret () trivial (by rfl) (List.nil_sublist _) rfl

set_option maxRecDepth 100000 in
set_option maxHeartbeats 1000000 in
theorem bitsN (v b c : Nat) (e : Int) (ng : Bool) (w : World) (hv : 0 < v ∧ v < 4294967296) (hc : Rd w b 0 [.int .u32 ((v : Nat) : Int)]) (he : -100 ≤ e ∧ e ≤ 60) :
    Calls Try.prog 67 #[(.agg #[(.int .i64 2), (.bool ng), (.slice (some ⟨b, 0, none⟩) 1 c), (.int .i64 e), (.bool false)])] w (Ret w (fun _ : Unit => True) (fun _ => (.int .u32 ((Lg.sg ng + ((Lg.RD v e : Nat) : Int))))) (fun _ => [])) := by
  refine enter (M := None) (L := []) (n := 7) (l := [(0, (.agg #[(.int .i64 2), (.bool ng), (.slice (some ⟨b, 0, none⟩) 1 c), (.int .i64 e), (.bool false)]))]) Try.func67 rfl rfl (Args.cons rfl (Args.nil _)) (Hp.start _ _) ?_
  refine GC.seq ?_
  refine GC.region ?_
  refine GL.step (Stp.box (cs := [(.int .i64 2), (.bool ng), (.slice (some ⟨b, 0, none⟩) 1 c), (.int .i64 e), (.bool false)]) rfl rfl (by decide)) (fun bq1 _ => ?_)
  refine GL.val (Ex.assign rfl) (by decide) ?_
  refine GL.nil ?_
  refine GE.thenN ?_
  refine GC.seq ?_
  refine GC.drawP [⟨bq1, [(.int .i64 2), (.bool ng), (.slice (some ⟨b, 0, none⟩) 1 c), (.int .i64 e), (.bool false)], 38, true⟩] T.mixed (by kernel_rfl) (by kernel_rfl) (fuel := 4) rfl rfl ?_
  refine GH.take 1 (v := (.agg #[(.int .i64 2), (.bool ng), (.slice (some ⟨b, 0, none⟩) 1 c), (.int .i64 e), (.bool false)])) rfl (by kernel_rfl) (by kernel_rfl) (by kernel_rfl) (fun _ _ _ h => h) (Ex.loadA rfl T.ag38 T.sz38 (i := 0) rfl (vs := [(.int .i64 2), (.bool ng), (.slice (some ⟨b, 0, none⟩) 1 c), (.int .i64 e), (.bool false)]) rfl rfl) (ulC ulN) (by decide) ?_
  refine GH.one 0 rfl (by kernel_rfl) (Stp.callR (vs := []) rfl rfl T.own58 (by decide) (fun wc hw => j58_3  wc )) (fun _ => (ulC ulN)) (fun xq6 hq7 => ?_)
  refine GH.one 2 rfl (by kernel_rfl) (Stp.callR (vs := [(.agg #[(.int .i64 23), (.int .i64 8)]), (.agg #[(.int .i64 2), (.bool ng), (.slice (some ⟨b, 0, none⟩) 1 c), (.int .i64 e), (.bool false)])]) rfl rfl T.own75 (by decide) (fun wc hw => round_pos v b c e ng wc hv (hw.rd hc (fun x => x)) he)) (fun _ => (ulC ulN)) (fun xq8 hq9 => ?_)
  refine GH.take 3 (v := (.int .u32 ((Lg.sg ng + ((Lg.RD v e : Nat) : Int))))) rfl (by kernel_rfl) (by kernel_rfl) (by kernel_rfl) (fun _ _ _ h => h) (Ex.conv rfl Try.underlying70 Try.underlying23 (Z := (Lg.sg ng + ((Lg.RD v e : Nat) : Int))) (wu32b (Lg.RD_bd hv he))) (ulC ulN) (by decide) ?_
  refine GH.done (by kernel_rfl) ?_
  refine GE.thenN ?_
  refine GE.tail rfl (Ex.wp (v := (.int .u32 ((Lg.sg ng + ((Lg.RD v e : Nat) : Int))))) (Ex.assign rfl) (by decide)) (fun _ _ => ?_)
  refine GE.thenN ?_
  refine GC.ret ?_
  refine GC.ret1 rfl (Rv.tmp rfl) (fun wN HN => ?_)
  exact HN.ret () trivial (by rfl) (List.nil_sublist _) rfl

set_option maxRecDepth 100000 in
set_option maxHeartbeats 1000000 in
theorem bitsN_0 (ad : Option Addr) (c : Nat) (w : World) :
    Calls Try.prog 67 #[(.agg #[(.int .i64 2), (.bool false), (.slice ad 0 c), (.int .i64 ((-23))), (.bool false)])] w (Ret w (fun _ : Unit => True) (fun _ => (.int .u32 0)) (fun _ => [])) := by
  refine enter (M := None) (L := []) (n := 7) (l := [(0, (.agg #[(.int .i64 2), (.bool false), (.slice ad 0 c), (.int .i64 ((-23))), (.bool false)]))]) Try.func67 rfl rfl (Args.cons rfl (Args.nil _)) (Hp.start _ _) ?_
  refine GC.seq ?_
  refine GC.region ?_
  refine GL.step (Stp.box (cs := [(.int .i64 2), (.bool false), (.slice ad 0 c), (.int .i64 ((-23))), (.bool false)]) rfl rfl (by decide)) (fun bq1 _ => ?_)
  refine GL.val (Ex.assign rfl) (by decide) ?_
  refine GL.nil ?_
  refine GE.thenN ?_
  refine GC.seq ?_
  refine GC.drawP [⟨bq1, [(.int .i64 2), (.bool false), (.slice ad 0 c), (.int .i64 ((-23))), (.bool false)], 38, true⟩] T.mixed (by kernel_rfl) (by kernel_rfl) (fuel := 4) rfl rfl ?_
  refine GH.take 1 (v := (.agg #[(.int .i64 2), (.bool false), (.slice ad 0 c), (.int .i64 ((-23))), (.bool false)])) rfl (by kernel_rfl) (by kernel_rfl) (by kernel_rfl) (fun _ _ _ h => h) (Ex.loadA rfl T.ag38 T.sz38 (i := 0) rfl (vs := [(.int .i64 2), (.bool false), (.slice ad 0 c), (.int .i64 ((-23))), (.bool false)]) rfl rfl) (ulC ulN) (by decide) ?_
  refine GH.one 0 rfl (by kernel_rfl) (Stp.callR (vs := []) rfl rfl T.own58 (by decide) (fun wc hw => j58_3  wc )) (fun _ => (ulC ulN)) (fun xq6 hq7 => ?_)
  refine GH.one 2 rfl (by kernel_rfl) (Stp.callR (vs := [(.agg #[(.int .i64 23), (.int .i64 8)]), (.agg #[(.int .i64 2), (.bool false), (.slice ad 0 c), (.int .i64 ((-23))), (.bool false)])]) rfl rfl T.own75 (by decide) (fun wc hw => round_0 ad c wc)) (fun _ => (ulC ulN)) (fun xq8 hq9 => ?_)
  refine GH.take 3 (v := (.int .u32 0)) rfl (by kernel_rfl) (by kernel_rfl) (by kernel_rfl) (fun _ _ _ h => h) (Ex.conv rfl Try.underlying70 Try.underlying23 (Z := 0) (by rw [wu32]; omega)) (ulC ulN) (by decide) ?_
  refine GH.done (by kernel_rfl) ?_
  refine GE.thenN ?_
  refine GE.tail rfl (Ex.wp (v := (.int .u32 0)) (Ex.assign rfl) (by decide)) (fun _ _ => ?_)
  refine GE.thenN ?_
  refine GC.ret ?_
  refine GC.ret1 rfl (Rv.tmp rfl) (fun wN HN => ?_)
  exact HN.ret () trivial (by rfl) (List.nil_sublist _) rfl

set_option maxRecDepth 100000 in
set_option maxHeartbeats 1000000 in
theorem scale_n (n : Int) (w : World) (hn : n ≠ 0) (hb : -2147483648 < n ∧ n < 2147483648) :
    Calls Try.prog 47 #[(.int .i64 n), (.int .i64 ((-23)))] w (Ret w (fun _ : Unit => True) (fun _ => (.int .u32 ((Lg.sg (decide (n < 0)) + ((Lg.RD n.natAbs (-23) : Nat) : Int))))) (fun _ => [])) := by
  refine enter (M := None) (L := []) (n := 19) (l := [(0, (.int .i64 n)), (1, (.int .i64 ((-23))))]) Try.func47 rfl rfl (Args.cons rfl (Args.cons rfl (Args.nil _))) (Hp.start _ _) ?_
  refine GC.seq ?_
  refine GC.region ?_
  refine GL.val (Ex.assign rfl) (by decide) ?_
  refine GL.nil ?_
  refine GE.thenN ?_
  refine GC.seq ?_
  refine GC.region ?_
  refine GL.val (Ex.move rfl) (by decide) ?_
  refine GL.val (v := (.int .u64 ((n % 18446744073709551616)))) (Ex.conv rfl Try.underlying2 Try.underlying70 (Z := (n % 18446744073709551616)) (wu64 _)) (by decide) ?_
  refine GL.val (Ex.assign rfl) (by decide) ?_
  refine GL.nil ?_
  refine GE.thenN ?_
  refine GC.seq ?_
  refine GC.seq ?_
  refine GC.region ?_
  refine GL.val (Ex.move rfl) (by decide) ?_
  refine GL.val (v := (.bool (decide (n < 0)))) (Ex.lss rfl rfl) (by decide) ?_
  refine GL.nil ?_
  refine GE.thenN ?_
  refine GC.cond rfl (fun hq1 => ?_) (fun hq1 => ?_)
  · replace hq1 := of_decide_eq_true hq1
    refine GC.region ?_
    refine GL.val (Ex.move rfl) (by decide) ?_
    refine GL.val (v := (.int .u64 (((n.natAbs : Nat) : Int)))) (Ex.neg rfl (Z := ((n.natAbs : Nat) : Int)) (by rw [wu64]; omega)) (by decide) ?_
    refine GL.val (Ex.assign rfl) (by decide) ?_
    refine GL.nil ?_
    refine GE.thenN ?_
    refine GC.seq ?_
    refine GC.region ?_
    refine GL.val (Ex.move rfl) (by decide) ?_
    refine GL.val (v := (.bool (decide (n < 0)))) (Ex.lss rfl rfl) (by decide) ?_
    refine GL.val (Ex.move rfl) (by decide) ?_
    refine GL.step (Stp.callR (vs := [(.int .u64 (((n.natAbs : Nat) : Int)))]) rfl rfl T.own62 (by decide) (fun wc hw => natof_pos n.natAbs wc (by omega))) (fun xq2 hq3 => ?_)
    refine GL.val (Ex.move rfl) (by decide) ?_
    refine GL.val (v := (.agg #[(.int .i64 2), (.bool (decide (n < 0))), (.slice (some ⟨xq2, 0, none⟩) 1 2), (.int .i64 ((-23))), (.bool false)])) (Ex.build (vs := [(0, (.int .i64 2)), (1, (.bool (decide (n < 0)))), (2, (.slice (some ⟨xq2, 0, none⟩) 1 2)), (3, (.int .i64 ((-23))))]) rfl (by first | rfl | kernel_rfl)) (by decide) ?_
    refine GL.step (Stp.callR (vs := [(.agg #[(.int .i64 2), (.bool (decide (n < 0))), (.slice (some ⟨xq2, 0, none⟩) 1 2), (.int .i64 ((-23))), (.bool false)])]) rfl rfl T.own67 (by decide) (fun wc hw => bitsN n.natAbs xq2 2 (-23) (decide (n < 0)) wc (by omega) (Lg.rd1 (hw.rdOf (i := 0) rfl 0)) (by decide))) (fun xq4 hq5 => ?_)
    refine GL.val (Ex.assign rfl) (by decide) ?_
    refine GL.nil ?_
    refine GE.thenN ?_
    refine GC.ret ?_
    refine GC.ret1 rfl (Rv.tmp rfl) (fun wN HN => ?_)
    exact HN.ret () trivial (by rfl) (List.nil_sublist _) rfl
  · replace hq1 := of_decide_eq_false hq1
    refine GC.skip ?_
    refine GE.thenN ?_
    refine GC.seq ?_
    rw [show n % 18446744073709551616 = ((n.natAbs : Nat) : Int) from by omega]
    refine GC.region ?_
    refine GL.val (Ex.move rfl) (by decide) ?_
    refine GL.val (v := (.bool (decide (n < 0)))) (Ex.lss rfl rfl) (by decide) ?_
    refine GL.val (Ex.move rfl) (by decide) ?_
    refine GL.step (Stp.callR (vs := [(.int .u64 (((n.natAbs : Nat) : Int)))]) rfl rfl T.own62 (by decide) (fun wc hw => natof_pos n.natAbs wc (by omega))) (fun xq6 hq7 => ?_)
    refine GL.val (Ex.move rfl) (by decide) ?_
    refine GL.val (v := (.agg #[(.int .i64 2), (.bool (decide (n < 0))), (.slice (some ⟨xq6, 0, none⟩) 1 2), (.int .i64 ((-23))), (.bool false)])) (Ex.build (vs := [(0, (.int .i64 2)), (1, (.bool (decide (n < 0)))), (2, (.slice (some ⟨xq6, 0, none⟩) 1 2)), (3, (.int .i64 ((-23))))]) rfl (by first | rfl | kernel_rfl)) (by decide) ?_
    refine GL.step (Stp.callR (vs := [(.agg #[(.int .i64 2), (.bool (decide (n < 0))), (.slice (some ⟨xq6, 0, none⟩) 1 2), (.int .i64 ((-23))), (.bool false)])]) rfl rfl T.own67 (by decide) (fun wc hw => bitsN n.natAbs xq6 2 (-23) (decide (n < 0)) wc (by omega) (Lg.rd1 (hw.rdOf (i := 0) rfl 0)) (by decide))) (fun xq8 hq9 => ?_)
    refine GL.val (Ex.assign rfl) (by decide) ?_
    refine GL.nil ?_
    refine GE.thenN ?_
    refine GC.ret ?_
    refine GC.ret1 rfl (Rv.tmp rfl) (fun wN HN => ?_)
    exact HN.ret () trivial (by rfl) (List.nil_sublist _) rfl

set_option maxRecDepth 100000 in
set_option maxHeartbeats 1000000 in
theorem scale_0 (w : World) :
    Calls Try.prog 47 #[(.int .i64 0), (.int .i64 ((-23)))] w (Ret w (fun _ : Unit => True) (fun _ => (.int .u32 0)) (fun _ => [])) := by
  refine enter (M := None) (L := []) (n := 19) (l := [(0, (.int .i64 0)), (1, (.int .i64 ((-23))))]) Try.func47 rfl rfl (Args.cons rfl (Args.cons rfl (Args.nil _))) (Hp.start _ _) ?_
  refine GC.seq ?_
  refine GC.region ?_
  refine GL.val (Ex.assign rfl) (by decide) ?_
  refine GL.nil ?_
  refine GE.thenN ?_
  refine GC.seq ?_
  refine GC.region ?_
  refine GL.val (Ex.move rfl) (by decide) ?_
  refine GL.val (v := (.int .u64 0)) (Ex.conv rfl Try.underlying2 Try.underlying70 (Z := 0) (by rw [wu64]; omega)) (by decide) ?_
  refine GL.val (Ex.assign rfl) (by decide) ?_
  refine GL.nil ?_
  refine GE.thenN ?_
  refine GC.seq ?_
  refine GC.seq ?_
  refine GC.region ?_
  refine GL.val (Ex.move rfl) (by decide) ?_
  refine GL.val (v := (.bool false)) (Ex.cast (Ex.lss rfl rfl) rfl) (by decide) ?_
  refine GL.nil ?_
  refine GE.thenN ?_
  refine GC.cond rfl (fun hq1 => by cases hq1) (fun _ => ?_)
  refine GC.skip ?_
  refine GE.thenN ?_
  refine GC.seq ?_
  refine GC.region ?_
  refine GL.val (Ex.move rfl) (by decide) ?_
  refine GL.val (v := (.bool false)) (Ex.cast (Ex.lss rfl rfl) rfl) (by decide) ?_
  refine GL.val (Ex.move rfl) (by decide) ?_
  refine GL.step (Stp.callR (vs := [(.int .u64 0)]) rfl rfl T.own62 (by decide) (fun wc hw => natof_0 wc)) (fun xq2 hq3 => ?_)
  refine GL.val (Ex.move rfl) (by decide) ?_
  refine GL.val (v := (.agg #[(.int .i64 2), (.bool false), (.slice (some ⟨xq2, 0, none⟩) 0 2), (.int .i64 ((-23))), (.bool false)])) (Ex.build (vs := [(0, (.int .i64 2)), (1, (.bool false)), (2, (.slice (some ⟨xq2, 0, none⟩) 0 2)), (3, (.int .i64 ((-23))))]) rfl (by first | rfl | kernel_rfl)) (by decide) ?_
  refine GL.step (Stp.callR (vs := [(.agg #[(.int .i64 2), (.bool false), (.slice (some ⟨xq2, 0, none⟩) 0 2), (.int .i64 ((-23))), (.bool false)])]) rfl rfl T.own67 (by decide) (fun wc hw => bitsN_0 (some ⟨xq2, 0, none⟩) 2 wc)) (fun xq4 hq5 => ?_)
  refine GL.val (Ex.assign rfl) (by decide) ?_
  refine GL.nil ?_
  refine GE.thenN ?_
  refine GC.ret ?_
  refine GC.ret1 rfl (Rv.tmp rfl) (fun wN HN => ?_)
  exact HN.ret () trivial (by rfl) (List.nil_sublist _) rfl

set_option maxRecDepth 100000 in
set_option maxHeartbeats 1000000 in
theorem key_2 (a : Int) (w : World) (ha : 0 ≤ a ∧ a < 4294967296) :
    Calls Try.prog 66 #[(.int .u32 a)] w (Ret w (fun _ : Unit => True) (fun _ => (.int .i64 ((Fv.rk a)))) (fun _ => [])) := by
  refine enter (M := None) (L := []) (n := 12) (l := [(0, (.int .u32 a))]) Try.func66 rfl rfl (Args.cons rfl (Args.nil _)) (Hp.start _ _) ?_
  refine GC.seq ?_
  refine GC.region ?_
  refine GL.val (Ex.assign rfl) (by decide) ?_
  refine GL.nil ?_
  refine GE.thenN ?_
  refine GC.seq ?_
  refine GC.seq ?_
  refine GC.region ?_
  refine GL.val (Ex.move rfl) (by decide) ?_
  refine GL.val (v := (.int .u32 (a / 2147483648))) (Ex.shr rfl (m := 31) rfl (by decide) (Z := a / 2147483648) rfl) (by decide) ?_
  refine GL.val (v := (.bool (decide ((a / 2147483648) = 1)))) (Ex.eql rfl rfl) (by decide) ?_
  refine GL.nil ?_
  refine GE.thenN ?_
  refine GC.cond rfl (fun hq1 => ?_) (fun hq1 => ?_)
  · replace hq1 := of_decide_eq_true hq1
    refine GC.seq ?_
    refine GC.region ?_
    refine GL.val (Ex.move rfl) (by decide) ?_
    refine GL.val (v := (.int .u32 (a % 2147483648))) (Ex.bits rfl rfl (by simp) (Z := a % 2147483648) (andm 31 (by omega) (by omega) (by decide) rfl rfl)) (by decide) ?_
    refine GL.val (v := (.int .i64 (a % 2147483648))) (Ex.conv rfl Try.underlying23 Try.underlying3 (Z := a % 2147483648) (w64 (by omega))) (by decide) ?_
    refine GL.val (v := (.int .i64 (-(a % 2147483648)))) (Ex.neg rfl (Z := -(a % 2147483648)) (by rw [w64 (by omega)]; omega)) (by decide) ?_
    refine GL.val (Ex.assign rfl) (by decide) ?_
    refine GL.nil ?_
    refine GE.thenN ?_
    refine GC.ret ?_
    refine GE.thenR ?_
    refine GC.ret1 rfl (Rv.tmp rfl) (fun wN HN => ?_)
    exact HN.ret () trivial (by unfold Fv.rk; first | rw [if_pos (by omega)] | (rw [if_neg (by omega)]; refine congrArg (Value.int .i64) ?_; omega)) (List.nil_sublist _) rfl
  · replace hq1 := of_decide_eq_false hq1
    refine GC.skip ?_
    refine GE.thenN ?_
    refine GC.seq ?_
    refine GC.region ?_
    refine GL.val (Ex.move rfl) (by decide) ?_
    refine GL.val (v := (.int .i64 a)) (Ex.conv rfl Try.underlying23 Try.underlying3 (Z := a) (w64 (by omega))) (by decide) ?_
    refine GL.val (Ex.assign rfl) (by decide) ?_
    refine GL.nil ?_
    refine GE.thenN ?_
    refine GC.ret ?_
    refine GC.ret1 rfl (Rv.tmp rfl) (fun wN HN => ?_)
    exact HN.ret () trivial (by unfold Fv.rk; first | rw [if_pos (by omega)] | (rw [if_neg (by omega)]; refine congrArg (Value.int .i64) ?_; omega)) (List.nil_sublist _) rfl

set_option maxRecDepth 100000 in
set_option maxHeartbeats 1000000 in
theorem less_2 (a b : Int) (w : World) (ha : 0 ≤ a ∧ a < 4294967296) (hb : 0 ≤ b ∧ b < 4294967296) :
    Calls Try.prog 46 #[(.int .u32 a), (.int .u32 b)] w (Ret w (fun _ : Unit => True) (fun _ => (.bool (decide (a % 2147483648 ≤ 2139095040 ∧ b % 2147483648 ≤ 2139095040 ∧ Fv.rk a < Fv.rk b)))) (fun _ => [])) := by
  refine enter (M := None) (L := []) (n := 20) (l := [(0, (.int .u32 a)), (1, (.int .u32 b))]) Try.func46 rfl rfl (Args.cons rfl (Args.cons rfl (Args.nil _))) (Hp.start _ _) ?_
  refine GC.seq ?_
  refine GC.region ?_
  refine GL.val (Ex.assign rfl) (by decide) ?_
  refine GL.nil ?_
  refine GE.thenN ?_
  refine GC.seq ?_
  refine GC.region ?_
  refine GL.val (Ex.move rfl) (by decide) ?_
  refine GL.step (Stp.callR (vs := [(.int .u32 a)]) rfl rfl T.own38 (by decide) (fun wc hw => isnan_r a wc (by omega))) (fun xq1 hq2 => ?_)
  by_cases hq3 : (2139095040 < a % 2147483648)
  · refine GL.val (v := (.bool false)) (Ex.cast (Ex.not rfl) (congrArg Value.bool (congrArg (fun z => !z) (decide_eq_true hq3)))) (by decide) ?_
    refine GL.val (Ex.move rfl) (by decide) ?_
    refine GL.skipG (tj := 8) rfl rfl rfl (by decide) ?_
    refine GL.skipG (tj := 8) rfl rfl rfl (by decide) ?_
    refine GL.skipG (tj := 8) rfl rfl rfl (by decide) ?_
    refine GL.val (v := (.bool false)) (Ex.pickF rfl rfl) (by decide) ?_
    refine GL.val (Ex.move rfl) (by decide) ?_
    refine GL.skipG (tj := 13) rfl rfl rfl (by decide) ?_
    refine GL.skipG (tj := 13) rfl rfl rfl (by decide) ?_
    refine GL.skipG (tj := 13) rfl rfl rfl (by decide) ?_
    refine GL.skipG (tj := 13) rfl rfl rfl (by decide) ?_
    refine GL.skipG (tj := 13) rfl rfl rfl (by decide) ?_
    refine GL.val (v := (.bool false)) (Ex.pickF rfl rfl) (by decide) ?_
    refine GL.val (Ex.assign rfl) (by decide) ?_
    refine GL.nil ?_
    refine GE.thenN ?_
    refine GC.ret ?_
    refine GC.ret1 rfl (Rv.tmp rfl) (fun wN HN => ?_)
    exact HN.ret () trivial (congrArg Value.bool (by exact (decide_eq_false (by omega)).symm)) (List.nil_sublist _) rfl
  · refine GL.val (v := (.bool true)) (Ex.cast (Ex.not rfl) (congrArg Value.bool (congrArg (fun z => !z) (decide_eq_false hq3)))) (by decide) ?_
    refine GL.val (Ex.move rfl) (by decide) ?_
    refine GL.stepG (tj := 8) rfl rfl (Ex.wp (v := (.int .u32 b)) (Ex.move rfl) (by decide)) (fun _ _ => ?_)
    refine GL.stepG (tj := 8) rfl rfl (Stp.callR (vs := [(.int .u32 b)]) rfl rfl T.own38 (by decide) (fun wc hw => isnan_r b wc (by omega))) (fun xq4 hq5 => ?_)
    by_cases hq6 : (2139095040 < b % 2147483648)
    · refine GL.stepG (tj := 8) rfl rfl (Ex.wp (v := (.bool false)) (Ex.cast (Ex.not rfl) (congrArg Value.bool (congrArg (fun z => !z) (decide_eq_true hq6)))) (by decide)) (fun _ _ => ?_)
      refine GL.val (v := (.bool false)) (Ex.pickT rfl rfl) (by decide) ?_
      refine GL.val (Ex.move rfl) (by decide) ?_
      refine GL.skipG (tj := 13) rfl rfl rfl (by decide) ?_
      refine GL.skipG (tj := 13) rfl rfl rfl (by decide) ?_
      refine GL.skipG (tj := 13) rfl rfl rfl (by decide) ?_
      refine GL.skipG (tj := 13) rfl rfl rfl (by decide) ?_
      refine GL.skipG (tj := 13) rfl rfl rfl (by decide) ?_
      refine GL.val (v := (.bool false)) (Ex.pickF rfl rfl) (by decide) ?_
      refine GL.val (Ex.assign rfl) (by decide) ?_
      refine GL.nil ?_
      refine GE.thenN ?_
      refine GC.ret ?_
      refine GC.ret1 rfl (Rv.tmp rfl) (fun wN HN => ?_)
      exact HN.ret () trivial (congrArg Value.bool (by exact (decide_eq_false (by omega)).symm)) (List.nil_sublist _) rfl
    · refine GL.stepG (tj := 8) rfl rfl (Ex.wp (v := (.bool true)) (Ex.cast (Ex.not rfl) (congrArg Value.bool (congrArg (fun z => !z) (decide_eq_false hq6)))) (by decide)) (fun _ _ => ?_)
      refine GL.val (v := (.bool true)) (Ex.pickT rfl rfl) (by decide) ?_
      refine GL.val (Ex.move rfl) (by decide) ?_
      refine GL.stepG (tj := 13) rfl rfl (Ex.wp (v := (.int .u32 a)) (Ex.move rfl) (by decide)) (fun _ _ => ?_)
      refine GL.stepG (tj := 13) rfl rfl (Stp.callR (vs := [(.int .u32 a)]) rfl rfl T.own66 (by decide) (fun wc hw => key_2 a wc (by first | assumption | omega | exact Bt.lst_bd (by assumption) (by assumption) | exact Bt.gst_bd (by assumption) (by assumption) | exact Bt.key_bd (by assumption) | exact Bt.unkey_bd (by assumption) | exact Bt.nxt_bd (by assumption) | exact Bt.lst_bd (Bt.gst_bd (by assumption) (by assumption)) (by assumption) | exact Bt.btw_bd (by assumption) (Bt.lst_bd (by assumption) (by assumption)) (Bt.gst_bd (by assumption) (by assumption))))) (fun xq7 hq8 => ?_)
      refine GL.stepG (tj := 13) rfl rfl (Ex.wp (v := (.int .u32 b)) (Ex.move rfl) (by decide)) (fun _ _ => ?_)
      refine GL.stepG (tj := 13) rfl rfl (Stp.callR (vs := [(.int .u32 b)]) rfl rfl T.own66 (by decide) (fun wc hw => key_2 b wc (by first | assumption | omega | exact Bt.lst_bd (by assumption) (by assumption) | exact Bt.gst_bd (by assumption) (by assumption) | exact Bt.key_bd (by assumption) | exact Bt.unkey_bd (by assumption) | exact Bt.nxt_bd (by assumption) | exact Bt.lst_bd (Bt.gst_bd (by assumption) (by assumption)) (by assumption) | exact Bt.btw_bd (by assumption) (Bt.lst_bd (by assumption) (by assumption)) (Bt.gst_bd (by assumption) (by assumption))))) (fun xq9 hq10 => ?_)
      refine GL.stepG (tj := 13) rfl rfl (Ex.wp (v := (.bool (decide (((Fv.rk a)) < ((Fv.rk b)))))) (Ex.lss rfl rfl) (by decide)) (fun _ _ => ?_)
      refine GL.val (v := (.bool (decide (((Fv.rk a)) < ((Fv.rk b)))))) (Ex.pickT rfl rfl) (by decide) ?_
      refine GL.val (Ex.assign rfl) (by decide) ?_
      refine GL.nil ?_
      refine GE.thenN ?_
      refine GC.ret ?_
      refine GC.ret1 rfl (Rv.tmp rfl) (fun wN HN => ?_)
      exact HN.ret () trivial (congrArg Value.bool (by exact decide_eq_decide.2 (by omega))) (List.nil_sublist _) rfl

set_option maxRecDepth 100000 in
set_option maxHeartbeats 1000000 in
theorem equal_2 (a b : Int) (w : World) (ha : 0 ≤ a ∧ a < 4294967296) (hb : 0 ≤ b ∧ b < 4294967296) :
    Calls Try.prog 35 #[(.int .u32 a), (.int .u32 b)] w (Ret w (fun _ : Unit => True) (fun _ => (.bool (decide (a % 2147483648 ≤ 2139095040 ∧ b % 2147483648 ≤ 2139095040 ∧ Fv.rk a = Fv.rk b)))) (fun _ => [])) := by
  refine enter (M := None) (L := []) (n := 20) (l := [(0, (.int .u32 a)), (1, (.int .u32 b))]) Try.func35 rfl rfl (Args.cons rfl (Args.cons rfl (Args.nil _))) (Hp.start _ _) ?_
  refine GC.seq ?_
  refine GC.region ?_
  refine GL.val (Ex.assign rfl) (by decide) ?_
  refine GL.nil ?_
  refine GE.thenN ?_
  refine GC.seq ?_
  refine GC.region ?_
  refine GL.val (Ex.move rfl) (by decide) ?_
  refine GL.step (Stp.callR (vs := [(.int .u32 a)]) rfl rfl T.own38 (by decide) (fun wc hw => isnan_r a wc (by omega))) (fun xq1 hq2 => ?_)
  by_cases hq3 : (2139095040 < a % 2147483648)
  · refine GL.val (v := (.bool false)) (Ex.cast (Ex.not rfl) (congrArg Value.bool (congrArg (fun z => !z) (decide_eq_true hq3)))) (by decide) ?_
    refine GL.val (Ex.move rfl) (by decide) ?_
    refine GL.skipG (tj := 8) rfl rfl rfl (by decide) ?_
    refine GL.skipG (tj := 8) rfl rfl rfl (by decide) ?_
    refine GL.skipG (tj := 8) rfl rfl rfl (by decide) ?_
    refine GL.val (v := (.bool false)) (Ex.pickF rfl rfl) (by decide) ?_
    refine GL.val (Ex.move rfl) (by decide) ?_
    refine GL.skipG (tj := 13) rfl rfl rfl (by decide) ?_
    refine GL.skipG (tj := 13) rfl rfl rfl (by decide) ?_
    refine GL.skipG (tj := 13) rfl rfl rfl (by decide) ?_
    refine GL.skipG (tj := 13) rfl rfl rfl (by decide) ?_
    refine GL.skipG (tj := 13) rfl rfl rfl (by decide) ?_
    refine GL.val (v := (.bool false)) (Ex.pickF rfl rfl) (by decide) ?_
    refine GL.val (Ex.assign rfl) (by decide) ?_
    refine GL.nil ?_
    refine GE.thenN ?_
    refine GC.ret ?_
    refine GC.ret1 rfl (Rv.tmp rfl) (fun wN HN => ?_)
    exact HN.ret () trivial (congrArg Value.bool (by exact (decide_eq_false (by omega)).symm)) (List.nil_sublist _) rfl
  · refine GL.val (v := (.bool true)) (Ex.cast (Ex.not rfl) (congrArg Value.bool (congrArg (fun z => !z) (decide_eq_false hq3)))) (by decide) ?_
    refine GL.val (Ex.move rfl) (by decide) ?_
    refine GL.stepG (tj := 8) rfl rfl (Ex.wp (v := (.int .u32 b)) (Ex.move rfl) (by decide)) (fun _ _ => ?_)
    refine GL.stepG (tj := 8) rfl rfl (Stp.callR (vs := [(.int .u32 b)]) rfl rfl T.own38 (by decide) (fun wc hw => isnan_r b wc (by omega))) (fun xq4 hq5 => ?_)
    by_cases hq6 : (2139095040 < b % 2147483648)
    · refine GL.stepG (tj := 8) rfl rfl (Ex.wp (v := (.bool false)) (Ex.cast (Ex.not rfl) (congrArg Value.bool (congrArg (fun z => !z) (decide_eq_true hq6)))) (by decide)) (fun _ _ => ?_)
      refine GL.val (v := (.bool false)) (Ex.pickT rfl rfl) (by decide) ?_
      refine GL.val (Ex.move rfl) (by decide) ?_
      refine GL.skipG (tj := 13) rfl rfl rfl (by decide) ?_
      refine GL.skipG (tj := 13) rfl rfl rfl (by decide) ?_
      refine GL.skipG (tj := 13) rfl rfl rfl (by decide) ?_
      refine GL.skipG (tj := 13) rfl rfl rfl (by decide) ?_
      refine GL.skipG (tj := 13) rfl rfl rfl (by decide) ?_
      refine GL.val (v := (.bool false)) (Ex.pickF rfl rfl) (by decide) ?_
      refine GL.val (Ex.assign rfl) (by decide) ?_
      refine GL.nil ?_
      refine GE.thenN ?_
      refine GC.ret ?_
      refine GC.ret1 rfl (Rv.tmp rfl) (fun wN HN => ?_)
      exact HN.ret () trivial (congrArg Value.bool (by exact (decide_eq_false (by omega)).symm)) (List.nil_sublist _) rfl
    · refine GL.stepG (tj := 8) rfl rfl (Ex.wp (v := (.bool true)) (Ex.cast (Ex.not rfl) (congrArg Value.bool (congrArg (fun z => !z) (decide_eq_false hq6)))) (by decide)) (fun _ _ => ?_)
      refine GL.val (v := (.bool true)) (Ex.pickT rfl rfl) (by decide) ?_
      refine GL.val (Ex.move rfl) (by decide) ?_
      refine GL.stepG (tj := 13) rfl rfl (Ex.wp (v := (.int .u32 a)) (Ex.move rfl) (by decide)) (fun _ _ => ?_)
      refine GL.stepG (tj := 13) rfl rfl (Stp.callR (vs := [(.int .u32 a)]) rfl rfl T.own66 (by decide) (fun wc hw => key_2 a wc (by first | assumption | omega | exact Bt.lst_bd (by assumption) (by assumption) | exact Bt.gst_bd (by assumption) (by assumption) | exact Bt.key_bd (by assumption) | exact Bt.unkey_bd (by assumption) | exact Bt.nxt_bd (by assumption) | exact Bt.lst_bd (Bt.gst_bd (by assumption) (by assumption)) (by assumption) | exact Bt.btw_bd (by assumption) (Bt.lst_bd (by assumption) (by assumption)) (Bt.gst_bd (by assumption) (by assumption))))) (fun xq7 hq8 => ?_)
      refine GL.stepG (tj := 13) rfl rfl (Ex.wp (v := (.int .u32 b)) (Ex.move rfl) (by decide)) (fun _ _ => ?_)
      refine GL.stepG (tj := 13) rfl rfl (Stp.callR (vs := [(.int .u32 b)]) rfl rfl T.own66 (by decide) (fun wc hw => key_2 b wc (by first | assumption | omega | exact Bt.lst_bd (by assumption) (by assumption) | exact Bt.gst_bd (by assumption) (by assumption) | exact Bt.key_bd (by assumption) | exact Bt.unkey_bd (by assumption) | exact Bt.nxt_bd (by assumption) | exact Bt.lst_bd (Bt.gst_bd (by assumption) (by assumption)) (by assumption) | exact Bt.btw_bd (by assumption) (Bt.lst_bd (by assumption) (by assumption)) (Bt.gst_bd (by assumption) (by assumption))))) (fun xq9 hq10 => ?_)
      refine GL.stepG (tj := 13) rfl rfl (Ex.wp (v := (.bool (decide (((Fv.rk a)) = ((Fv.rk b)))))) (Ex.eql rfl rfl) (by decide)) (fun _ _ => ?_)
      refine GL.val (v := (.bool (decide (((Fv.rk a)) = ((Fv.rk b)))))) (Ex.pickT rfl rfl) (by decide) ?_
      refine GL.val (Ex.assign rfl) (by decide) ?_
      refine GL.nil ?_
      refine GE.thenN ?_
      refine GC.ret ?_
      refine GC.ret1 rfl (Rv.tmp rfl) (fun wN HN => ?_)
      exact HN.ret () trivial (congrArg Value.bool (by exact decide_eq_decide.2 (by omega))) (List.nil_sublist _) rfl

set_option maxRecDepth 100000 in
set_option maxHeartbeats 1000000 in
theorem log_r (a : Int) (w : World) (ha : 0 ≤ a ∧ a < 4294967296) :
    Calls Try.prog 19 #[(.int .u32 a)] w (Ret w (fun _ : Unit => True) (fun _ => (.int .u32 ((Sl.LG a)))) (fun _ => [])) := by
  have r0 : Fv.rk 0 = 0 := by decide
  have r1 : Fv.rk 1124073472 = 1124073472 := by decide
  have r2 : Fv.rk 3271426048 = -1123942400 := by decide
  have hrA : a < 2147483648 → Fv.rk a = a := fun h => by unfold Fv.rk; rw [if_pos h]
  have hrB : 2147483648 ≤ a → Fv.rk a = 2147483648 - a := fun h => by unfold Fv.rk; rw [if_neg (by omega)]
  refine enter (M := None) (L := []) (n := 18) (l := [(0, (.int .u32 a))]) Try.func19 rfl rfl (Args.cons rfl (Args.nil _)) (Hp.start _ _) ?_
  refine GC.seq ?_
  refine GC.region ?_
  refine GL.val (Ex.assign rfl) (by decide) ?_
  refine GL.nil ?_
  refine GE.thenN ?_
  refine GC.seq ?_
  refine GC.seq ?_
  refine GC.region ?_
  refine GL.val (Ex.move rfl) (by decide) ?_
  refine GL.step (Stp.callR (vs := [(.int .u32 a)]) rfl rfl T.own38 (by decide) (fun wc hw => isnan_r a wc (by omega))) (fun xq1 hq2 => ?_)
  by_cases hq3 : (2139095040 < a % 2147483648)
  · refine GL.val (v := (.bool true)) (Ex.cast (Ex.move rfl) (congrArg Value.bool (decide_eq_true hq3))) (by decide) ?_
    refine GL.skipG (tj := 5) rfl rfl rfl (by decide) ?_
    refine GL.skipG (tj := 5) rfl rfl rfl (by decide) ?_
    refine GL.val (v := (.bool true)) (Ex.pickT rfl rfl) (by decide) ?_
    refine GL.nil ?_
    refine GE.thenN ?_
    refine GC.cond rfl (fun _ => ?_) (fun hq4 => by cases hq4)
    refine GC.seq ?_
    refine GC.region ?_
    refine GL.val (Ex.assign rfl) (by decide) ?_
    refine GL.nil ?_
    refine GE.thenN ?_
    refine GC.ret ?_
    refine GE.thenR ?_
    refine GC.ret1 rfl (Rv.tmp rfl) (fun wN HN => ?_)
    exact HN.ret () trivial (by rw [Lh.LG_eq ha]; (repeat (first | rw [if_pos (by omega)] | rw [if_neg (by omega)]))) (List.nil_sublist _) rfl
  · refine GL.val (v := (.bool false)) (Ex.cast (Ex.move rfl) (congrArg Value.bool (decide_eq_false hq3))) (by decide) ?_
    refine GL.stepG (tj := 5) rfl rfl (Ex.wp (v := (.int .u32 a)) (Ex.move rfl) (by decide)) (fun _ _ => ?_)
    refine GL.stepG (tj := 5) rfl rfl (Stp.callR (vs := [(.int .u32 a), (.int .u32 0)]) rfl rfl T.own46 (by decide) (fun wc hw => less_2 a 0 wc (by first | assumption | omega | exact Bt.lst_bd (by assumption) (by assumption) | exact Bt.gst_bd (by assumption) (by assumption) | exact Bt.key_bd (by assumption) | exact Bt.unkey_bd (by assumption) | exact Bt.nxt_bd (by assumption) | exact Bt.lst_bd (Bt.gst_bd (by assumption) (by assumption)) (by assumption) | exact Bt.btw_bd (by assumption) (Bt.lst_bd (by assumption) (by assumption)) (Bt.gst_bd (by assumption) (by assumption))) (by first | assumption | omega | exact Bt.lst_bd (by assumption) (by assumption) | exact Bt.gst_bd (by assumption) (by assumption) | exact Bt.key_bd (by assumption) | exact Bt.unkey_bd (by assumption) | exact Bt.nxt_bd (by assumption) | exact Bt.lst_bd (Bt.gst_bd (by assumption) (by assumption)) (by assumption) | exact Bt.btw_bd (by assumption) (Bt.lst_bd (by assumption) (by assumption)) (Bt.gst_bd (by assumption) (by assumption))))) (fun xq5 hq6 => ?_)
    refine GL.val (v := (.bool (decide (a % 2147483648 ≤ 2139095040 ∧ 0 % 2147483648 ≤ 2139095040 ∧ Fv.rk a < Fv.rk 0)))) (Ex.pickF rfl rfl) (by decide) ?_
    refine GL.nil ?_
    refine GE.thenN ?_
    refine GC.cond rfl (fun hq7 => ?_) (fun hq7 => ?_)
    · replace hq7 := of_decide_eq_true hq7
      refine GC.seq ?_
      refine GC.region ?_
      refine GL.val (Ex.assign rfl) (by decide) ?_
      refine GL.nil ?_
      refine GE.thenN ?_
      refine GC.ret ?_
      refine GE.thenR ?_
      refine GC.ret1 rfl (Rv.tmp rfl) (fun wN HN => ?_)
      exact HN.ret () trivial (by rw [Lh.LG_eq ha]; (repeat (first | rw [if_pos (by omega)] | rw [if_neg (by omega)]))) (List.nil_sublist _) rfl
    · replace hq7 := of_decide_eq_false hq7
      refine GC.skip ?_
      refine GE.thenN ?_
      refine GC.seq ?_
      refine GC.seq ?_
      refine GC.region ?_
      refine GL.val (Ex.move rfl) (by decide) ?_
      refine GL.step (Stp.callR (vs := [(.int .u32 a), (.int .u32 0)]) rfl rfl T.own35 (by decide) (fun wc hw => equal_2 a 0 wc (by first | assumption | omega | exact Bt.lst_bd (by assumption) (by assumption) | exact Bt.gst_bd (by assumption) (by assumption) | exact Bt.key_bd (by assumption) | exact Bt.unkey_bd (by assumption) | exact Bt.nxt_bd (by assumption) | exact Bt.lst_bd (Bt.gst_bd (by assumption) (by assumption)) (by assumption) | exact Bt.btw_bd (by assumption) (Bt.lst_bd (by assumption) (by assumption)) (Bt.gst_bd (by assumption) (by assumption))) (by first | assumption | omega | exact Bt.lst_bd (by assumption) (by assumption) | exact Bt.gst_bd (by assumption) (by assumption) | exact Bt.key_bd (by assumption) | exact Bt.unkey_bd (by assumption) | exact Bt.nxt_bd (by assumption) | exact Bt.lst_bd (Bt.gst_bd (by assumption) (by assumption)) (by assumption) | exact Bt.btw_bd (by assumption) (Bt.lst_bd (by assumption) (by assumption)) (Bt.gst_bd (by assumption) (by assumption))))) (fun xq8 hq9 => ?_)
      refine GL.nil ?_
      refine GE.thenN ?_
      refine GC.cond rfl (fun hq10 => ?_) (fun hq10 => ?_)
      · replace hq10 := of_decide_eq_true hq10
        refine GC.seq ?_
        refine GC.region ?_
        refine GL.val (Ex.assign rfl) (by decide) ?_
        refine GL.nil ?_
        refine GE.thenN ?_
        refine GC.ret ?_
        refine GE.thenR ?_
        refine GC.ret1 rfl (Rv.tmp rfl) (fun wN HN => ?_)
        exact HN.ret () trivial (by rw [Lh.LG_eq ha]; (repeat (first | rw [if_pos (by omega)] | rw [if_neg (by omega)]))) (List.nil_sublist _) rfl
      · replace hq10 := of_decide_eq_false hq10
        refine GC.skip ?_
        refine GE.thenN ?_
        refine GC.seq ?_
        refine GC.seq ?_
        refine GC.region ?_
        refine GL.val (Ex.move rfl) (by decide) ?_
        refine GL.val (v := (.bool (decide (a = 2139095040)))) (Ex.eql rfl rfl) (by decide) ?_
        refine GL.nil ?_
        refine GE.thenN ?_
        refine GC.cond rfl (fun hq11 => ?_) (fun hq11 => ?_)
        · replace hq11 := of_decide_eq_true hq11
          refine GC.seq ?_
          refine GC.region ?_
          refine GL.val (Ex.move rfl) (by decide) ?_
          refine GL.val (Ex.assign rfl) (by decide) ?_
          refine GL.nil ?_
          refine GE.thenN ?_
          refine GC.ret ?_
          refine GE.thenR ?_
          refine GC.ret1 rfl (Rv.tmp rfl) (fun wN HN => ?_)
          exact HN.ret () trivial (by rw [Lh.LG_eq ha]; (repeat (first | rw [if_pos (by omega)] | rw [if_neg (by omega)]))) (List.nil_sublist _) rfl
        · replace hq11 := of_decide_eq_false hq11
          refine GC.skip ?_
          refine GE.thenN ?_
          refine GC.seq ?_
          by_cases e1 : a = 1065353216
          · refine GC.region ?_
            refine GL.val (Ex.move rfl) (by decide) ?_
            refine GL.val (v := (.int .i64 a)) (Ex.conv rfl Try.underlying23 Try.underlying2 (Z := a) (w64 (by omega))) (by decide) ?_
            refine GL.val (v := (.int .i64 (a - 1065353216))) (Ex.sub' rfl rfl (Z := a - 1065353216) (w64 (by omega))) (by decide) ?_
            refine GL.step (Stp.callR (σ := Unit) (p := fun rz => True) (v := fun rz => (.int .u32 0)) (N := fun rz => []) (vs := [(.int .i64 (a - 1065353216)), (.int .i64 (-23))]) rfl rfl T.own47 (by decide) (fun wc hw => (by rw [show a - 1065353216 = 0 by omega]; exact scale_0 wc))) (fun xq12 hq13 => ?_)
            refine GL.val (Ex.assign rfl) (by decide) ?_
            refine GL.nil ?_
            refine GE.thenN ?_
            refine GC.ret ?_
            refine GC.ret1 rfl (Rv.tmp rfl) (fun wN HN => ?_)
            exact HN.ret () trivial (by rw [Lh.LG_eq ha]; (repeat (first | rw [if_pos (by omega)] | rw [if_neg (by omega)])); rw [e1, Lh.lq_zero]) (List.nil_sublist _) rfl
          · refine GC.region ?_
            refine GL.val (Ex.move rfl) (by decide) ?_
            refine GL.val (v := (.int .i64 a)) (Ex.conv rfl Try.underlying23 Try.underlying2 (Z := a) (w64 (by omega))) (by decide) ?_
            refine GL.val (v := (.int .i64 (a - 1065353216))) (Ex.sub' rfl rfl (Z := a - 1065353216) (w64 (by omega))) (by decide) ?_
            refine GL.step (Stp.callR (vs := [(.int .i64 (a - 1065353216)), (.int .i64 (-23))]) rfl rfl T.own47 (by decide) (fun wc hw => scale_n (a - 1065353216) wc (by omega) (by omega))) (fun xq14 hq15 => ?_)
            refine GL.val (Ex.assign rfl) (by decide) ?_
            refine GL.nil ?_
            refine GE.thenN ?_
            refine GC.ret ?_
            refine GC.ret1 rfl (Rv.tmp rfl) (fun wN HN => ?_)
            exact HN.ret () trivial (by rw [Lh.LG_eq ha]; (repeat (first | rw [if_pos (by omega)] | rw [if_neg (by omega)])); rw [Lh.lq_told (by omega) e1]) (List.nil_sublist _) rfl

set_option maxRecDepth 100000 in
set_option maxHeartbeats 1000000 in
theorem of_pos (a : Int) (v : Nat) (w : World) (ha : 0 ≤ a ∧ a < 4294967296) (hf : a % 2147483648 < 2139095040) (hm : Bt.mant a = ((v : Nat) : Int)) (hv : 0 < v) :
    Calls Try.prog 59 #[(.agg #[(.int .i64 23), (.int .i64 8)]), (.int .u64 a)] w (Ret w (fun _ : Nat => True) (fun z => (.agg #[(.int .i64 2), (.bool ((decide (a / 2147483648 % 2 = 1)))), (.slice (some ⟨z, 0, none⟩) 1 2), (.int .i64 ((Bt.expo a))), (.bool false)])) (fun z => [⟨z, [(.int .u32 (((v : Nat) : Int))), (.int .u32 0)], 23, true⟩])) := by
  refine enter (M := None) (L := []) (n := 61) (l := [(0, (.agg #[(.int .i64 23), (.int .i64 8)])), (1, (.int .u64 a))]) Try.func59 rfl rfl (Args.cons rfl (Args.cons rfl (Args.nil _))) (Hp.start _ _) ?_
  refine GC.seq ?_
  refine GC.region ?_
  refine GL.step (Stp.box (cs := [(.int .i64 23), (.int .i64 8)]) rfl rfl (by decide)) (fun bq1 _ => ?_)
  refine GL.step (Stp.alloc T.zr38 (by decide)) (fun bq2 _ => ?_)
  refine GL.nil ?_
  refine GE.thenN ?_
  refine GC.seq ?_
  refine GC.region ?_
  refine GL.val (Ex.move rfl) (by decide) ?_
  refine GL.val (v := (.pointer (some ⟨bq1, 0, none⟩))) (Ex.cast (Ex.fieldAddr rfl Try.underlying67 rfl T.sz3 (by decide)) rfl) (by decide) ?_
  refine GL.val (Ex.load rfl T.ag3 (i := 1) rfl rfl) (by decide) ?_
  refine GL.val (v := (.pointer (some ⟨bq1, 1, none⟩))) (Ex.cast (Ex.fieldAddr rfl Try.underlying67 rfl T.sz3 (by decide)) rfl) (by decide) ?_
  refine GL.val (Ex.load rfl T.ag3 (i := 1) rfl rfl) (by decide) ?_
  refine GL.val (v := (.int .i64 31)) (Ex.add rfl rfl (Z := 31) (by decide)) (by decide) ?_
  refine GL.val (v := (.int .u64 (a / 2147483648))) (Ex.shr rfl (m := 31) rfl (by decide) (Z := a / 2147483648) rfl) (by decide) ?_
  refine GL.val (v := (.int .u64 (a / 2147483648 % 2))) (Ex.bits rfl rfl (by simp) (Z := a / 2147483648 % 2) (andm64 1 (by omega) (by omega) (by omega) rfl rfl)) (by decide) ?_
  refine GL.val (v := (.bool (decide ((a / 2147483648 % 2) = 1)))) (Ex.eql rfl rfl) (by decide) ?_
  refine GL.val (Ex.assign rfl) (by decide) ?_
  refine GL.nil ?_
  refine GE.thenN ?_
  refine GC.seq ?_
  refine GC.drawP [⟨bq2, [(.int .i64 0), (.bool false), (.slice none 0 0), (.int .i64 0), (.bool false)], 38, true⟩, ⟨bq1, [(.int .i64 23), (.int .i64 8)], 67, true⟩] T.mixed (by kernel_rfl) (by kernel_rfl) (fuel := 7) rfl rfl ?_
  refine GH.take 0 (v := (.int .u64 a)) rfl (by kernel_rfl) (by kernel_rfl) (by kernel_rfl) (fun _ _ _ h => h) (Ex.move rfl) (ulC (ulC ulN)) (by decide) ?_
  refine GH.take 1 (v := (.pointer (some ⟨bq1, 0, none⟩))) rfl (by kernel_rfl) (by kernel_rfl) (by kernel_rfl) (fun _ _ _ h => h) (Ex.cast (Ex.fieldAddr rfl Try.underlying67 rfl T.sz3 (by decide)) rfl) (ulC (ulC ulN)) (by decide) ?_
  refine GH.take 2 (v := (.int .i64 23)) rfl (by kernel_rfl) (by kernel_rfl) (by kernel_rfl) (fun _ _ _ h => h) (Ex.load rfl T.ag3 (i := 1) rfl rfl) (ulC (ulC ulN)) (by decide) ?_
  refine GH.take 3 (v := (.int .u64 (a / 8388608))) rfl (by kernel_rfl) (by kernel_rfl) (by kernel_rfl) (fun _ _ _ h => h) (Ex.shr rfl (m := 23) rfl (by decide) (Z := a / 8388608) rfl) (ulC (ulC ulN)) (by decide) ?_
  refine GH.take 4 (v := (.agg #[(.int .i64 23), (.int .i64 8)])) rfl (by kernel_rfl) (by kernel_rfl) (by kernel_rfl) (fun _ _ _ h => h) (Ex.loadA rfl T.ag67 T.sz67 (i := 1) rfl (vs := [(.int .i64 23), (.int .i64 8)]) rfl rfl) (ulC (ulC ulN)) (by decide) ?_
  refine GH.one 5 rfl (by kernel_rfl) (Stp.callR (vs := [(.agg #[(.int .i64 23), (.int .i64 8)])]) rfl rfl T.own82 (by decide) (fun wc hw => j82_1  wc )) (fun _ => (ulC (ulC ulN))) (fun xq3 hq4 => ?_)
  refine GH.take 6 (v := (.int .u64 (a / 8388608 % 256))) rfl (by kernel_rfl) (by kernel_rfl) (by kernel_rfl) (fun _ _ _ h => h) (Ex.bits rfl rfl (by simp) (Z := a / 8388608 % 256) (andm64 8 (by omega) (by omega) (by omega) rfl rfl)) (ulC (ulC ulN)) (by decide) ?_
  refine GH.done (by kernel_rfl) ?_
  refine GE.thenN ?_
  refine GE.tail rfl (Ex.wp (v := (.int .u64 (a / 8388608 % 256))) (Ex.assign rfl) (by decide)) (fun _ _ => ?_)
  refine GE.thenN ?_
  refine GC.seq ?_
  refine GC.region ?_
  refine GL.val (Ex.move rfl) (by decide) ?_
  refine GL.val (v := (.pointer (some ⟨bq1, 0, none⟩))) (Ex.cast (Ex.fieldAddr rfl Try.underlying67 rfl T.sz3 (by decide)) rfl) (by decide) ?_
  refine GL.val (Ex.load rfl T.ag3 (i := 1) rfl rfl) (by decide) ?_
  refine GL.val (v := (.int .u64 8388608)) (Ex.shl rfl (m := 23) rfl (by decide) (Z := 8388608) (by decide)) (by decide) ?_
  refine GL.val (v := (.int .u64 8388607)) (Ex.sub' rfl rfl (Z := 8388607) (by decide)) (by decide) ?_
  refine GL.val (v := (.int .u64 (a % 8388608))) (Ex.bits rfl rfl (by simp) (Z := a % 8388608) (andm64 23 (by omega) (by omega) (by omega) rfl rfl)) (by decide) ?_
  refine GL.val (Ex.assign rfl) (by decide) ?_
  refine GL.nil ?_
  refine GE.thenN ?_
  refine GC.seq ?_
  refine GC.seq ?_
  refine GC.region ?_
  refine GL.val (Ex.move rfl) (by decide) ?_
  refine GL.val (v := (.agg #[(.int .i64 23), (.int .i64 8)])) (Ex.loadA rfl T.ag67 T.sz67 (i := 1) rfl (vs := [(.int .i64 23), (.int .i64 8)]) rfl rfl) (by decide) ?_
  refine GL.step (Stp.callR (vs := [(.agg #[(.int .i64 23), (.int .i64 8)])]) rfl rfl T.own82 (by decide) (fun wc hw => j82_1  wc )) (fun xq5 hq6 => ?_)
  refine GL.val (v := (.bool (decide ((a / 8388608 % 256) = 255)))) (Ex.eql rfl rfl) (by decide) ?_
  refine GL.nil ?_
  refine GE.thenN ?_
  refine GC.cond rfl (fun hq7 => ?_) (fun hq7 => ?_)
  · replace hq7 := of_decide_eq_true hq7
    exfalso; omega
  · replace hq7 := of_decide_eq_false hq7
    refine GC.skip ?_
    refine GE.thenN ?_
    refine GC.seq ?_
    refine GC.seq ?_
    refine GC.region ?_
    refine GL.val (Ex.move rfl) (by decide) ?_
    refine GL.val (v := (.bool (decide ((a / 8388608 % 256) = 0)))) (Ex.eql rfl rfl) (by decide) ?_
    refine GL.nil ?_
    refine GE.thenN ?_
    refine GC.cond rfl (fun hq8 => ?_) (fun hq8 => ?_)
    · replace hq8 := of_decide_eq_true hq8
      refine GC.seq ?_
      refine GC.drawP [⟨bq2, [(.int .i64 0), (.bool false), (.slice none 0 0), (.int .i64 0), (.bool false)], 38, true⟩, ⟨bq1, [(.int .i64 23), (.int .i64 8)], 67, true⟩] T.mixed (by kernel_rfl) (by kernel_rfl) (fuel := 7) rfl rfl ?_
      refine GH.take 0 (v := (.bool (decide ((a / 2147483648 % 2) = 1)))) rfl (by kernel_rfl) (by kernel_rfl) (by kernel_rfl) (fun _ _ _ h => h) (Ex.move rfl) (ulC (ulC ulN)) (by decide) ?_
      refine GH.take 1 (v := (.int .u64 (a % 8388608))) rfl (by kernel_rfl) (by kernel_rfl) (by kernel_rfl) (fun _ _ _ h => h) (Ex.move rfl) (ulC (ulC ulN)) (by decide) ?_
      refine GH.take 3 (v := (.agg #[(.int .i64 23), (.int .i64 8)])) rfl (by kernel_rfl) (by kernel_rfl) (by kernel_rfl) (fun _ _ _ h => h) (Ex.loadA rfl T.ag67 T.sz67 (i := 1) rfl (vs := [(.int .i64 23), (.int .i64 8)]) rfl rfl) (ulC (ulC ulN)) (by decide) ?_
      refine GH.one 2 rfl (by kernel_rfl) (Stp.callR (vs := [(.int .u64 (a % 8388608))]) rfl rfl T.own62 (by decide) (fun wc hw => natof_r (a % 8388608) wc (by omega))) (fun _ => (ulS (ulC (ulC ulN)))) (fun xq9 hq10 => ?_)
      refine GH.one 4 rfl (by kernel_rfl) (Stp.callR (vs := [(.agg #[(.int .i64 23), (.int .i64 8)])]) rfl rfl T.own83 (by decide) (fun wc hw => j83_2  wc )) (fun _ => (ulS (ulC (ulC ulN)))) (fun xq11 hq12 => ?_)
      refine GH.take 5 (v := (.int .i64 (-149))) rfl (by kernel_rfl) (by kernel_rfl) (by kernel_rfl) (fun _ _ _ h => h) (Ex.sub' rfl rfl (Z := -149) (by decide)) (ulS (ulC (ulC ulN))) (by decide) ?_
      refine GH.take 6 (v := (.agg #[(.int .i64 2), (.bool (decide ((a / 2147483648 % 2) = 1))), (.slice (some ⟨xq9, 0, none⟩) ((if a % 8388608 = 0 then 0 else 1)) 2), (.int .i64 (-149)), (.bool false)])) rfl (by kernel_rfl) (by kernel_rfl) (by kernel_rfl) (fun _ _ _ h => h) (Ex.build (vs := [(0, (.int .i64 2)), (1, (.bool (decide ((a / 2147483648 % 2) = 1)))), (2, (.slice (some ⟨xq9, 0, none⟩) ((if a % 8388608 = 0 then 0 else 1)) 2)), (3, (.int .i64 (-149)))]) rfl (by first | rfl | kernel_rfl)) (ulS (ulC (ulC ulN))) (by decide) ?_
      refine GH.done (by kernel_rfl) ?_
      refine GE.thenN ?_
      refine GE.tail rfl (Stp.st1 (cs' := [(.int .i64 2), (.bool (decide ((a / 2147483648 % 2) = 1))), (.slice (some ⟨xq9, 0, none⟩) ((if a % 8388608 = 0 then 0 else 1)) 2), (.int .i64 (-149)), (.bool false)]) rfl rfl rfl T.sz38 rfl rfl rfl) (fun _ _ => ?_)
      refine GE.thenN ?_
      refine GC.ret ?_
      refine GE.thenR ?_
      refine GC.ret1 rfl (Rv.cellA rfl T.ag38 T.sz38 (L := _) (i := 1) rfl (vs := [(.int .i64 2), (.bool (decide ((a / 2147483648 % 2) = 1))), (.slice (some ⟨xq9, 0, none⟩) ((if a % 8388608 = 0 then 0 else 1)) 2), (.int .i64 (-149)), (.bool false)]) rfl rfl) (fun wN HN => ?_)
      have ex : a % 8388608 = ((v : Nat) : Int) := by rw [← hm]; unfold Bt.mant; first | rw [if_pos (by omega)] | rw [if_neg (by omega)]
      have ee : -149 = Bt.expo a := by unfold Bt.expo; first | rw [if_pos (by omega)] | rw [if_neg (by omega)]
      rw [ex] at HN
      exact HN.ret xq9 trivial (by rw [ex, ← ee, if_neg (by omega)]) (ulC (ulS (ulS ulN))) rfl
    · replace hq8 := of_decide_eq_false hq8
      refine GC.skip ?_
      refine GE.thenN ?_
      refine GC.seq ?_
      refine GC.drawP [⟨bq2, [(.int .i64 0), (.bool false), (.slice none 0 0), (.int .i64 0), (.bool false)], 38, true⟩, ⟨bq1, [(.int .i64 23), (.int .i64 8)], 67, true⟩] T.mixed (by kernel_rfl) (by kernel_rfl) (fuel := 13) rfl rfl ?_
      refine GH.take 0 (v := (.bool (decide ((a / 2147483648 % 2) = 1)))) rfl (by kernel_rfl) (by kernel_rfl) (by kernel_rfl) (fun _ _ _ h => h) (Ex.move rfl) (ulC (ulC ulN)) (by decide) ?_
      refine GH.take 1 (v := (.int .u64 (a % 8388608))) rfl (by kernel_rfl) (by kernel_rfl) (by kernel_rfl) (fun _ _ _ h => h) (Ex.move rfl) (ulC (ulC ulN)) (by decide) ?_
      refine GH.take 2 (v := (.pointer (some ⟨bq1, 0, none⟩))) rfl (by kernel_rfl) (by kernel_rfl) (by kernel_rfl) (fun _ _ _ h => h) (Ex.cast (Ex.fieldAddr rfl Try.underlying67 rfl T.sz3 (by decide)) rfl) (ulC (ulC ulN)) (by decide) ?_
      refine GH.take 3 (v := (.int .i64 23)) rfl (by kernel_rfl) (by kernel_rfl) (by kernel_rfl) (fun _ _ _ h => h) (Ex.load rfl T.ag3 (i := 1) rfl rfl) (ulC (ulC ulN)) (by decide) ?_
      refine GH.take 4 (v := (.int .u64 8388608)) rfl (by kernel_rfl) (by kernel_rfl) (by kernel_rfl) (fun _ _ _ h => h) (Ex.shl rfl (m := 23) rfl (by decide) (Z := 8388608) (by decide)) (ulC (ulC ulN)) (by decide) ?_
      refine GH.take 5 (v := (.int .u64 (a % 8388608 + 8388608))) rfl (by kernel_rfl) (by kernel_rfl) (by kernel_rfl) (fun _ _ _ h => h) (Ex.bits rfl rfl (by simp) (Z := a % 8388608 + 8388608) (orm64 23 (by omega) (by omega) rfl rfl)) (ulC (ulC ulN)) (by decide) ?_
      refine GH.take 7 (v := (.int .u64 (a / 8388608 % 256))) rfl (by kernel_rfl) (by kernel_rfl) (by kernel_rfl) (fun _ _ _ h => h) (Ex.move rfl) (ulC (ulC ulN)) (by decide) ?_
      refine GH.take 8 (v := (.int .i64 (a / 8388608 % 256))) rfl (by kernel_rfl) (by kernel_rfl) (by kernel_rfl) (fun _ _ _ h => h) (Ex.conv rfl Try.underlying70 Try.underlying3 (Z := a / 8388608 % 256) (w64 (by omega))) (ulC (ulC ulN)) (by decide) ?_
      refine GH.take 9 (v := (.agg #[(.int .i64 23), (.int .i64 8)])) rfl (by kernel_rfl) (by kernel_rfl) (by kernel_rfl) (fun _ _ _ h => h) (Ex.loadA rfl T.ag67 T.sz67 (i := 1) rfl (vs := [(.int .i64 23), (.int .i64 8)]) rfl rfl) (ulC (ulC ulN)) (by decide) ?_
      refine GH.one 6 rfl (by kernel_rfl) (Stp.callR (vs := [(.int .u64 (a % 8388608 + 8388608))]) rfl rfl T.own62 (by decide) (fun wc hw => natof_r (a % 8388608 + 8388608) wc (by omega))) (fun _ => (ulS (ulC (ulC ulN)))) (fun xq13 hq14 => ?_)
      refine GH.one 10 rfl (by kernel_rfl) (Stp.callR (vs := [(.agg #[(.int .i64 23), (.int .i64 8)])]) rfl rfl T.own83 (by decide) (fun wc hw => j83_2  wc )) (fun _ => (ulS (ulC (ulC ulN)))) (fun xq15 hq16 => ?_)
      refine GH.take 11 (v := (.int .i64 ((a / 8388608 % 256) - 150))) rfl (by kernel_rfl) (by kernel_rfl) (by kernel_rfl) (fun _ _ _ h => h) (Ex.sub' rfl rfl (Z := (a / 8388608 % 256) - 150) (w64 (by omega))) (ulS (ulC (ulC ulN))) (by decide) ?_
      refine GH.take 12 (v := (.agg #[(.int .i64 2), (.bool (decide ((a / 2147483648 % 2) = 1))), (.slice (some ⟨xq13, 0, none⟩) ((if a % 8388608 + 8388608 = 0 then 0 else 1)) 2), (.int .i64 ((a / 8388608 % 256) - 150)), (.bool false)])) rfl (by kernel_rfl) (by kernel_rfl) (by kernel_rfl) (fun _ _ _ h => h) (Ex.build (vs := [(0, (.int .i64 2)), (1, (.bool (decide ((a / 2147483648 % 2) = 1)))), (2, (.slice (some ⟨xq13, 0, none⟩) ((if a % 8388608 + 8388608 = 0 then 0 else 1)) 2)), (3, (.int .i64 ((a / 8388608 % 256) - 150)))]) rfl (by first | rfl | kernel_rfl)) (ulS (ulC (ulC ulN))) (by decide) ?_
      refine GH.done (by kernel_rfl) ?_
      refine GE.thenN ?_
      refine GE.tail rfl (Stp.st1 (cs' := [(.int .i64 2), (.bool (decide ((a / 2147483648 % 2) = 1))), (.slice (some ⟨xq13, 0, none⟩) ((if a % 8388608 + 8388608 = 0 then 0 else 1)) 2), (.int .i64 ((a / 8388608 % 256) - 150)), (.bool false)]) rfl rfl rfl T.sz38 rfl rfl rfl) (fun _ _ => ?_)
      refine GE.thenN ?_
      refine GC.ret ?_
      refine GC.ret1 rfl (Rv.cellA rfl T.ag38 T.sz38 (L := _) (i := 1) rfl (vs := [(.int .i64 2), (.bool (decide ((a / 2147483648 % 2) = 1))), (.slice (some ⟨xq13, 0, none⟩) ((if a % 8388608 + 8388608 = 0 then 0 else 1)) 2), (.int .i64 ((a / 8388608 % 256) - 150)), (.bool false)]) rfl rfl) (fun wN HN => ?_)
      have ex : a % 8388608 + 8388608 = ((v : Nat) : Int) := by rw [← hm]; unfold Bt.mant; first | rw [if_pos (by omega)] | rw [if_neg (by omega)]
      have ee : (a / 8388608 % 256) - 150 = Bt.expo a := by unfold Bt.expo; first | rw [if_pos (by omega)] | rw [if_neg (by omega)]
      rw [ex] at HN
      exact HN.ret xq13 trivial (by rw [ex, ← ee, if_neg (by omega)]) (ulC (ulS (ulS ulN))) rfl

set_option maxRecDepth 100000 in
set_option maxHeartbeats 1000000 in
theorem of_zero (a : Int) (w : World) (ha : 0 ≤ a ∧ a < 4294967296) (hf : a % 2147483648 < 2139095040) (hm : a % 2147483648 = 0) :
    Calls Try.prog 59 #[(.agg #[(.int .i64 23), (.int .i64 8)]), (.int .u64 a)] w (Ret w (fun _ : Nat => True) (fun z => (.agg #[(.int .i64 2), (.bool ((decide (a / 2147483648 % 2 = 1)))), (.slice (some ⟨z, 0, none⟩) 0 2), (.int .i64 ((-149))), (.bool false)])) (fun z => [⟨z, [(.int .u32 0), (.int .u32 0)], 23, true⟩])) := by
  refine enter (M := None) (L := []) (n := 61) (l := [(0, (.agg #[(.int .i64 23), (.int .i64 8)])), (1, (.int .u64 a))]) Try.func59 rfl rfl (Args.cons rfl (Args.cons rfl (Args.nil _))) (Hp.start _ _) ?_
  refine GC.seq ?_
  refine GC.region ?_
  refine GL.step (Stp.box (cs := [(.int .i64 23), (.int .i64 8)]) rfl rfl (by decide)) (fun bq1 _ => ?_)
  refine GL.step (Stp.alloc T.zr38 (by decide)) (fun bq2 _ => ?_)
  refine GL.nil ?_
  refine GE.thenN ?_
  refine GC.seq ?_
  refine GC.region ?_
  refine GL.val (Ex.move rfl) (by decide) ?_
  refine GL.val (v := (.pointer (some ⟨bq1, 0, none⟩))) (Ex.cast (Ex.fieldAddr rfl Try.underlying67 rfl T.sz3 (by decide)) rfl) (by decide) ?_
  refine GL.val (Ex.load rfl T.ag3 (i := 1) rfl rfl) (by decide) ?_
  refine GL.val (v := (.pointer (some ⟨bq1, 1, none⟩))) (Ex.cast (Ex.fieldAddr rfl Try.underlying67 rfl T.sz3 (by decide)) rfl) (by decide) ?_
  refine GL.val (Ex.load rfl T.ag3 (i := 1) rfl rfl) (by decide) ?_
  refine GL.val (v := (.int .i64 31)) (Ex.add rfl rfl (Z := 31) (by decide)) (by decide) ?_
  refine GL.val (v := (.int .u64 (a / 2147483648))) (Ex.shr rfl (m := 31) rfl (by decide) (Z := a / 2147483648) rfl) (by decide) ?_
  refine GL.val (v := (.int .u64 (a / 2147483648 % 2))) (Ex.bits rfl rfl (by simp) (Z := a / 2147483648 % 2) (andm64 1 (by omega) (by omega) (by omega) rfl rfl)) (by decide) ?_
  refine GL.val (v := (.bool (decide ((a / 2147483648 % 2) = 1)))) (Ex.eql rfl rfl) (by decide) ?_
  refine GL.val (Ex.assign rfl) (by decide) ?_
  refine GL.nil ?_
  refine GE.thenN ?_
  refine GC.seq ?_
  refine GC.drawP [⟨bq2, [(.int .i64 0), (.bool false), (.slice none 0 0), (.int .i64 0), (.bool false)], 38, true⟩, ⟨bq1, [(.int .i64 23), (.int .i64 8)], 67, true⟩] T.mixed (by kernel_rfl) (by kernel_rfl) (fuel := 7) rfl rfl ?_
  refine GH.take 0 (v := (.int .u64 a)) rfl (by kernel_rfl) (by kernel_rfl) (by kernel_rfl) (fun _ _ _ h => h) (Ex.move rfl) (ulC (ulC ulN)) (by decide) ?_
  refine GH.take 1 (v := (.pointer (some ⟨bq1, 0, none⟩))) rfl (by kernel_rfl) (by kernel_rfl) (by kernel_rfl) (fun _ _ _ h => h) (Ex.cast (Ex.fieldAddr rfl Try.underlying67 rfl T.sz3 (by decide)) rfl) (ulC (ulC ulN)) (by decide) ?_
  refine GH.take 2 (v := (.int .i64 23)) rfl (by kernel_rfl) (by kernel_rfl) (by kernel_rfl) (fun _ _ _ h => h) (Ex.load rfl T.ag3 (i := 1) rfl rfl) (ulC (ulC ulN)) (by decide) ?_
  refine GH.take 3 (v := (.int .u64 (a / 8388608))) rfl (by kernel_rfl) (by kernel_rfl) (by kernel_rfl) (fun _ _ _ h => h) (Ex.shr rfl (m := 23) rfl (by decide) (Z := a / 8388608) rfl) (ulC (ulC ulN)) (by decide) ?_
  refine GH.take 4 (v := (.agg #[(.int .i64 23), (.int .i64 8)])) rfl (by kernel_rfl) (by kernel_rfl) (by kernel_rfl) (fun _ _ _ h => h) (Ex.loadA rfl T.ag67 T.sz67 (i := 1) rfl (vs := [(.int .i64 23), (.int .i64 8)]) rfl rfl) (ulC (ulC ulN)) (by decide) ?_
  refine GH.one 5 rfl (by kernel_rfl) (Stp.callR (vs := [(.agg #[(.int .i64 23), (.int .i64 8)])]) rfl rfl T.own82 (by decide) (fun wc hw => j82_1  wc )) (fun _ => (ulC (ulC ulN))) (fun xq3 hq4 => ?_)
  refine GH.take 6 (v := (.int .u64 (a / 8388608 % 256))) rfl (by kernel_rfl) (by kernel_rfl) (by kernel_rfl) (fun _ _ _ h => h) (Ex.bits rfl rfl (by simp) (Z := a / 8388608 % 256) (andm64 8 (by omega) (by omega) (by omega) rfl rfl)) (ulC (ulC ulN)) (by decide) ?_
  refine GH.done (by kernel_rfl) ?_
  refine GE.thenN ?_
  refine GE.tail rfl (Ex.wp (v := (.int .u64 (a / 8388608 % 256))) (Ex.assign rfl) (by decide)) (fun _ _ => ?_)
  refine GE.thenN ?_
  refine GC.seq ?_
  refine GC.region ?_
  refine GL.val (Ex.move rfl) (by decide) ?_
  refine GL.val (v := (.pointer (some ⟨bq1, 0, none⟩))) (Ex.cast (Ex.fieldAddr rfl Try.underlying67 rfl T.sz3 (by decide)) rfl) (by decide) ?_
  refine GL.val (Ex.load rfl T.ag3 (i := 1) rfl rfl) (by decide) ?_
  refine GL.val (v := (.int .u64 8388608)) (Ex.shl rfl (m := 23) rfl (by decide) (Z := 8388608) (by decide)) (by decide) ?_
  refine GL.val (v := (.int .u64 8388607)) (Ex.sub' rfl rfl (Z := 8388607) (by decide)) (by decide) ?_
  refine GL.val (v := (.int .u64 (a % 8388608))) (Ex.bits rfl rfl (by simp) (Z := a % 8388608) (andm64 23 (by omega) (by omega) (by omega) rfl rfl)) (by decide) ?_
  refine GL.val (Ex.assign rfl) (by decide) ?_
  refine GL.nil ?_
  refine GE.thenN ?_
  refine GC.seq ?_
  refine GC.seq ?_
  refine GC.region ?_
  refine GL.val (Ex.move rfl) (by decide) ?_
  refine GL.val (v := (.agg #[(.int .i64 23), (.int .i64 8)])) (Ex.loadA rfl T.ag67 T.sz67 (i := 1) rfl (vs := [(.int .i64 23), (.int .i64 8)]) rfl rfl) (by decide) ?_
  refine GL.step (Stp.callR (vs := [(.agg #[(.int .i64 23), (.int .i64 8)])]) rfl rfl T.own82 (by decide) (fun wc hw => j82_1  wc )) (fun xq5 hq6 => ?_)
  refine GL.val (v := (.bool (decide ((a / 8388608 % 256) = 255)))) (Ex.eql rfl rfl) (by decide) ?_
  refine GL.nil ?_
  refine GE.thenN ?_
  refine GC.cond rfl (fun hq7 => ?_) (fun hq7 => ?_)
  · replace hq7 := of_decide_eq_true hq7
    exfalso; omega
  · replace hq7 := of_decide_eq_false hq7
    refine GC.skip ?_
    refine GE.thenN ?_
    refine GC.seq ?_
    refine GC.seq ?_
    refine GC.region ?_
    refine GL.val (Ex.move rfl) (by decide) ?_
    refine GL.val (v := (.bool (decide ((a / 8388608 % 256) = 0)))) (Ex.eql rfl rfl) (by decide) ?_
    refine GL.nil ?_
    refine GE.thenN ?_
    refine GC.cond rfl (fun hq8 => ?_) (fun hq8 => ?_)
    · replace hq8 := of_decide_eq_true hq8
      refine GC.seq ?_
      refine GC.drawP [⟨bq2, [(.int .i64 0), (.bool false), (.slice none 0 0), (.int .i64 0), (.bool false)], 38, true⟩, ⟨bq1, [(.int .i64 23), (.int .i64 8)], 67, true⟩] T.mixed (by kernel_rfl) (by kernel_rfl) (fuel := 7) rfl rfl ?_
      refine GH.take 0 (v := (.bool (decide ((a / 2147483648 % 2) = 1)))) rfl (by kernel_rfl) (by kernel_rfl) (by kernel_rfl) (fun _ _ _ h => h) (Ex.move rfl) (ulC (ulC ulN)) (by decide) ?_
      refine GH.take 1 (v := (.int .u64 (a % 8388608))) rfl (by kernel_rfl) (by kernel_rfl) (by kernel_rfl) (fun _ _ _ h => h) (Ex.move rfl) (ulC (ulC ulN)) (by decide) ?_
      refine GH.take 3 (v := (.agg #[(.int .i64 23), (.int .i64 8)])) rfl (by kernel_rfl) (by kernel_rfl) (by kernel_rfl) (fun _ _ _ h => h) (Ex.loadA rfl T.ag67 T.sz67 (i := 1) rfl (vs := [(.int .i64 23), (.int .i64 8)]) rfl rfl) (ulC (ulC ulN)) (by decide) ?_
      refine GH.one 2 rfl (by kernel_rfl) (Stp.callR (vs := [(.int .u64 (a % 8388608))]) rfl rfl T.own62 (by decide) (fun wc hw => natof_r (a % 8388608) wc (by omega))) (fun _ => (ulS (ulC (ulC ulN)))) (fun xq9 hq10 => ?_)
      refine GH.one 4 rfl (by kernel_rfl) (Stp.callR (vs := [(.agg #[(.int .i64 23), (.int .i64 8)])]) rfl rfl T.own83 (by decide) (fun wc hw => j83_2  wc )) (fun _ => (ulS (ulC (ulC ulN)))) (fun xq11 hq12 => ?_)
      refine GH.take 5 (v := (.int .i64 (-149))) rfl (by kernel_rfl) (by kernel_rfl) (by kernel_rfl) (fun _ _ _ h => h) (Ex.sub' rfl rfl (Z := -149) (by decide)) (ulS (ulC (ulC ulN))) (by decide) ?_
      refine GH.take 6 (v := (.agg #[(.int .i64 2), (.bool (decide ((a / 2147483648 % 2) = 1))), (.slice (some ⟨xq9, 0, none⟩) ((if a % 8388608 = 0 then 0 else 1)) 2), (.int .i64 (-149)), (.bool false)])) rfl (by kernel_rfl) (by kernel_rfl) (by kernel_rfl) (fun _ _ _ h => h) (Ex.build (vs := [(0, (.int .i64 2)), (1, (.bool (decide ((a / 2147483648 % 2) = 1)))), (2, (.slice (some ⟨xq9, 0, none⟩) ((if a % 8388608 = 0 then 0 else 1)) 2)), (3, (.int .i64 (-149)))]) rfl (by first | rfl | kernel_rfl)) (ulS (ulC (ulC ulN))) (by decide) ?_
      refine GH.done (by kernel_rfl) ?_
      refine GE.thenN ?_
      refine GE.tail rfl (Stp.st1 (cs' := [(.int .i64 2), (.bool (decide ((a / 2147483648 % 2) = 1))), (.slice (some ⟨xq9, 0, none⟩) ((if a % 8388608 = 0 then 0 else 1)) 2), (.int .i64 (-149)), (.bool false)]) rfl rfl rfl T.sz38 rfl rfl rfl) (fun _ _ => ?_)
      refine GE.thenN ?_
      refine GC.ret ?_
      refine GE.thenR ?_
      refine GC.ret1 rfl (Rv.cellA rfl T.ag38 T.sz38 (L := _) (i := 1) rfl (vs := [(.int .i64 2), (.bool (decide ((a / 2147483648 % 2) = 1))), (.slice (some ⟨xq9, 0, none⟩) ((if a % 8388608 = 0 then 0 else 1)) 2), (.int .i64 (-149)), (.bool false)]) rfl rfl) (fun wN HN => ?_)
      have ex : a % 8388608 = 0 := by omega
      rw [ex] at HN
      exact HN.ret xq9 trivial (by rw [ex]; rfl) (ulC (ulS (ulS ulN))) rfl
    · replace hq8 := of_decide_eq_false hq8
      exfalso; omega

set_option maxRecDepth 100000 in
set_option maxHeartbeats 1000000 in
theorem num_pos (a : Int) (v : Nat) (w : World) (ha : 0 ≤ a ∧ a < 4294967296) (hf : a % 2147483648 < 2139095040) (hm : Bt.mant a = ((v : Nat) : Int)) (hv : 0 < v) :
    Calls Try.prog 68 #[(.int .u32 a)] w (Ret w (fun _ : Nat => True) (fun z => (.agg #[(.int .i64 2), (.bool ((decide (a / 2147483648 % 2 = 1)))), (.slice (some ⟨z, 0, none⟩) 1 2), (.int .i64 ((Bt.expo a))), (.bool false)])) (fun z => [⟨z, [(.int .u32 (((v : Nat) : Int))), (.int .u32 0)], 23, true⟩])) := by
  refine enter (M := None) (L := []) (n := 7) (l := [(0, (.int .u32 a))]) Try.func68 rfl rfl (Args.cons rfl (Args.nil _)) (Hp.start _ _) ?_
  refine GC.seq ?_
  refine GC.region ?_
  refine GL.step (Stp.alloc T.zr38 (by decide)) (fun bq1 _ => ?_)
  refine GL.nil ?_
  refine GE.thenN ?_
  refine GC.seq ?_
  refine GC.region ?_
  refine GL.step (Stp.callR (vs := []) rfl rfl T.own58 (by decide) (fun wc hw => j58_3  wc )) (fun xq2 hq3 => ?_)
  refine GL.val (Ex.move rfl) (by decide) ?_
  refine GL.val (v := (.int .u64 a)) (Ex.conv rfl Try.underlying23 Try.underlying70 (Z := a) (wu64b (by omega))) (by decide) ?_
  refine GL.step (Stp.callR (vs := [(.agg #[(.int .i64 23), (.int .i64 8)]), (.int .u64 a)]) rfl rfl T.own59 (by decide) (fun wc hw => of_pos a v wc ha hf hm hv)) (fun xq4 hq5 => ?_)
  refine GL.step (Stp.st1 (cs' := [(.int .i64 2), (.bool ((decide (a / 2147483648 % 2 = 1)))), (.slice (some ⟨xq4, 0, none⟩) 1 2), (.int .i64 ((Bt.expo a))), (.bool false)]) rfl rfl rfl T.sz38 rfl rfl rfl) (fun _ _ => ?_)
  refine GL.nil ?_
  refine GE.thenN ?_
  refine GC.ret ?_
  refine GC.ret1 rfl (Rv.cellA rfl T.ag38 T.sz38 (L := _) (i := 1) rfl (vs := [(.int .i64 2), (.bool ((decide (a / 2147483648 % 2 = 1)))), (.slice (some ⟨xq4, 0, none⟩) 1 2), (.int .i64 ((Bt.expo a))), (.bool false)]) rfl rfl) (fun wN HN => ?_)
  exact HN.ret xq4 trivial rfl (ulC (ulS ulN)) rfl

set_option maxRecDepth 100000 in
set_option maxHeartbeats 1000000 in
theorem num_zero (a : Int) (w : World) (ha : 0 ≤ a ∧ a < 4294967296) (hf : a % 2147483648 < 2139095040) (hm : a % 2147483648 = 0) :
    Calls Try.prog 68 #[(.int .u32 a)] w (Ret w (fun _ : Nat => True) (fun z => (.agg #[(.int .i64 2), (.bool ((decide (a / 2147483648 % 2 = 1)))), (.slice (some ⟨z, 0, none⟩) 0 2), (.int .i64 ((-149))), (.bool false)])) (fun z => [⟨z, [(.int .u32 0), (.int .u32 0)], 23, true⟩])) := by
  refine enter (M := None) (L := []) (n := 7) (l := [(0, (.int .u32 a))]) Try.func68 rfl rfl (Args.cons rfl (Args.nil _)) (Hp.start _ _) ?_
  refine GC.seq ?_
  refine GC.region ?_
  refine GL.step (Stp.alloc T.zr38 (by decide)) (fun bq1 _ => ?_)
  refine GL.nil ?_
  refine GE.thenN ?_
  refine GC.seq ?_
  refine GC.region ?_
  refine GL.step (Stp.callR (vs := []) rfl rfl T.own58 (by decide) (fun wc hw => j58_3  wc )) (fun xq2 hq3 => ?_)
  refine GL.val (Ex.move rfl) (by decide) ?_
  refine GL.val (v := (.int .u64 a)) (Ex.conv rfl Try.underlying23 Try.underlying70 (Z := a) (wu64b (by omega))) (by decide) ?_
  refine GL.step (Stp.callR (vs := [(.agg #[(.int .i64 23), (.int .i64 8)]), (.int .u64 a)]) rfl rfl T.own59 (by decide) (fun wc hw => of_zero a wc ha hf hm)) (fun xq4 hq5 => ?_)
  refine GL.step (Stp.st1 (cs' := [(.int .i64 2), (.bool ((decide (a / 2147483648 % 2 = 1)))), (.slice (some ⟨xq4, 0, none⟩) 0 2), (.int .i64 ((-149))), (.bool false)]) rfl rfl rfl T.sz38 rfl rfl rfl) (fun _ _ => ?_)
  refine GL.nil ?_
  refine GE.thenN ?_
  refine GC.ret ?_
  refine GC.ret1 rfl (Rv.cellA rfl T.ag38 T.sz38 (L := _) (i := 1) rfl (vs := [(.int .i64 2), (.bool ((decide (a / 2147483648 % 2 = 1)))), (.slice (some ⟨xq4, 0, none⟩) 0 2), (.int .i64 ((-149))), (.bool false)]) rfl rfl) (fun wN HN => ?_)
  exact HN.ret xq4 trivial rfl (ulC (ulS ulN)) rfl

set_option maxRecDepth 100000 in
set_option maxHeartbeats 1000000 in
theorem trim_top (b : Nat) (w : World) (hh : Has w [⟨b, [(.int .u32 0), (.int .u32 2147483648)], 23, false⟩]) :
    Calls Try.prog 63 #[(.slice (some ⟨b, 0, none⟩) 2 2)] w (Ret w (fun _ : Unit => True) (fun _ => (.slice (some ⟨b, 0, none⟩) 2 2)) (fun _ => [])) := by
  refine enter (M := None) (L := [⟨b, [(.int .u32 0), (.int .u32 2147483648)], 23, false⟩]) (n := 21) (l := [(0, (.slice (some ⟨b, 0, none⟩) 2 2))]) Try.func63 rfl rfl (Args.cons rfl (Args.nil _)) (Hp.reads hh rfl) ?_
  refine GC.seq ?_
  refine GC.region ?_
  refine GL.val (Ex.assign rfl) (by decide) ?_
  refine GL.nil ?_
  refine GE.thenN ?_
  refine GC.seq ?_
  refine GC.region ?_
  refine GL.val (Ex.move rfl) (by decide) ?_
  refine GL.val (v := (.int .i64 2)) (Ex.len rfl Try.underlying36) (by decide) ?_
  refine GL.val (Ex.assign rfl) (by decide) ?_
  refine GL.nil ?_
  refine GE.thenN ?_
  refine GC.seq ?_
  refine GC.block ?_
  refine GC.unroll 2 ?_
  refine GE.round ?_
  refine GC.seq ?_
  refine GC.seq ?_
  refine GC.region ?_
  refine GL.val (Ex.move rfl) (by decide) ?_
  refine GL.val (v := (.bool true)) (Ex.cast (Ex.gtr rfl rfl) rfl) (by decide) ?_
  refine GL.val (Ex.move rfl) (by decide) ?_
  refine GL.stepG (tj := 8) rfl rfl (Ex.wp (v := (.slice (some ⟨b, 0, none⟩) 2 2)) (Ex.move rfl) (by decide)) (fun _ _ => ?_)
  refine GL.stepG (tj := 8) rfl rfl (Ex.wp (v := (.int .i64 2)) (Ex.move rfl) (by decide)) (fun _ _ => ?_)
  refine GL.stepG (tj := 8) rfl rfl (Ex.wp (v := (.int .i64 1)) (Ex.sub' rfl rfl (Z := 1) (by decide)) (by decide)) (fun _ _ => ?_)
  refine GL.stepG (tj := 8) rfl rfl (Ex.wp (v := (.pointer (some ⟨b, 1, none⟩))) (Ex.cast (Ex.indexAddr rfl rfl Try.underlying36 T.sz23 (by omega) (by omega)) rfl) (by decide)) (fun _ _ => ?_)
  refine GL.stepG (tj := 8) rfl rfl (Ex.wp (v := (.int .u32 2147483648)) (Ex.load rfl T.ag23 (i := 0) rfl rfl) (by decide)) (fun _ _ => ?_)
  refine GL.stepG (tj := 8) rfl rfl (Ex.wp (v := (.bool false)) (Ex.cast (Ex.eql rfl rfl) rfl) (by decide)) (fun _ _ => ?_)
  refine GL.val (v := (.bool false)) (Ex.pickT rfl rfl) (by decide) ?_
  refine GL.nil ?_
  refine GE.thenN ?_
  refine GC.cond rfl (fun hq1 => by cases hq1) (fun _ => ?_)
  refine GC.exit ?_
  refine GE.thenE ?_
  refine GE.thenE ?_
  refine GE.blockE ?_
  refine GE.thenN ?_
  refine GC.seq ?_
  refine GC.region ?_
  refine GL.val (Ex.move rfl) (by decide) ?_
  refine GL.val (Ex.move rfl) (by decide) ?_
  refine GL.val (v := (.slice (some ⟨b, 0, none⟩) 2 2)) (Ex.sliceH (m := 2) rfl rfl Try.underlying36 T.sz23 rfl (by omega)) (by decide) ?_
  refine GL.val (Ex.assign rfl) (by decide) ?_
  refine GL.nil ?_
  refine GE.thenN ?_
  refine GC.ret ?_
  refine GC.ret1 rfl (Rv.tmp rfl) (fun wN HN => ?_)
  exact HN.ret () trivial (by rfl) (List.nil_sublist _) rfl

set_option maxRecDepth 100000 in
set_option maxHeartbeats 1000000 in
theorem natof_top (w : World) :
    Calls Try.prog 62 #[(.int .u64 9223372036854775808)] w (Ret w (fun _ : Nat => True) (fun z => (.slice (some ⟨z, 0, none⟩) 2 2)) (fun z => [⟨z, [(.int .u32 0), (.int .u32 2147483648)], 23, true⟩])) := by
  refine enter (M := None) (L := []) (n := 11) (l := [(0, (.int .u64 9223372036854775808))]) Try.func62 rfl rfl (Args.cons rfl (Args.nil _)) (Hp.start _ _) ?_
  refine GC.seq ?_
  refine GC.region ?_
  refine GL.val (Ex.assign rfl) (by decide) ?_
  refine GL.nil ?_
  refine GE.thenN ?_
  refine GC.seq ?_
  refine GC.region ?_
  refine GL.val (Ex.move rfl) (by decide) ?_
  refine GL.val (v := (.int .u64 0)) (Ex.bits rfl rfl (by simp) (Z := 0) (by decide)) (by decide) ?_
  refine GL.val (v := (.int .u32 0)) (Ex.conv rfl Try.underlying70 Try.underlying23 (Z := 0) (by decide)) (by decide) ?_
  refine GL.val (Ex.move rfl) (by decide) ?_
  refine GL.val (v := (.int .u64 2147483648)) (Ex.shr rfl (m := 32) rfl (by decide) (Z := 2147483648) (by decide)) (by decide) ?_
  refine GL.val (v := (.int .u32 2147483648)) (Ex.conv rfl Try.underlying70 Try.underlying23 (Z := 2147483648) (by decide)) (by decide) ?_
  refine GL.step (Stp.buildSlice (cs := [(.int .u32 0), (.int .u32 2147483648)]) (vs := [(0, (.int .u32 0)), (1, (.int .u32 2147483648))]) Try.underlying36 T.zr23 T.sz23 rfl (by decide) (by decide) (by first | rfl | kernel_rfl) (by decide)) (fun bq1 _ => ?_)
  refine GL.step (Stp.callR (vs := [(.slice (some ⟨bq1, 0, none⟩) 2 2)]) rfl rfl T.own63 (by decide) (fun wc hw => trim_top bq1 wc (Has.cons (hw.hasOf (i := 0) rfl) (Has.nil _)))) (fun xq2 hq3 => ?_)
  refine GL.val (Ex.assign rfl) (by decide) ?_
  refine GL.nil ?_
  refine GE.thenN ?_
  refine GC.ret ?_
  refine GC.ret1 rfl (Rv.tmp rfl) (fun wN HN => ?_)
  exact HN.ret bq1 trivial rfl (ulC ulN) rfl

set_option maxRecDepth 100000 in
set_option maxHeartbeats 1000000 in
theorem whole_pos (v b c : Nat) (ng : Bool) (w : World) (hv : 0 < v ∧ v < 2147483648) (hc : Rd w b 0 [.int .u32 ((v : Nat) : Int)]) :
    Calls Try.prog 76 #[(.bool ng), (.slice (some ⟨b, 0, none⟩) 1 c)] w (Ret w (fun _ : Unit => True) (fun _ => .tuple #[.int .i64 (if ng = true then -((v : Nat) : Int) else ((v : Nat) : Int)), .int .i64 0]) (fun _ => [])) := by
  have hlg := Lg.log_le hv.1 (by omega)
  refine enter (M := None) (L := []) (n := 35) (l := [(0, (.bool ng)), (1, (.slice (some ⟨b, 0, none⟩) 1 c))]) Try.func76 rfl rfl (Args.cons rfl (Args.cons rfl (Args.nil _))) (Hp.start _ _) ?_
  refine GC.seq ?_
  refine GC.region ?_
  refine GL.val (Ex.assign rfl) (by decide) ?_
  refine GL.val (Ex.assign rfl) (by decide) ?_
  refine GL.nil ?_
  refine GE.thenN ?_
  refine GC.seq ?_
  refine GC.seq ?_
  refine GC.region ?_
  refine GL.val (Ex.move rfl) (by decide) ?_
  refine GL.step (Stp.callR (vs := [(.slice (some ⟨b, 0, none⟩) 1 c)]) rfl rfl T.own88 (by decide) (fun wc hw => bits_pos v b c wc (by omega) (hw.rd hc (fun x => x)))) (fun xq1 hq2 => ?_)
  refine GL.val (v := (.bool false)) (Ex.cast (Ex.gtr rfl rfl) (congrArg Value.bool (decide_eq_false (by omega)))) (by decide) ?_
  refine GL.val (Ex.move rfl) (by decide) ?_
  by_cases hq3 : ng = true
  · refine GL.stepG (tj := 9) rfl rfl (Ex.wp (v := (.bool true)) (Ex.cast (Ex.move rfl) (congrArg Value.bool (hq3))) (by decide)) (fun _ _ => ?_)
    refine GL.stepG (tj := 9) rfl rfl (Ex.wp (v := (.bool false)) (Ex.cast (Ex.not rfl) rfl) (by decide)) (fun _ _ => ?_)
    refine GL.stepG (tj := 9) rfl rfl (Ex.wp (v := (.bool false)) (Ex.move rfl) (by decide)) (fun _ _ => ?_)
    refine GL.skipG (tj := 12) rfl rfl rfl (by decide) ?_
    refine GL.skipG (tj := 12) rfl rfl rfl (by decide) ?_
    refine GL.skipG (tj := 12) rfl rfl rfl (by decide) ?_
    refine GL.stepG (tj := 9) rfl rfl (Ex.wp (v := (.bool false)) (Ex.pickF rfl rfl) (by decide)) (fun _ _ => ?_)
    refine GL.val (v := (.bool false)) (Ex.pickF rfl rfl) (by decide) ?_
    refine GL.val (Ex.move rfl) (by decide) ?_
    by_cases hq4 : ng = true
    · refine GL.stepG (tj := 18) rfl rfl (Ex.wp (v := (.bool true)) (Ex.cast (Ex.move rfl) (congrArg Value.bool (hq4))) (by decide)) (fun _ _ => ?_)
      refine GL.stepG (tj := 18) rfl rfl (Ex.wp (v := (.bool true)) (Ex.move rfl) (by decide)) (fun _ _ => ?_)
      refine GL.stepG (tj := 20) rfl rfl (Ex.wp (v := (.slice (some ⟨b, 0, none⟩) 1 c)) (Ex.move rfl) (by decide)) (fun _ _ => ?_)
      refine GL.stepG (tj := 20) rfl rfl (Stp.callR (vs := [(.int .u64 9223372036854775808)]) rfl rfl T.own62 (by decide) (fun wc hw => natof_top wc)) (fun xq5 hq6 => ?_)
      refine GL.stepG (tj := 20) rfl rfl (Stp.callR (vs := [(.slice (some ⟨b, 0, none⟩) 1 c), (.slice (some ⟨xq5, 0, none⟩) 2 2)]) rfl rfl T.own60 (by decide) (fun wc hw => cmp_top (some ⟨b, 0, none⟩) (some ⟨xq5, 0, none⟩) 1 c 2 wc (by decide))) (fun xq7 hq8 => ?_)
      refine GL.stepG (tj := 20) rfl rfl (Ex.wp (v := (.bool false)) (Ex.cast (Ex.gtr rfl rfl) rfl) (by decide)) (fun _ _ => ?_)
      refine GL.stepG (tj := 18) rfl rfl (Ex.wp (v := (.bool false)) (Ex.pickT rfl rfl) (by decide)) (fun _ _ => ?_)
      refine GL.val (v := (.bool false)) (Ex.pickF rfl rfl) (by decide) ?_
      refine GL.nil ?_
      refine GE.thenN ?_
      refine GC.cond rfl (fun hq9 => by cases hq9) (fun _ => ?_)
      refine GC.skip ?_
      refine GE.thenN ?_
      refine GC.seq ?_
      refine GC.seq ?_
      refine GC.region ?_
      refine GL.val (Ex.move rfl) (by decide) ?_
      refine GL.nil ?_
      refine GE.thenN ?_
      refine GC.cond rfl (fun hq10 => ?_) (fun hq10 => ?_)
      · refine GC.seq ?_
        refine GC.region ?_
        refine GL.val (Ex.move rfl) (by decide) ?_
        refine GL.step (Stp.callR (vs := [(.slice (some ⟨b, 0, none⟩) 1 c)]) rfl rfl T.own89 (by decide) (fun wc hw => low_pos v b c wc (by omega) (hw.rd hc (fun x => x)))) (fun xq11 hq12 => ?_)
        refine GL.val (v := (.int .u64 (((-((v : Nat) : Int)) % 18446744073709551616)))) (Ex.neg rfl (Z := ((-((v : Nat) : Int)) % 18446744073709551616)) (by rw [wu64]; omega)) (by decide) ?_
        refine GL.val (v := (.int .i64 ((-((v : Nat) : Int))))) (Ex.conv rfl Try.underlying70 Try.underlying2 (Z := (-((v : Nat) : Int))) (by rw [IntKind.wrap_i64]; omega)) (by decide) ?_
        refine GL.val (Ex.assign rfl) (by decide) ?_
        refine GL.val (Ex.assign rfl) (by decide) ?_
        refine GL.nil ?_
        refine GE.thenN ?_
        refine GC.ret ?_
        refine GE.thenR ?_
        refine GC.ret2 rfl (Rv.tmp rfl) (Rv.tmp rfl) (fun wN HN => ?_)
        exact HN.ret () trivial (by cases ng <;> first | rfl | contradiction | simp_all) (List.nil_sublist _) rfl
      · refine GC.skip ?_
        refine GE.thenN ?_
        refine GC.seq ?_
        refine GC.region ?_
        refine GL.val (Ex.move rfl) (by decide) ?_
        refine GL.step (Stp.callR (vs := [(.slice (some ⟨b, 0, none⟩) 1 c)]) rfl rfl T.own89 (by decide) (fun wc hw => low_pos v b c wc (by omega) (hw.rd hc (fun x => x)))) (fun xq13 hq14 => ?_)
        refine GL.val (v := (.int .i64 (((v : Nat) : Int)))) (Ex.conv rfl Try.underlying70 Try.underlying2 (Z := ((v : Nat) : Int)) (w64 (by omega))) (by decide) ?_
        refine GL.val (Ex.assign rfl) (by decide) ?_
        refine GL.val (Ex.assign rfl) (by decide) ?_
        refine GL.nil ?_
        refine GE.thenN ?_
        refine GC.ret ?_
        refine GC.ret2 rfl (Rv.tmp rfl) (Rv.tmp rfl) (fun wN HN => ?_)
        exact HN.ret () trivial (by cases ng <;> first | rfl | contradiction | simp_all) (List.nil_sublist _) rfl
    · refine GL.stepG (tj := 18) rfl rfl (Ex.wp (v := (.bool false)) (Ex.cast (Ex.move rfl) (congrArg Value.bool ((Bool.eq_false_iff.2 hq4)))) (by decide)) (fun _ _ => ?_)
      refine GL.stepG (tj := 18) rfl rfl (Ex.wp (v := (.bool false)) (Ex.move rfl) (by decide)) (fun _ _ => ?_)
      refine GL.skipG (tj := 20) rfl rfl rfl (by decide) ?_
      refine GL.skipG (tj := 20) rfl rfl rfl (by decide) ?_
      refine GL.skipG (tj := 20) rfl rfl rfl (by decide) ?_
      refine GL.skipG (tj := 20) rfl rfl rfl (by decide) ?_
      refine GL.stepG (tj := 18) rfl rfl (Ex.wp (v := (.bool false)) (Ex.pickF rfl rfl) (by decide)) (fun _ _ => ?_)
      refine GL.val (v := (.bool false)) (Ex.pickF rfl rfl) (by decide) ?_
      refine GL.nil ?_
      refine GE.thenN ?_
      refine GC.cond rfl (fun hq15 => by cases hq15) (fun _ => ?_)
      refine GC.skip ?_
      refine GE.thenN ?_
      refine GC.seq ?_
      refine GC.seq ?_
      refine GC.region ?_
      refine GL.val (Ex.move rfl) (by decide) ?_
      refine GL.nil ?_
      refine GE.thenN ?_
      refine GC.cond rfl (fun hq16 => ?_) (fun hq16 => ?_)
      · refine GC.seq ?_
        refine GC.region ?_
        refine GL.val (Ex.move rfl) (by decide) ?_
        refine GL.step (Stp.callR (vs := [(.slice (some ⟨b, 0, none⟩) 1 c)]) rfl rfl T.own89 (by decide) (fun wc hw => low_pos v b c wc (by omega) (hw.rd hc (fun x => x)))) (fun xq17 hq18 => ?_)
        refine GL.val (v := (.int .u64 (((-((v : Nat) : Int)) % 18446744073709551616)))) (Ex.neg rfl (Z := ((-((v : Nat) : Int)) % 18446744073709551616)) (by rw [wu64]; omega)) (by decide) ?_
        refine GL.val (v := (.int .i64 ((-((v : Nat) : Int))))) (Ex.conv rfl Try.underlying70 Try.underlying2 (Z := (-((v : Nat) : Int))) (by rw [IntKind.wrap_i64]; omega)) (by decide) ?_
        refine GL.val (Ex.assign rfl) (by decide) ?_
        refine GL.val (Ex.assign rfl) (by decide) ?_
        refine GL.nil ?_
        refine GE.thenN ?_
        refine GC.ret ?_
        refine GE.thenR ?_
        refine GC.ret2 rfl (Rv.tmp rfl) (Rv.tmp rfl) (fun wN HN => ?_)
        exact HN.ret () trivial (by cases ng <;> first | rfl | contradiction | simp_all) (List.nil_sublist _) rfl
      · refine GC.skip ?_
        refine GE.thenN ?_
        refine GC.seq ?_
        refine GC.region ?_
        refine GL.val (Ex.move rfl) (by decide) ?_
        refine GL.step (Stp.callR (vs := [(.slice (some ⟨b, 0, none⟩) 1 c)]) rfl rfl T.own89 (by decide) (fun wc hw => low_pos v b c wc (by omega) (hw.rd hc (fun x => x)))) (fun xq19 hq20 => ?_)
        refine GL.val (v := (.int .i64 (((v : Nat) : Int)))) (Ex.conv rfl Try.underlying70 Try.underlying2 (Z := ((v : Nat) : Int)) (w64 (by omega))) (by decide) ?_
        refine GL.val (Ex.assign rfl) (by decide) ?_
        refine GL.val (Ex.assign rfl) (by decide) ?_
        refine GL.nil ?_
        refine GE.thenN ?_
        refine GC.ret ?_
        refine GC.ret2 rfl (Rv.tmp rfl) (Rv.tmp rfl) (fun wN HN => ?_)
        exact HN.ret () trivial (by cases ng <;> first | rfl | contradiction | simp_all) (List.nil_sublist _) rfl
  · refine GL.stepG (tj := 9) rfl rfl (Ex.wp (v := (.bool false)) (Ex.cast (Ex.move rfl) (congrArg Value.bool ((Bool.eq_false_iff.2 hq3)))) (by decide)) (fun _ _ => ?_)
    refine GL.stepG (tj := 9) rfl rfl (Ex.wp (v := (.bool true)) (Ex.cast (Ex.not rfl) rfl) (by decide)) (fun _ _ => ?_)
    refine GL.stepG (tj := 9) rfl rfl (Ex.wp (v := (.bool true)) (Ex.move rfl) (by decide)) (fun _ _ => ?_)
    refine GL.stepG (tj := 12) rfl rfl (Ex.wp (v := (.slice (some ⟨b, 0, none⟩) 1 c)) (Ex.move rfl) (by decide)) (fun _ _ => ?_)
    refine GL.stepG (tj := 12) rfl rfl (Stp.callR (vs := [(.slice (some ⟨b, 0, none⟩) 1 c)]) rfl rfl T.own88 (by decide) (fun wc hw => bits_pos v b c wc (by omega) (hw.rd hc (fun x => x)))) (fun xq21 hq22 => ?_)
    refine GL.stepG (tj := 12) rfl rfl (Ex.wp (v := (.bool false)) (Ex.cast (Ex.gtr rfl rfl) (congrArg Value.bool (decide_eq_false (by omega)))) (by decide)) (fun _ _ => ?_)
    refine GL.stepG (tj := 9) rfl rfl (Ex.wp (v := (.bool false)) (Ex.pickT rfl rfl) (by decide)) (fun _ _ => ?_)
    refine GL.val (v := (.bool false)) (Ex.pickF rfl rfl) (by decide) ?_
    refine GL.val (Ex.move rfl) (by decide) ?_
    by_cases hq23 : ng = true
    · refine GL.stepG (tj := 18) rfl rfl (Ex.wp (v := (.bool true)) (Ex.cast (Ex.move rfl) (congrArg Value.bool (hq23))) (by decide)) (fun _ _ => ?_)
      refine GL.stepG (tj := 18) rfl rfl (Ex.wp (v := (.bool true)) (Ex.move rfl) (by decide)) (fun _ _ => ?_)
      refine GL.stepG (tj := 20) rfl rfl (Ex.wp (v := (.slice (some ⟨b, 0, none⟩) 1 c)) (Ex.move rfl) (by decide)) (fun _ _ => ?_)
      refine GL.stepG (tj := 20) rfl rfl (Stp.callR (vs := [(.int .u64 9223372036854775808)]) rfl rfl T.own62 (by decide) (fun wc hw => natof_top wc)) (fun xq24 hq25 => ?_)
      refine GL.stepG (tj := 20) rfl rfl (Stp.callR (vs := [(.slice (some ⟨b, 0, none⟩) 1 c), (.slice (some ⟨xq24, 0, none⟩) 2 2)]) rfl rfl T.own60 (by decide) (fun wc hw => cmp_top (some ⟨b, 0, none⟩) (some ⟨xq24, 0, none⟩) 1 c 2 wc (by decide))) (fun xq26 hq27 => ?_)
      refine GL.stepG (tj := 20) rfl rfl (Ex.wp (v := (.bool false)) (Ex.cast (Ex.gtr rfl rfl) rfl) (by decide)) (fun _ _ => ?_)
      refine GL.stepG (tj := 18) rfl rfl (Ex.wp (v := (.bool false)) (Ex.pickT rfl rfl) (by decide)) (fun _ _ => ?_)
      refine GL.val (v := (.bool false)) (Ex.pickF rfl rfl) (by decide) ?_
      refine GL.nil ?_
      refine GE.thenN ?_
      refine GC.cond rfl (fun hq28 => by cases hq28) (fun _ => ?_)
      refine GC.skip ?_
      refine GE.thenN ?_
      refine GC.seq ?_
      refine GC.seq ?_
      refine GC.region ?_
      refine GL.val (Ex.move rfl) (by decide) ?_
      refine GL.nil ?_
      refine GE.thenN ?_
      refine GC.cond rfl (fun hq29 => ?_) (fun hq29 => ?_)
      · refine GC.seq ?_
        refine GC.region ?_
        refine GL.val (Ex.move rfl) (by decide) ?_
        refine GL.step (Stp.callR (vs := [(.slice (some ⟨b, 0, none⟩) 1 c)]) rfl rfl T.own89 (by decide) (fun wc hw => low_pos v b c wc (by omega) (hw.rd hc (fun x => x)))) (fun xq30 hq31 => ?_)
        refine GL.val (v := (.int .u64 (((-((v : Nat) : Int)) % 18446744073709551616)))) (Ex.neg rfl (Z := ((-((v : Nat) : Int)) % 18446744073709551616)) (by rw [wu64]; omega)) (by decide) ?_
        refine GL.val (v := (.int .i64 ((-((v : Nat) : Int))))) (Ex.conv rfl Try.underlying70 Try.underlying2 (Z := (-((v : Nat) : Int))) (by rw [IntKind.wrap_i64]; omega)) (by decide) ?_
        refine GL.val (Ex.assign rfl) (by decide) ?_
        refine GL.val (Ex.assign rfl) (by decide) ?_
        refine GL.nil ?_
        refine GE.thenN ?_
        refine GC.ret ?_
        refine GE.thenR ?_
        refine GC.ret2 rfl (Rv.tmp rfl) (Rv.tmp rfl) (fun wN HN => ?_)
        exact HN.ret () trivial (by cases ng <;> first | rfl | contradiction | simp_all) (List.nil_sublist _) rfl
      · refine GC.skip ?_
        refine GE.thenN ?_
        refine GC.seq ?_
        refine GC.region ?_
        refine GL.val (Ex.move rfl) (by decide) ?_
        refine GL.step (Stp.callR (vs := [(.slice (some ⟨b, 0, none⟩) 1 c)]) rfl rfl T.own89 (by decide) (fun wc hw => low_pos v b c wc (by omega) (hw.rd hc (fun x => x)))) (fun xq32 hq33 => ?_)
        refine GL.val (v := (.int .i64 (((v : Nat) : Int)))) (Ex.conv rfl Try.underlying70 Try.underlying2 (Z := ((v : Nat) : Int)) (w64 (by omega))) (by decide) ?_
        refine GL.val (Ex.assign rfl) (by decide) ?_
        refine GL.val (Ex.assign rfl) (by decide) ?_
        refine GL.nil ?_
        refine GE.thenN ?_
        refine GC.ret ?_
        refine GC.ret2 rfl (Rv.tmp rfl) (Rv.tmp rfl) (fun wN HN => ?_)
        exact HN.ret () trivial (by cases ng <;> first | rfl | contradiction | simp_all) (List.nil_sublist _) rfl
    · refine GL.stepG (tj := 18) rfl rfl (Ex.wp (v := (.bool false)) (Ex.cast (Ex.move rfl) (congrArg Value.bool ((Bool.eq_false_iff.2 hq23)))) (by decide)) (fun _ _ => ?_)
      refine GL.stepG (tj := 18) rfl rfl (Ex.wp (v := (.bool false)) (Ex.move rfl) (by decide)) (fun _ _ => ?_)
      refine GL.skipG (tj := 20) rfl rfl rfl (by decide) ?_
      refine GL.skipG (tj := 20) rfl rfl rfl (by decide) ?_
      refine GL.skipG (tj := 20) rfl rfl rfl (by decide) ?_
      refine GL.skipG (tj := 20) rfl rfl rfl (by decide) ?_
      refine GL.stepG (tj := 18) rfl rfl (Ex.wp (v := (.bool false)) (Ex.pickF rfl rfl) (by decide)) (fun _ _ => ?_)
      refine GL.val (v := (.bool false)) (Ex.pickF rfl rfl) (by decide) ?_
      refine GL.nil ?_
      refine GE.thenN ?_
      refine GC.cond rfl (fun hq34 => by cases hq34) (fun _ => ?_)
      refine GC.skip ?_
      refine GE.thenN ?_
      refine GC.seq ?_
      refine GC.seq ?_
      refine GC.region ?_
      refine GL.val (Ex.move rfl) (by decide) ?_
      refine GL.nil ?_
      refine GE.thenN ?_
      refine GC.cond rfl (fun hq35 => ?_) (fun hq35 => ?_)
      · refine GC.seq ?_
        refine GC.region ?_
        refine GL.val (Ex.move rfl) (by decide) ?_
        refine GL.step (Stp.callR (vs := [(.slice (some ⟨b, 0, none⟩) 1 c)]) rfl rfl T.own89 (by decide) (fun wc hw => low_pos v b c wc (by omega) (hw.rd hc (fun x => x)))) (fun xq36 hq37 => ?_)
        refine GL.val (v := (.int .u64 (((-((v : Nat) : Int)) % 18446744073709551616)))) (Ex.neg rfl (Z := ((-((v : Nat) : Int)) % 18446744073709551616)) (by rw [wu64]; omega)) (by decide) ?_
        refine GL.val (v := (.int .i64 ((-((v : Nat) : Int))))) (Ex.conv rfl Try.underlying70 Try.underlying2 (Z := (-((v : Nat) : Int))) (by rw [IntKind.wrap_i64]; omega)) (by decide) ?_
        refine GL.val (Ex.assign rfl) (by decide) ?_
        refine GL.val (Ex.assign rfl) (by decide) ?_
        refine GL.nil ?_
        refine GE.thenN ?_
        refine GC.ret ?_
        refine GE.thenR ?_
        refine GC.ret2 rfl (Rv.tmp rfl) (Rv.tmp rfl) (fun wN HN => ?_)
        exact HN.ret () trivial (by cases ng <;> first | rfl | contradiction | simp_all) (List.nil_sublist _) rfl
      · refine GC.skip ?_
        refine GE.thenN ?_
        refine GC.seq ?_
        refine GC.region ?_
        refine GL.val (Ex.move rfl) (by decide) ?_
        refine GL.step (Stp.callR (vs := [(.slice (some ⟨b, 0, none⟩) 1 c)]) rfl rfl T.own89 (by decide) (fun wc hw => low_pos v b c wc (by omega) (hw.rd hc (fun x => x)))) (fun xq38 hq39 => ?_)
        refine GL.val (v := (.int .i64 (((v : Nat) : Int)))) (Ex.conv rfl Try.underlying70 Try.underlying2 (Z := ((v : Nat) : Int)) (w64 (by omega))) (by decide) ?_
        refine GL.val (Ex.assign rfl) (by decide) ?_
        refine GL.val (Ex.assign rfl) (by decide) ?_
        refine GL.nil ?_
        refine GE.thenN ?_
        refine GC.ret ?_
        refine GC.ret2 rfl (Rv.tmp rfl) (Rv.tmp rfl) (fun wN HN => ?_)
        exact HN.ret () trivial (by cases ng <;> first | rfl | contradiction | simp_all) (List.nil_sublist _) rfl

set_option maxRecDepth 100000 in
set_option maxHeartbeats 1000000 in
theorem whole_0 (ad : Option Addr) (c : Nat) (ng : Bool) (w : World) :
    Calls Try.prog 76 #[(.bool ng), (.slice ad 0 c)] w (Ret w (fun _ : Unit => True) (fun _ => .tuple #[.int .i64 0, .int .i64 0]) (fun _ => [])) := by
  refine enter (M := None) (L := []) (n := 35) (l := [(0, (.bool ng)), (1, (.slice ad 0 c))]) Try.func76 rfl rfl (Args.cons rfl (Args.cons rfl (Args.nil _))) (Hp.start _ _) ?_
  refine GC.seq ?_
  refine GC.region ?_
  refine GL.val (Ex.assign rfl) (by decide) ?_
  refine GL.val (Ex.assign rfl) (by decide) ?_
  refine GL.nil ?_
  refine GE.thenN ?_
  refine GC.seq ?_
  refine GC.seq ?_
  refine GC.region ?_
  refine GL.val (Ex.move rfl) (by decide) ?_
  refine GL.step (Stp.callR (vs := [(.slice ad 0 c)]) rfl rfl T.own88 (by decide) (fun wc hw => bits_0 ad c wc)) (fun xq1 hq2 => ?_)
  refine GL.val (v := (.bool false)) (Ex.cast (Ex.gtr rfl rfl) rfl) (by decide) ?_
  refine GL.val (Ex.move rfl) (by decide) ?_
  by_cases hq3 : ng = true
  · refine GL.stepG (tj := 9) rfl rfl (Ex.wp (v := (.bool true)) (Ex.cast (Ex.move rfl) (congrArg Value.bool (hq3))) (by decide)) (fun _ _ => ?_)
    refine GL.stepG (tj := 9) rfl rfl (Ex.wp (v := (.bool false)) (Ex.cast (Ex.not rfl) rfl) (by decide)) (fun _ _ => ?_)
    refine GL.stepG (tj := 9) rfl rfl (Ex.wp (v := (.bool false)) (Ex.move rfl) (by decide)) (fun _ _ => ?_)
    refine GL.skipG (tj := 12) rfl rfl rfl (by decide) ?_
    refine GL.skipG (tj := 12) rfl rfl rfl (by decide) ?_
    refine GL.skipG (tj := 12) rfl rfl rfl (by decide) ?_
    refine GL.stepG (tj := 9) rfl rfl (Ex.wp (v := (.bool false)) (Ex.pickF rfl rfl) (by decide)) (fun _ _ => ?_)
    refine GL.val (v := (.bool false)) (Ex.pickF rfl rfl) (by decide) ?_
    refine GL.val (Ex.move rfl) (by decide) ?_
    by_cases hq4 : ng = true
    · refine GL.stepG (tj := 18) rfl rfl (Ex.wp (v := (.bool true)) (Ex.cast (Ex.move rfl) (congrArg Value.bool (hq4))) (by decide)) (fun _ _ => ?_)
      refine GL.stepG (tj := 18) rfl rfl (Ex.wp (v := (.bool true)) (Ex.move rfl) (by decide)) (fun _ _ => ?_)
      refine GL.stepG (tj := 20) rfl rfl (Ex.wp (v := (.slice ad 0 c)) (Ex.move rfl) (by decide)) (fun _ _ => ?_)
      refine GL.stepG (tj := 20) rfl rfl (Stp.callR (vs := [(.int .u64 9223372036854775808)]) rfl rfl T.own62 (by decide) (fun wc hw => natof_top wc)) (fun xq5 hq6 => ?_)
      refine GL.stepG (tj := 20) rfl rfl (Stp.callR (vs := [(.slice ad 0 c), (.slice (some ⟨xq5, 0, none⟩) 2 2)]) rfl rfl T.own60 (by decide) (fun wc hw => cmp_top ad (some ⟨xq5, 0, none⟩) 0 c 2 wc (by decide))) (fun xq7 hq8 => ?_)
      refine GL.stepG (tj := 20) rfl rfl (Ex.wp (v := (.bool false)) (Ex.cast (Ex.gtr rfl rfl) rfl) (by decide)) (fun _ _ => ?_)
      refine GL.stepG (tj := 18) rfl rfl (Ex.wp (v := (.bool false)) (Ex.pickT rfl rfl) (by decide)) (fun _ _ => ?_)
      refine GL.val (v := (.bool false)) (Ex.pickF rfl rfl) (by decide) ?_
      refine GL.nil ?_
      refine GE.thenN ?_
      refine GC.cond rfl (fun hq9 => by cases hq9) (fun _ => ?_)
      refine GC.skip ?_
      refine GE.thenN ?_
      refine GC.seq ?_
      refine GC.seq ?_
      refine GC.region ?_
      refine GL.val (Ex.move rfl) (by decide) ?_
      refine GL.nil ?_
      refine GE.thenN ?_
      refine GC.cond rfl (fun hq10 => ?_) (fun hq10 => ?_)
      · refine GC.seq ?_
        refine GC.region ?_
        refine GL.val (Ex.move rfl) (by decide) ?_
        refine GL.step (Stp.callR (vs := [(.slice ad 0 c)]) rfl rfl T.own89 (by decide) (fun wc hw => low_0 ad c wc)) (fun xq11 hq12 => ?_)
        refine GL.val (v := (.int .u64 0)) (Ex.neg rfl (Z := 0) (by rw [wu64]; omega)) (by decide) ?_
        refine GL.val (v := (.int .i64 0)) (Ex.conv rfl Try.underlying70 Try.underlying2 (Z := 0) (by rw [IntKind.wrap_i64]; omega)) (by decide) ?_
        refine GL.val (Ex.assign rfl) (by decide) ?_
        refine GL.val (Ex.assign rfl) (by decide) ?_
        refine GL.nil ?_
        refine GE.thenN ?_
        refine GC.ret ?_
        refine GE.thenR ?_
        refine GC.ret2 rfl (Rv.tmp rfl) (Rv.tmp rfl) (fun wN HN => ?_)
        exact HN.ret () trivial (by rfl) (List.nil_sublist _) rfl
      · refine GC.skip ?_
        refine GE.thenN ?_
        refine GC.seq ?_
        refine GC.region ?_
        refine GL.val (Ex.move rfl) (by decide) ?_
        refine GL.step (Stp.callR (vs := [(.slice ad 0 c)]) rfl rfl T.own89 (by decide) (fun wc hw => low_0 ad c wc)) (fun xq13 hq14 => ?_)
        refine GL.val (v := (.int .i64 0)) (Ex.conv rfl Try.underlying70 Try.underlying2 (Z := 0) (w64 (by omega))) (by decide) ?_
        refine GL.val (Ex.assign rfl) (by decide) ?_
        refine GL.val (Ex.assign rfl) (by decide) ?_
        refine GL.nil ?_
        refine GE.thenN ?_
        refine GC.ret ?_
        refine GC.ret2 rfl (Rv.tmp rfl) (Rv.tmp rfl) (fun wN HN => ?_)
        exact HN.ret () trivial (by rfl) (List.nil_sublist _) rfl
    · refine GL.stepG (tj := 18) rfl rfl (Ex.wp (v := (.bool false)) (Ex.cast (Ex.move rfl) (congrArg Value.bool ((Bool.eq_false_iff.2 hq4)))) (by decide)) (fun _ _ => ?_)
      refine GL.stepG (tj := 18) rfl rfl (Ex.wp (v := (.bool false)) (Ex.move rfl) (by decide)) (fun _ _ => ?_)
      refine GL.skipG (tj := 20) rfl rfl rfl (by decide) ?_
      refine GL.skipG (tj := 20) rfl rfl rfl (by decide) ?_
      refine GL.skipG (tj := 20) rfl rfl rfl (by decide) ?_
      refine GL.skipG (tj := 20) rfl rfl rfl (by decide) ?_
      refine GL.stepG (tj := 18) rfl rfl (Ex.wp (v := (.bool false)) (Ex.pickF rfl rfl) (by decide)) (fun _ _ => ?_)
      refine GL.val (v := (.bool false)) (Ex.pickF rfl rfl) (by decide) ?_
      refine GL.nil ?_
      refine GE.thenN ?_
      refine GC.cond rfl (fun hq15 => by cases hq15) (fun _ => ?_)
      refine GC.skip ?_
      refine GE.thenN ?_
      refine GC.seq ?_
      refine GC.seq ?_
      refine GC.region ?_
      refine GL.val (Ex.move rfl) (by decide) ?_
      refine GL.nil ?_
      refine GE.thenN ?_
      refine GC.cond rfl (fun hq16 => ?_) (fun hq16 => ?_)
      · refine GC.seq ?_
        refine GC.region ?_
        refine GL.val (Ex.move rfl) (by decide) ?_
        refine GL.step (Stp.callR (vs := [(.slice ad 0 c)]) rfl rfl T.own89 (by decide) (fun wc hw => low_0 ad c wc)) (fun xq17 hq18 => ?_)
        refine GL.val (v := (.int .u64 0)) (Ex.neg rfl (Z := 0) (by rw [wu64]; omega)) (by decide) ?_
        refine GL.val (v := (.int .i64 0)) (Ex.conv rfl Try.underlying70 Try.underlying2 (Z := 0) (by rw [IntKind.wrap_i64]; omega)) (by decide) ?_
        refine GL.val (Ex.assign rfl) (by decide) ?_
        refine GL.val (Ex.assign rfl) (by decide) ?_
        refine GL.nil ?_
        refine GE.thenN ?_
        refine GC.ret ?_
        refine GE.thenR ?_
        refine GC.ret2 rfl (Rv.tmp rfl) (Rv.tmp rfl) (fun wN HN => ?_)
        exact HN.ret () trivial (by rfl) (List.nil_sublist _) rfl
      · refine GC.skip ?_
        refine GE.thenN ?_
        refine GC.seq ?_
        refine GC.region ?_
        refine GL.val (Ex.move rfl) (by decide) ?_
        refine GL.step (Stp.callR (vs := [(.slice ad 0 c)]) rfl rfl T.own89 (by decide) (fun wc hw => low_0 ad c wc)) (fun xq19 hq20 => ?_)
        refine GL.val (v := (.int .i64 0)) (Ex.conv rfl Try.underlying70 Try.underlying2 (Z := 0) (w64 (by omega))) (by decide) ?_
        refine GL.val (Ex.assign rfl) (by decide) ?_
        refine GL.val (Ex.assign rfl) (by decide) ?_
        refine GL.nil ?_
        refine GE.thenN ?_
        refine GC.ret ?_
        refine GC.ret2 rfl (Rv.tmp rfl) (Rv.tmp rfl) (fun wN HN => ?_)
        exact HN.ret () trivial (by rfl) (List.nil_sublist _) rfl
  · refine GL.stepG (tj := 9) rfl rfl (Ex.wp (v := (.bool false)) (Ex.cast (Ex.move rfl) (congrArg Value.bool ((Bool.eq_false_iff.2 hq3)))) (by decide)) (fun _ _ => ?_)
    refine GL.stepG (tj := 9) rfl rfl (Ex.wp (v := (.bool true)) (Ex.cast (Ex.not rfl) rfl) (by decide)) (fun _ _ => ?_)
    refine GL.stepG (tj := 9) rfl rfl (Ex.wp (v := (.bool true)) (Ex.move rfl) (by decide)) (fun _ _ => ?_)
    refine GL.stepG (tj := 12) rfl rfl (Ex.wp (v := (.slice ad 0 c)) (Ex.move rfl) (by decide)) (fun _ _ => ?_)
    refine GL.stepG (tj := 12) rfl rfl (Stp.callR (vs := [(.slice ad 0 c)]) rfl rfl T.own88 (by decide) (fun wc hw => bits_0 ad c wc)) (fun xq21 hq22 => ?_)
    refine GL.stepG (tj := 12) rfl rfl (Ex.wp (v := (.bool false)) (Ex.cast (Ex.gtr rfl rfl) rfl) (by decide)) (fun _ _ => ?_)
    refine GL.stepG (tj := 9) rfl rfl (Ex.wp (v := (.bool false)) (Ex.pickT rfl rfl) (by decide)) (fun _ _ => ?_)
    refine GL.val (v := (.bool false)) (Ex.pickF rfl rfl) (by decide) ?_
    refine GL.val (Ex.move rfl) (by decide) ?_
    by_cases hq23 : ng = true
    · refine GL.stepG (tj := 18) rfl rfl (Ex.wp (v := (.bool true)) (Ex.cast (Ex.move rfl) (congrArg Value.bool (hq23))) (by decide)) (fun _ _ => ?_)
      refine GL.stepG (tj := 18) rfl rfl (Ex.wp (v := (.bool true)) (Ex.move rfl) (by decide)) (fun _ _ => ?_)
      refine GL.stepG (tj := 20) rfl rfl (Ex.wp (v := (.slice ad 0 c)) (Ex.move rfl) (by decide)) (fun _ _ => ?_)
      refine GL.stepG (tj := 20) rfl rfl (Stp.callR (vs := [(.int .u64 9223372036854775808)]) rfl rfl T.own62 (by decide) (fun wc hw => natof_top wc)) (fun xq24 hq25 => ?_)
      refine GL.stepG (tj := 20) rfl rfl (Stp.callR (vs := [(.slice ad 0 c), (.slice (some ⟨xq24, 0, none⟩) 2 2)]) rfl rfl T.own60 (by decide) (fun wc hw => cmp_top ad (some ⟨xq24, 0, none⟩) 0 c 2 wc (by decide))) (fun xq26 hq27 => ?_)
      refine GL.stepG (tj := 20) rfl rfl (Ex.wp (v := (.bool false)) (Ex.cast (Ex.gtr rfl rfl) rfl) (by decide)) (fun _ _ => ?_)
      refine GL.stepG (tj := 18) rfl rfl (Ex.wp (v := (.bool false)) (Ex.pickT rfl rfl) (by decide)) (fun _ _ => ?_)
      refine GL.val (v := (.bool false)) (Ex.pickF rfl rfl) (by decide) ?_
      refine GL.nil ?_
      refine GE.thenN ?_
      refine GC.cond rfl (fun hq28 => by cases hq28) (fun _ => ?_)
      refine GC.skip ?_
      refine GE.thenN ?_
      refine GC.seq ?_
      refine GC.seq ?_
      refine GC.region ?_
      refine GL.val (Ex.move rfl) (by decide) ?_
      refine GL.nil ?_
      refine GE.thenN ?_
      refine GC.cond rfl (fun hq29 => ?_) (fun hq29 => ?_)
      · refine GC.seq ?_
        refine GC.region ?_
        refine GL.val (Ex.move rfl) (by decide) ?_
        refine GL.step (Stp.callR (vs := [(.slice ad 0 c)]) rfl rfl T.own89 (by decide) (fun wc hw => low_0 ad c wc)) (fun xq30 hq31 => ?_)
        refine GL.val (v := (.int .u64 0)) (Ex.neg rfl (Z := 0) (by rw [wu64]; omega)) (by decide) ?_
        refine GL.val (v := (.int .i64 0)) (Ex.conv rfl Try.underlying70 Try.underlying2 (Z := 0) (by rw [IntKind.wrap_i64]; omega)) (by decide) ?_
        refine GL.val (Ex.assign rfl) (by decide) ?_
        refine GL.val (Ex.assign rfl) (by decide) ?_
        refine GL.nil ?_
        refine GE.thenN ?_
        refine GC.ret ?_
        refine GE.thenR ?_
        refine GC.ret2 rfl (Rv.tmp rfl) (Rv.tmp rfl) (fun wN HN => ?_)
        exact HN.ret () trivial (by rfl) (List.nil_sublist _) rfl
      · refine GC.skip ?_
        refine GE.thenN ?_
        refine GC.seq ?_
        refine GC.region ?_
        refine GL.val (Ex.move rfl) (by decide) ?_
        refine GL.step (Stp.callR (vs := [(.slice ad 0 c)]) rfl rfl T.own89 (by decide) (fun wc hw => low_0 ad c wc)) (fun xq32 hq33 => ?_)
        refine GL.val (v := (.int .i64 0)) (Ex.conv rfl Try.underlying70 Try.underlying2 (Z := 0) (w64 (by omega))) (by decide) ?_
        refine GL.val (Ex.assign rfl) (by decide) ?_
        refine GL.val (Ex.assign rfl) (by decide) ?_
        refine GL.nil ?_
        refine GE.thenN ?_
        refine GC.ret ?_
        refine GC.ret2 rfl (Rv.tmp rfl) (Rv.tmp rfl) (fun wN HN => ?_)
        exact HN.ret () trivial (by rfl) (List.nil_sublist _) rfl
    · refine GL.stepG (tj := 18) rfl rfl (Ex.wp (v := (.bool false)) (Ex.cast (Ex.move rfl) (congrArg Value.bool ((Bool.eq_false_iff.2 hq23)))) (by decide)) (fun _ _ => ?_)
      refine GL.stepG (tj := 18) rfl rfl (Ex.wp (v := (.bool false)) (Ex.move rfl) (by decide)) (fun _ _ => ?_)
      refine GL.skipG (tj := 20) rfl rfl rfl (by decide) ?_
      refine GL.skipG (tj := 20) rfl rfl rfl (by decide) ?_
      refine GL.skipG (tj := 20) rfl rfl rfl (by decide) ?_
      refine GL.skipG (tj := 20) rfl rfl rfl (by decide) ?_
      refine GL.stepG (tj := 18) rfl rfl (Ex.wp (v := (.bool false)) (Ex.pickF rfl rfl) (by decide)) (fun _ _ => ?_)
      refine GL.val (v := (.bool false)) (Ex.pickF rfl rfl) (by decide) ?_
      refine GL.nil ?_
      refine GE.thenN ?_
      refine GC.cond rfl (fun hq34 => by cases hq34) (fun _ => ?_)
      refine GC.skip ?_
      refine GE.thenN ?_
      refine GC.seq ?_
      refine GC.seq ?_
      refine GC.region ?_
      refine GL.val (Ex.move rfl) (by decide) ?_
      refine GL.nil ?_
      refine GE.thenN ?_
      refine GC.cond rfl (fun hq35 => ?_) (fun hq35 => ?_)
      · refine GC.seq ?_
        refine GC.region ?_
        refine GL.val (Ex.move rfl) (by decide) ?_
        refine GL.step (Stp.callR (vs := [(.slice ad 0 c)]) rfl rfl T.own89 (by decide) (fun wc hw => low_0 ad c wc)) (fun xq36 hq37 => ?_)
        refine GL.val (v := (.int .u64 0)) (Ex.neg rfl (Z := 0) (by rw [wu64]; omega)) (by decide) ?_
        refine GL.val (v := (.int .i64 0)) (Ex.conv rfl Try.underlying70 Try.underlying2 (Z := 0) (by rw [IntKind.wrap_i64]; omega)) (by decide) ?_
        refine GL.val (Ex.assign rfl) (by decide) ?_
        refine GL.val (Ex.assign rfl) (by decide) ?_
        refine GL.nil ?_
        refine GE.thenN ?_
        refine GC.ret ?_
        refine GE.thenR ?_
        refine GC.ret2 rfl (Rv.tmp rfl) (Rv.tmp rfl) (fun wN HN => ?_)
        exact HN.ret () trivial (by rfl) (List.nil_sublist _) rfl
      · refine GC.skip ?_
        refine GE.thenN ?_
        refine GC.seq ?_
        refine GC.region ?_
        refine GL.val (Ex.move rfl) (by decide) ?_
        refine GL.step (Stp.callR (vs := [(.slice ad 0 c)]) rfl rfl T.own89 (by decide) (fun wc hw => low_0 ad c wc)) (fun xq38 hq39 => ?_)
        refine GL.val (v := (.int .i64 0)) (Ex.conv rfl Try.underlying70 Try.underlying2 (Z := 0) (w64 (by omega))) (by decide) ?_
        refine GL.val (Ex.assign rfl) (by decide) ?_
        refine GL.val (Ex.assign rfl) (by decide) ?_
        refine GL.nil ?_
        refine GE.thenN ?_
        refine GC.ret ?_
        refine GC.ret2 rfl (Rv.tmp rfl) (Rv.tmp rfl) (fun wN HN => ?_)
        exact HN.ret () trivial (by rfl) (List.nil_sublist _) rfl

set_option maxRecDepth 100000 in
set_option maxHeartbeats 1000000 in
theorem near_A (a : Int) (v n : Nat) (w : World) (ha : 0 ≤ a ∧ a < 4294967296) (hf : a % 2147483648 < 2139095040) (hm : Bt.mant a = ((v : Nat) : Int)) (hv0 : 0 < v) (hE : Bt.expo a + 23 = ((n : Nat) : Int)) (hn : n ≤ 6) :
    Calls Try.prog 49 #[(.int .u32 a), (.int .i64 23)] w (Ret w (fun _ : Unit => True) (fun _ => .tuple #[.int .i64 (if (decide (a / 2147483648 % 2 = 1)) = true then -((v * 2 ^ n : Nat) : Int) else ((v * 2 ^ n : Nat) : Int)), .int .i64 0]) (fun _ => [])) := by
  have hv24 : v < 16777216 := by unfold Bt.mant at hm; split at hm <;> omega
  have hv : 0 < v ∧ v < 4294967296 := by omega
  have h64 : v * 2 ^ n ≤ 16777215 * 64 := Nat.mul_le_mul (by omega) (Nat.pow_le_pow_right (by decide) hn)
  have hpos : 0 < v * 2 ^ n := Nat.mul_pos hv0 (Nat.two_pow_pos n)
  refine enter (M := None) (L := []) (n := 86) (l := [(0, (.int .u32 a)), (1, (.int .i64 23))]) Try.func49 rfl rfl (Args.cons rfl (Args.cons rfl (Args.nil _))) (Hp.start _ _) ?_
  refine GC.seq ?_
  refine GC.region ?_
  refine GL.val (Ex.assign rfl) (by decide) ?_
  refine GL.val (Ex.assign rfl) (by decide) ?_
  refine GL.nil ?_
  refine GE.thenN ?_
  refine GC.seq ?_
  refine GC.region ?_
  refine GL.val (Ex.move rfl) (by decide) ?_
  refine GL.step (Stp.callR (vs := [(.int .u32 a)]) rfl rfl T.own68 (by decide) (fun wc hw => num_pos a v wc ha hf hm hv0)) (fun xq1 hq2 => ?_)
  refine GL.step (Stp.alloc T.zr38 (by decide)) (fun bq3 _ => ?_)
  refine GL.step (Stp.st0 (cs' := [(.int .i64 2), (.bool ((decide (a / 2147483648 % 2 = 1)))), (.slice (some ⟨xq1, 0, none⟩) 1 2), (.int .i64 ((Bt.expo a))), (.bool false)]) rfl rfl rfl T.sz38 rfl rfl rfl) (fun _ _ => ?_)
  refine GL.nil ?_
  refine GE.thenN ?_
  refine GC.seq ?_
  refine GC.region ?_
  refine GL.val (v := (.pointer (some ⟨bq3, 3, none⟩))) (Ex.cast (Ex.fieldAddr rfl Try.underlying38 rfl T.sz3 (by decide)) rfl) (by decide) ?_
  refine GL.val (Ex.load rfl T.ag3 (i := 0) rfl rfl) (by decide) ?_
  refine GL.val (Ex.move rfl) (by decide) ?_
  refine GL.val (v := (.int .i64 (((n : Nat) : Int)))) (Ex.add rfl rfl (Z := ((n : Nat) : Int)) (by rw [w64 (by omega)]; omega)) (by decide) ?_
  refine GL.val (v := (.pointer (some ⟨bq3, 3, none⟩))) (Ex.cast (Ex.fieldAddr rfl Try.underlying38 rfl T.sz3 (by decide)) rfl) (by decide) ?_
  refine GL.step (Stp.st0 (cs' := [(.int .i64 2), (.bool ((decide (a / 2147483648 % 2 = 1)))), (.slice (some ⟨xq1, 0, none⟩) 1 2), (.int .i64 (((n : Nat) : Int))), (.bool false)]) rfl rfl rfl T.sz3 rfl rfl rfl) (fun _ _ => ?_)
  refine GL.nil ?_
  refine GE.thenN ?_
  refine GC.seq ?_
  refine GC.seq ?_
  refine GC.region ?_
  refine GL.val (v := (.pointer (some ⟨bq3, 0, none⟩))) (Ex.cast (Ex.fieldAddr rfl Try.underlying38 rfl T.sz3 (by decide)) rfl) (by decide) ?_
  refine GL.val (Ex.load rfl T.ag3 (i := 0) rfl rfl) (by decide) ?_
  refine GL.val (v := (.bool false)) (Ex.cast (Ex.neq rfl rfl) rfl) (by decide) ?_
  refine GL.nil ?_
  refine GE.thenN ?_
  refine GC.cond rfl (fun hq4 => by cases hq4) (fun _ => ?_)
  refine GC.skip ?_
  refine GE.thenN ?_
  refine GC.seq ?_
  refine GC.seq ?_
  refine GC.region ?_
  refine GL.val (v := (.pointer (some ⟨bq3, 3, none⟩))) (Ex.cast (Ex.fieldAddr rfl Try.underlying38 rfl T.sz3 (by decide)) rfl) (by decide) ?_
  refine GL.val (Ex.load rfl T.ag3 (i := 0) rfl rfl) (by decide) ?_
  refine GL.val (v := (.bool true)) (Ex.cast (Ex.geq rfl rfl) (congrArg Value.bool (decide_eq_true (by omega)))) (by decide) ?_
  refine GL.nil ?_
  refine GE.thenN ?_
  refine GC.cond rfl (fun _ => ?_) (fun hq5 => by cases hq5)
  refine GC.seq ?_
  refine GC.drawP [⟨bq3, [(.int .i64 2), (.bool ((decide (a / 2147483648 % 2 = 1)))), (.slice (some ⟨xq1, 0, none⟩) 1 2), (.int .i64 (((n : Nat) : Int))), (.bool false)], 38, true⟩, ⟨xq1, [(.int .u32 (((v : Nat) : Int))), (.int .u32 0)], 23, true⟩] T.mixed (by kernel_rfl) (by kernel_rfl) (fuel := 11) rfl rfl ?_
  refine GH.take 0 (v := (.pointer (some ⟨bq3, 1, none⟩))) rfl (by kernel_rfl) (by kernel_rfl) (by kernel_rfl) (fun _ _ _ h => h) (Ex.cast (Ex.fieldAddr rfl Try.underlying38 rfl T.sz4 (by decide)) rfl) (ulC (ulC ulN)) (by decide) ?_
  refine GH.take 1 (v := (.bool ((decide (a / 2147483648 % 2 = 1))))) rfl (by kernel_rfl) (by kernel_rfl) (by kernel_rfl) (fun _ _ _ h => h) (Ex.load rfl T.ag4 (i := 0) rfl rfl) (ulC (ulC ulN)) (by decide) ?_
  refine GH.take 2 (v := (.pointer (some ⟨bq3, 2, none⟩))) rfl (by kernel_rfl) (by kernel_rfl) (by kernel_rfl) (fun _ _ _ h => h) (Ex.cast (Ex.fieldAddr rfl Try.underlying38 rfl T.sz36 (by decide)) rfl) (ulC (ulC ulN)) (by decide) ?_
  refine GH.take 3 (v := (.slice (some ⟨xq1, 0, none⟩) 1 2)) rfl (by kernel_rfl) (by kernel_rfl) (by kernel_rfl) (fun _ _ _ h => h) (Ex.load rfl T.ag36 (i := 0) rfl rfl) (ulC (ulC ulN)) (by decide) ?_
  refine GH.take 4 (v := (.pointer (some ⟨bq3, 3, none⟩))) rfl (by kernel_rfl) (by kernel_rfl) (by kernel_rfl) (fun _ _ _ h => h) (Ex.cast (Ex.fieldAddr rfl Try.underlying38 rfl T.sz3 (by decide)) rfl) (ulC (ulC ulN)) (by decide) ?_
  refine GH.take 5 (v := (.int .i64 (((n : Nat) : Int)))) rfl (by kernel_rfl) (by kernel_rfl) (by kernel_rfl) (fun _ _ _ h => h) (Ex.load rfl T.ag3 (i := 0) rfl rfl) (ulC (ulC ulN)) (by decide) ?_
  refine GH.one 6 rfl (by kernel_rfl) (Stp.callR (vs := [(.slice (some ⟨xq1, 0, none⟩) 1 2), (.int .i64 (((n : Nat) : Int)))]) rfl rfl T.own61 (by decide) (fun wc hw => up_pos v xq1 2 n wc (by omega) (Lg.rd1 (hw.rdOf (i := 1) rfl 0)) (by omega))) (fun _ => (ulS (ulC (ulC ulN)))) (fun xq10 hq11 => ?_)
  refine GH.one 7 rfl (by kernel_rfl) (Stp.callR (vs := [(.bool ((decide (a / 2147483648 % 2 = 1)))), (.slice (some ⟨xq10, 0, none⟩) 1 2)]) rfl rfl T.own76 (by decide) (fun wc hw => whole_pos (v * 2 ^ n) xq10 2 (decide (a / 2147483648 % 2 = 1)) wc (by omega) (Lg.rd1 (hw.rdOf (i := 0) rfl 0)))) (fun _ => (ulS (ulC (ulC ulN)))) (fun xq12 hq13 => ?_)
  refine GH.take 8 (v := (.int .i64 ((if (decide (a / 2147483648 % 2 = 1)) = true then -((v * 2 ^ n : Nat) : Int) else ((v * 2 ^ n : Nat) : Int))))) rfl (by kernel_rfl) (by kernel_rfl) (by kernel_rfl) (fun _ _ _ h => h) (Ex.extract rfl rfl) (ulS (ulC (ulC ulN))) (by decide) ?_
  refine GH.take 9 (v := (.int .i64 0)) rfl (by kernel_rfl) (by kernel_rfl) (by kernel_rfl) (fun _ _ _ h => h) (Ex.extract rfl rfl) (ulS (ulC (ulC ulN))) (by decide) ?_
  refine GH.take 10 (v := (.int .i64 ((if (decide (a / 2147483648 % 2 = 1)) = true then -((v * 2 ^ n : Nat) : Int) else ((v * 2 ^ n : Nat) : Int))))) rfl (by kernel_rfl) (by kernel_rfl) (by kernel_rfl) (fun _ _ _ h => h) (Ex.assign rfl) (ulS (ulC (ulC ulN))) (by decide) ?_
  refine GH.done (by kernel_rfl) ?_
  refine GE.thenN ?_
  refine GE.tail rfl (Ex.wp (v := (.int .i64 0)) (Ex.assign rfl) (by decide)) (fun _ _ => ?_)
  refine GE.thenN ?_
  refine GC.ret ?_
  refine GE.thenR ?_
  refine GC.ret2 rfl (Rv.tmp rfl) (Rv.tmp rfl) (fun wN HN => ?_)
  exact HN.ret () trivial rfl (List.nil_sublist _) rfl

set_option maxRecDepth 100000 in
set_option maxHeartbeats 1000000 in
theorem near_B (a : Int) (v n : Nat) (w : World) (ha : 0 ≤ a ∧ a < 4294967296) (hf : a % 2147483648 < 2139095040) (hm : Bt.mant a = ((v : Nat) : Int)) (hv0 : 0 < v) (hE : Bt.expo a + 23 = -((n : Nat) : Int)) (hn : 1 ≤ n ∧ n < 32) (hq : 0 < v / 2 ^ n) :
    Calls Try.prog 49 #[(.int .u32 a), (.int .i64 23)] w (Ret w (fun _ : Unit => True) (fun _ => .tuple #[.int .i64 (if (decide (a / 2147483648 % 2 = 1)) = true then -((Fp.rne v n : Nat) : Int) else ((Fp.rne v n : Nat) : Int)), .int .i64 0]) (fun _ => [])) := by
  have hv24 : v < 16777216 := by unfold Bt.mant at hm; split at hm <;> omega
  have hv : 0 < v ∧ v < 4294967296 := by omega
  have hle : v / 2 ^ n ≤ v := Nat.div_le_self _ _
  refine enter (M := None) (L := []) (n := 86) (l := [(0, (.int .u32 a)), (1, (.int .i64 23))]) Try.func49 rfl rfl (Args.cons rfl (Args.cons rfl (Args.nil _))) (Hp.start _ _) ?_
  refine GC.seq ?_
  refine GC.region ?_
  refine GL.val (Ex.assign rfl) (by decide) ?_
  refine GL.val (Ex.assign rfl) (by decide) ?_
  refine GL.nil ?_
  refine GE.thenN ?_
  refine GC.seq ?_
  refine GC.region ?_
  refine GL.val (Ex.move rfl) (by decide) ?_
  refine GL.step (Stp.callR (vs := [(.int .u32 a)]) rfl rfl T.own68 (by decide) (fun wc hw => num_pos a v wc ha hf hm hv0)) (fun xq1 hq2 => ?_)
  refine GL.step (Stp.alloc T.zr38 (by decide)) (fun bq3 _ => ?_)
  refine GL.step (Stp.st0 (cs' := [(.int .i64 2), (.bool ((decide (a / 2147483648 % 2 = 1)))), (.slice (some ⟨xq1, 0, none⟩) 1 2), (.int .i64 ((Bt.expo a))), (.bool false)]) rfl rfl rfl T.sz38 rfl rfl rfl) (fun _ _ => ?_)
  refine GL.nil ?_
  refine GE.thenN ?_
  refine GC.seq ?_
  refine GC.region ?_
  refine GL.val (v := (.pointer (some ⟨bq3, 3, none⟩))) (Ex.cast (Ex.fieldAddr rfl Try.underlying38 rfl T.sz3 (by decide)) rfl) (by decide) ?_
  refine GL.val (Ex.load rfl T.ag3 (i := 0) rfl rfl) (by decide) ?_
  refine GL.val (Ex.move rfl) (by decide) ?_
  refine GL.val (v := (.int .i64 ((-((n : Nat) : Int))))) (Ex.add rfl rfl (Z := (-((n : Nat) : Int))) (by rw [w64 (by omega)]; omega)) (by decide) ?_
  refine GL.val (v := (.pointer (some ⟨bq3, 3, none⟩))) (Ex.cast (Ex.fieldAddr rfl Try.underlying38 rfl T.sz3 (by decide)) rfl) (by decide) ?_
  refine GL.step (Stp.st0 (cs' := [(.int .i64 2), (.bool ((decide (a / 2147483648 % 2 = 1)))), (.slice (some ⟨xq1, 0, none⟩) 1 2), (.int .i64 ((-((n : Nat) : Int)))), (.bool false)]) rfl rfl rfl T.sz3 rfl rfl rfl) (fun _ _ => ?_)
  refine GL.nil ?_
  refine GE.thenN ?_
  refine GC.seq ?_
  refine GC.seq ?_
  refine GC.region ?_
  refine GL.val (v := (.pointer (some ⟨bq3, 0, none⟩))) (Ex.cast (Ex.fieldAddr rfl Try.underlying38 rfl T.sz3 (by decide)) rfl) (by decide) ?_
  refine GL.val (Ex.load rfl T.ag3 (i := 0) rfl rfl) (by decide) ?_
  refine GL.val (v := (.bool false)) (Ex.cast (Ex.neq rfl rfl) rfl) (by decide) ?_
  refine GL.nil ?_
  refine GE.thenN ?_
  refine GC.cond rfl (fun hq4 => by cases hq4) (fun _ => ?_)
  refine GC.skip ?_
  refine GE.thenN ?_
  refine GC.seq ?_
  refine GC.seq ?_
  refine GC.region ?_
  refine GL.val (v := (.pointer (some ⟨bq3, 3, none⟩))) (Ex.cast (Ex.fieldAddr rfl Try.underlying38 rfl T.sz3 (by decide)) rfl) (by decide) ?_
  refine GL.val (Ex.load rfl T.ag3 (i := 0) rfl rfl) (by decide) ?_
  refine GL.val (v := (.bool false)) (Ex.cast (Ex.geq rfl rfl) (congrArg Value.bool (decide_eq_false (by omega)))) (by decide) ?_
  refine GL.nil ?_
  refine GE.thenN ?_
  refine GC.cond rfl (fun hq5 => by cases hq5) (fun _ => ?_)
  refine GC.skip ?_
  refine GE.thenN ?_
  refine GC.seq ?_
  refine GC.region ?_
  refine GL.val (v := (.pointer (some ⟨bq3, 2, none⟩))) (Ex.cast (Ex.fieldAddr rfl Try.underlying38 rfl T.sz36 (by decide)) rfl) (by decide) ?_
  refine GL.val (Ex.load rfl T.ag36 (i := 0) rfl rfl) (by decide) ?_
  refine GL.val (v := (.pointer (some ⟨bq3, 3, none⟩))) (Ex.cast (Ex.fieldAddr rfl Try.underlying38 rfl T.sz3 (by decide)) rfl) (by decide) ?_
  refine GL.val (Ex.load rfl T.ag3 (i := 0) rfl rfl) (by decide) ?_
  refine GL.val (v := (.int .i64 (((n : Nat) : Int)))) (Ex.neg rfl (Z := ((n : Nat) : Int)) (by rw [w64 (by omega)]; omega)) (by decide) ?_
  refine GL.step (Stp.callR (vs := [(.slice (some ⟨xq1, 0, none⟩) 1 2), (.int .i64 (((n : Nat) : Int)))]) rfl rfl T.own77 (by decide) (fun wc hw => down_pos v xq1 2 n wc (by omega) (Lg.rd1 (hw.rdOf (i := 1) rfl 0)) (by omega) hq)) (fun xq6 hq7 => ?_)
  refine GL.val (Ex.move rfl) (by decide) ?_
  refine GL.val (Ex.extract rfl rfl) (by decide) ?_
  refine GL.val (Ex.extract rfl rfl) (by decide) ?_
  refine GL.val (Ex.assign rfl) (by decide) ?_
  refine GL.val (Ex.assign rfl) (by decide) ?_
  refine GL.nil ?_
  refine GE.thenN ?_
  refine GC.seq ?_
  refine GC.region ?_
  refine GL.val (v := (.pointer (some ⟨bq3, 2, none⟩))) (Ex.cast (Ex.fieldAddr rfl Try.underlying38 rfl T.sz36 (by decide)) rfl) (by decide) ?_
  refine GL.val (Ex.load rfl T.ag36 (i := 1) rfl rfl) (by decide) ?_
  refine GL.val (v := (.pointer (some ⟨bq3, 3, none⟩))) (Ex.cast (Ex.fieldAddr rfl Try.underlying38 rfl T.sz3 (by decide)) rfl) (by decide) ?_
  refine GL.val (Ex.load rfl T.ag3 (i := 1) rfl rfl) (by decide) ?_
  refine GL.val (v := (.int .i64 (((n : Nat) : Int)))) (Ex.neg rfl (Z := ((n : Nat) : Int)) (by rw [w64 (by omega)]; omega)) (by decide) ?_
  refine GL.val (v := (.int .i64 (((n - 1 : Nat) : Int)))) (Ex.sub' rfl rfl (Z := ((n - 1 : Nat) : Int)) (by rw [w64 (by omega)]; omega)) (by decide) ?_
  refine GL.step (Stp.callR (vs := [(.slice (some ⟨xq1, 0, none⟩) 1 2), (.int .i64 (((n - 1 : Nat) : Int)))]) rfl rfl T.own78 (by decide) (fun wc hw => bit_p v xq1 2 (n - 1) wc (by omega) (Lg.rd1 (hw.rdOf (i := 2) rfl 0)) (by omega))) (fun xq8 hq9 => ?_)
  refine GL.val (v := (.bool (decide ((((Lg.bt v (n - 1) : Nat) : Int)) = 1)))) (Ex.eql rfl rfl) (by decide) ?_
  refine GL.val (Ex.assign rfl) (by decide) ?_
  refine GL.nil ?_
  refine GE.thenN ?_
  refine GC.seq ?_
  refine GC.region ?_
  refine GL.val (Ex.assign rfl) (by decide) ?_
  refine GL.nil ?_
  refine GE.thenN ?_
  refine GC.seq ?_
  refine GC.seq ?_
  refine GC.region ?_
  refine GL.val (Ex.assign rfl) (by decide) ?_
  refine GL.nil ?_
  refine GE.thenN ?_
  refine GC.block ?_
  refine GC.loop (σ := Nat × Bool) (fun q => q.1 ≤ n - 1 ∧ (q.2 = true ↔ v % 2 ^ q.1 ≠ 0)) (fun q => [(0, (.int .u32 a)), (1, (.int .i64 23)), (4, (.int .i64 0)), (5, (.int .i64 0)), (6, (.pointer (some ⟨bq3, 0, none⟩))), (7, (.slice (some ⟨xq6.1, 0, none⟩) 1 1)), (8, (.bool xq6.2)), (9, (.bool (decide ((((Lg.bt v (n - 1) : Nat) : Int)) = 1)))), (10, (.bool q.2)), (11, (.int .i64 (((q.1 : Nat) : Int))))]) (fun q => [⟨xq6.1, [(.int .u32 (((v / 2 ^ n : Nat) : Int)))], 23, true⟩, ⟨bq3, [(.int .i64 2), (.bool ((decide (a / 2147483648 % 2 = 1)))), (.slice (some ⟨xq1, 0, none⟩) 1 2), (.int .i64 ((-((n : Nat) : Int)))), (.bool false)], 38, true⟩, ⟨xq1, [(.int .u32 (((v : Nat) : Int))), (.int .u32 0)], 23, true⟩]) (fun q => n - 1 - q.1) ((0, false)) ⟨Nat.zero_le _, Lg.start_bit v⟩ ((sub_cons rfl ((sub_cons rfl ((sub_cons rfl ((sub_cons rfl ((sub_cons rfl ((sub_cons rfl ((sub_cons rfl ((sub_cons rfl ((sub_cons rfl ((sub_cons rfl ((sub_nil _)))))))))))))))))))))) (ulC (ulC (ulC ulN))) (fun q hp => ?_)
  obtain ⟨i, rb⟩ := q
  have hpi : i ≤ n - 1 ∧ (rb = true ↔ v % 2 ^ i ≠ 0) := hp
  refine GC.seq ?_
  refine GC.seq ?_
  refine GC.region ?_
  refine GL.val (Ex.move rfl) (by decide) ?_
  refine GL.val (v := (.pointer (some ⟨bq3, 3, none⟩))) (Ex.cast (Ex.fieldAddr rfl Try.underlying38 rfl T.sz3 (by decide)) rfl) (by decide) ?_
  refine GL.val (Ex.load rfl T.ag3 (i := 1) rfl rfl) (by decide) ?_
  refine GL.val (v := (.int .i64 (((n : Nat) : Int)))) (Ex.neg rfl (Z := ((n : Nat) : Int)) (by rw [w64 (by omega)]; omega)) (by decide) ?_
  refine GL.val (v := (.int .i64 (((n - 1 : Nat) : Int)))) (Ex.sub' rfl rfl (Z := ((n - 1 : Nat) : Int)) (by rw [w64 (by omega)]; omega)) (by decide) ?_
  refine GL.val (v := (.bool (decide ((((i : Nat) : Int)) < (((n - 1 : Nat) : Int)))))) (Ex.lss rfl rfl) (by decide) ?_
  refine GL.nil ?_
  refine GE.thenN ?_
  refine GC.cond rfl (fun hq10 => ?_) (fun hq10 => ?_)
  · replace hq10 := of_decide_eq_true hq10
    refine GC.skip ?_
    refine GE.thenN ?_
    refine GC.seq ?_
    refine GC.block ?_
    refine GC.region ?_
    by_cases hq11 : rb = true
    · refine GL.val (v := (.bool true)) (Ex.cast (Ex.move rfl) (congrArg Value.bool (hq11))) (by decide) ?_
      refine GL.val (Ex.move rfl) (by decide) ?_
      refine GL.skipG (tj := 61) rfl rfl rfl (by decide) ?_
      refine GL.skipG (tj := 61) rfl rfl rfl (by decide) ?_
      refine GL.skipG (tj := 61) rfl rfl rfl (by decide) ?_
      refine GL.skipG (tj := 61) rfl rfl rfl (by decide) ?_
      refine GL.skipG (tj := 61) rfl rfl rfl (by decide) ?_
      refine GL.val (v := (.bool true)) (Ex.pickT rfl rfl) (by decide) ?_
      refine GL.val (Ex.assign rfl) (by decide) ?_
      refine GL.nil ?_
      refine GE.blockN ?_
      refine GE.thenN ?_
      refine GC.region ?_
      refine GL.val (Ex.move rfl) (by decide) ?_
      refine GL.val (v := (.int .i64 (((i + 1 : Nat) : Int)))) (Ex.add rfl rfl (Z := ((i + 1 : Nat) : Int)) (w64 (by omega))) (by decide) ?_
      refine GL.val (Ex.assign rfl) (by decide) ?_
      refine GL.nil ?_
      refine GE.thenN ?_
      exact Head.mk ((i + 1, true)) ⟨(by show i + 1 ≤ n - 1; omega), Lg.more_bit hpi.2 hq11⟩ (by show n - 1 - (i + 1) < n - 1 - i; omega) ((sub_cons rfl ((sub_cons rfl ((sub_cons rfl ((sub_cons rfl ((sub_cons rfl ((sub_cons rfl ((sub_cons rfl ((sub_cons rfl ((sub_cons rfl ((sub_cons rfl ((sub_nil _)))))))))))))))))))))) (ulC (ulC (ulC ulN)))
    · refine GL.val (v := (.bool false)) (Ex.cast (Ex.move rfl) (congrArg Value.bool ((Bool.eq_false_iff.2 hq11)))) (by decide) ?_
      refine GL.val (Ex.move rfl) (by decide) ?_
      refine GL.stepG (tj := 61) rfl rfl (Ex.wp (v := (.pointer (some ⟨bq3, 2, none⟩))) (Ex.cast (Ex.fieldAddr rfl Try.underlying38 rfl T.sz36 (by decide)) rfl) (by decide)) (fun _ _ => ?_)
      refine GL.stepG (tj := 61) rfl rfl (Ex.wp (v := (.slice (some ⟨xq1, 0, none⟩) 1 2)) (Ex.load rfl T.ag36 (i := 1) rfl rfl) (by decide)) (fun _ _ => ?_)
      refine GL.stepG (tj := 61) rfl rfl (Ex.wp (v := (.int .i64 (((i : Nat) : Int)))) (Ex.move rfl) (by decide)) (fun _ _ => ?_)
      refine GL.stepG (tj := 61) rfl rfl (Stp.callR (vs := [(.slice (some ⟨xq1, 0, none⟩) 1 2), (.int .i64 (((i : Nat) : Int)))]) rfl rfl T.own78 (by decide) (fun wc hw => bit_p v xq1 2 i wc (by omega) (Lg.rd1 (hw.rdOf (i := 2) rfl 0)) (by omega))) (fun xq12 hq13 => ?_)
      refine GL.stepG (tj := 61) rfl rfl (Ex.wp (v := (.bool (decide ((((Lg.bt v i : Nat) : Int)) = 1)))) (Ex.eql rfl rfl) (by decide)) (fun _ _ => ?_)
      refine GL.val (v := (.bool (decide ((((Lg.bt v i : Nat) : Int)) = 1)))) (Ex.pickF rfl rfl) (by decide) ?_
      refine GL.val (Ex.assign rfl) (by decide) ?_
      refine GL.nil ?_
      refine GE.blockN ?_
      refine GE.thenN ?_
      refine GC.region ?_
      refine GL.val (Ex.move rfl) (by decide) ?_
      refine GL.val (v := (.int .i64 (((i + 1 : Nat) : Int)))) (Ex.add rfl rfl (Z := ((i + 1 : Nat) : Int)) (w64 (by omega))) (by decide) ?_
      refine GL.val (Ex.assign rfl) (by decide) ?_
      refine GL.nil ?_
      refine GE.thenN ?_
      exact Head.mk ((i + 1, decide ((((Lg.bt v i : Nat) : Int)) = 1))) ⟨(by show i + 1 ≤ n - 1; omega), Lg.or_bit hpi.2 (by simpa using hq11)⟩ (by show n - 1 - (i + 1) < n - 1 - i; omega) ((sub_cons rfl ((sub_cons rfl ((sub_cons rfl ((sub_cons rfl ((sub_cons rfl ((sub_cons rfl ((sub_cons rfl ((sub_cons rfl ((sub_cons rfl ((sub_cons rfl ((sub_nil _)))))))))))))))))))))) (ulC (ulC (ulC ulN)))
  · replace hq10 := of_decide_eq_false hq10
    have hb := Lg.exit_bit hpi (.inl (by omega))
    refine GC.exit ?_
    refine GE.thenE ?_
    refine GE.thenE ?_
    refine GE.blockE ?_
    refine GE.thenN ?_
    refine GC.seq ?_
    refine GC.seq ?_
    refine GC.region ?_
    by_cases hq14 : ((((Lg.bt v (n - 1) : Nat) : Int)) = 1)
    · refine GL.val (v := (.bool true)) (Ex.cast (Ex.move rfl) (congrArg Value.bool (decide_eq_true hq14))) (by decide) ?_
      refine GL.val (Ex.move rfl) (by decide) ?_
      by_cases hq15 : rb = true
      · refine GL.stepG (tj := 69) rfl rfl (Ex.wp (v := (.bool true)) (Ex.cast (Ex.move rfl) (congrArg Value.bool (hq15))) (by decide)) (fun _ _ => ?_)
        refine GL.stepG (tj := 69) rfl rfl (Ex.wp (v := (.bool true)) (Ex.move rfl) (by decide)) (fun _ _ => ?_)
        refine GL.skipG (tj := 71) rfl rfl rfl (by decide) ?_
        refine GL.skipG (tj := 71) rfl rfl rfl (by decide) ?_
        refine GL.skipG (tj := 71) rfl rfl rfl (by decide) ?_
        refine GL.stepG (tj := 69) rfl rfl (Ex.wp (v := (.bool true)) (Ex.pickT rfl rfl) (by decide)) (fun _ _ => ?_)
        refine GL.val (v := (.bool true)) (Ex.pickT rfl rfl) (by decide) ?_
        refine GL.nil ?_
        refine GE.thenN ?_
        refine GC.cond rfl (fun _ => ?_) (fun hq16 => by cases hq16)
        refine GC.region ?_
        refine GL.val (Ex.move rfl) (by decide) ?_
        refine GL.step (Stp.callR (vs := [(.int .u64 1)]) rfl rfl T.own62 (by decide) (fun wc hw => natof_pos 1 wc (by decide))) (fun xq17 hq18 => ?_)
        refine GL.step (Stp.callR (vs := [(.slice (some ⟨xq6.1, 0, none⟩) 1 1), (.slice (some ⟨xq17, 0, none⟩) 1 2)]) rfl rfl T.own64 (by decide) (fun wc hw => plus_1 (v / 2 ^ n) xq6.1 1 xq17 2 wc (by omega) (Lg.rd1 (hw.rdOf (i := 1) rfl 0)) (Lg.rd1 (hw.rdOf (i := 0) rfl 0)))) (fun xq19 hq20 => ?_)
        refine GL.val (Ex.assign rfl) (by decide) ?_
        refine GL.nil ?_
        refine GE.thenN ?_
        refine GC.seq ?_
        refine GC.region ?_
        refine GL.val (v := (.pointer (some ⟨bq3, 1, none⟩))) (Ex.cast (Ex.fieldAddr rfl Try.underlying38 rfl T.sz4 (by decide)) rfl) (by decide) ?_
        refine GL.val (Ex.load rfl T.ag4 (i := 3) rfl rfl) (by decide) ?_
        refine GL.val (Ex.move rfl) (by decide) ?_
        refine GL.step (Stp.callR (vs := [(.bool ((decide (a / 2147483648 % 2 = 1)))), (.slice (some ⟨xq19, 0, none⟩) 1 2)]) rfl rfl T.own76 (by decide) (fun wc hw => whole_pos ((v / 2 ^ n) + 1) xq19 2 (decide (a / 2147483648 % 2 = 1)) wc (by omega) (Lg.rd1 (hw.rdOf (i := 0) rfl 0)))) (fun xq21 hq22 => ?_)
        refine GL.val (Ex.extract rfl rfl) (by decide) ?_
        refine GL.val (Ex.extract rfl rfl) (by decide) ?_
        refine GL.val (Ex.assign rfl) (by decide) ?_
        refine GL.val (Ex.assign rfl) (by decide) ?_
        refine GL.nil ?_
        refine GE.thenN ?_
        refine GC.ret ?_
        refine GC.ret2 rfl (Rv.tmp rfl) (Rv.tmp rfl) (fun wN HN => ?_)
        exact HN.ret () trivial (by rw [Lg.up_n (by omega) (by omega) (by first | exact Or.inl (hb.1 (by assumption)) | exact Or.inr (by omega))]; rfl) (List.nil_sublist _) rfl
      · refine GL.stepG (tj := 69) rfl rfl (Ex.wp (v := (.bool false)) (Ex.cast (Ex.move rfl) (congrArg Value.bool ((Bool.eq_false_iff.2 hq15)))) (by decide)) (fun _ _ => ?_)
        refine GL.stepG (tj := 69) rfl rfl (Ex.wp (v := (.bool false)) (Ex.move rfl) (by decide)) (fun _ _ => ?_)
        refine GL.stepG (tj := 71) rfl rfl (Ex.wp (v := (.slice (some ⟨xq6.1, 0, none⟩) 1 1)) (Ex.move rfl) (by decide)) (fun _ _ => ?_)
        refine GL.stepG (tj := 71) rfl rfl (Stp.callR (vs := [(.slice (some ⟨xq6.1, 0, none⟩) 1 1), (.int .i64 0)]) rfl rfl T.own78 (by decide) (fun wc hw => bit_p (v / 2 ^ n) xq6.1 1 0 wc (by omega) (Lg.rd1 (hw.rdOf (i := 0) rfl 0)) (by omega))) (fun xq23 hq24 => ?_)
        refine GL.stepG (tj := 71) rfl rfl (Ex.wp (v := (.bool (decide ((((Lg.bt (v / 2 ^ n) 0 : Nat) : Int)) = 1)))) (Ex.eql rfl rfl) (by decide)) (fun _ _ => ?_)
        refine GL.stepG (tj := 69) rfl rfl (Ex.wp (v := (.bool (decide ((((Lg.bt (v / 2 ^ n) 0 : Nat) : Int)) = 1)))) (Ex.pickF rfl rfl) (by decide)) (fun _ _ => ?_)
        refine GL.val (v := (.bool (decide ((((Lg.bt (v / 2 ^ n) 0 : Nat) : Int)) = 1)))) (Ex.pickT rfl rfl) (by decide) ?_
        refine GL.nil ?_
        refine GE.thenN ?_
        refine GC.cond rfl (fun hq25 => ?_) (fun hq25 => ?_)
        · replace hq25 := of_decide_eq_true hq25
          refine GC.region ?_
          refine GL.val (Ex.move rfl) (by decide) ?_
          refine GL.step (Stp.callR (vs := [(.int .u64 1)]) rfl rfl T.own62 (by decide) (fun wc hw => natof_pos 1 wc (by decide))) (fun xq26 hq27 => ?_)
          refine GL.step (Stp.callR (vs := [(.slice (some ⟨xq6.1, 0, none⟩) 1 1), (.slice (some ⟨xq26, 0, none⟩) 1 2)]) rfl rfl T.own64 (by decide) (fun wc hw => plus_1 (v / 2 ^ n) xq6.1 1 xq26 2 wc (by omega) (Lg.rd1 (hw.rdOf (i := 1) rfl 0)) (Lg.rd1 (hw.rdOf (i := 0) rfl 0)))) (fun xq28 hq29 => ?_)
          refine GL.val (Ex.assign rfl) (by decide) ?_
          refine GL.nil ?_
          refine GE.thenN ?_
          refine GC.seq ?_
          refine GC.region ?_
          refine GL.val (v := (.pointer (some ⟨bq3, 1, none⟩))) (Ex.cast (Ex.fieldAddr rfl Try.underlying38 rfl T.sz4 (by decide)) rfl) (by decide) ?_
          refine GL.val (Ex.load rfl T.ag4 (i := 3) rfl rfl) (by decide) ?_
          refine GL.val (Ex.move rfl) (by decide) ?_
          refine GL.step (Stp.callR (vs := [(.bool ((decide (a / 2147483648 % 2 = 1)))), (.slice (some ⟨xq28, 0, none⟩) 1 2)]) rfl rfl T.own76 (by decide) (fun wc hw => whole_pos ((v / 2 ^ n) + 1) xq28 2 (decide (a / 2147483648 % 2 = 1)) wc (by omega) (Lg.rd1 (hw.rdOf (i := 0) rfl 0)))) (fun xq30 hq31 => ?_)
          refine GL.val (Ex.extract rfl rfl) (by decide) ?_
          refine GL.val (Ex.extract rfl rfl) (by decide) ?_
          refine GL.val (Ex.assign rfl) (by decide) ?_
          refine GL.val (Ex.assign rfl) (by decide) ?_
          refine GL.nil ?_
          refine GE.thenN ?_
          refine GC.ret ?_
          refine GC.ret2 rfl (Rv.tmp rfl) (Rv.tmp rfl) (fun wN HN => ?_)
          exact HN.ret () trivial (by rw [Lg.up_n (by omega) (by omega) (by first | exact Or.inl (hb.1 (by assumption)) | exact Or.inr (by omega))]; rfl) (List.nil_sublist _) rfl
        · replace hq25 := of_decide_eq_false hq25
          refine GC.skip ?_
          refine GE.thenN ?_
          refine GC.seq ?_
          refine GC.region ?_
          refine GL.val (v := (.pointer (some ⟨bq3, 1, none⟩))) (Ex.cast (Ex.fieldAddr rfl Try.underlying38 rfl T.sz4 (by decide)) rfl) (by decide) ?_
          refine GL.val (Ex.load rfl T.ag4 (i := 1) rfl rfl) (by decide) ?_
          refine GL.val (Ex.move rfl) (by decide) ?_
          refine GL.step (Stp.callR (vs := [(.bool ((decide (a / 2147483648 % 2 = 1)))), (.slice (some ⟨xq6.1, 0, none⟩) 1 1)]) rfl rfl T.own76 (by decide) (fun wc hw => whole_pos (v / 2 ^ n) xq6.1 1 (decide (a / 2147483648 % 2 = 1)) wc (by omega) (Lg.rd1 (hw.rdOf (i := 0) rfl 0)))) (fun xq32 hq33 => ?_)
          refine GL.val (Ex.extract rfl rfl) (by decide) ?_
          refine GL.val (Ex.extract rfl rfl) (by decide) ?_
          refine GL.val (Ex.assign rfl) (by decide) ?_
          refine GL.val (Ex.assign rfl) (by decide) ?_
          refine GL.nil ?_
          refine GE.thenN ?_
          refine GC.ret ?_
          refine GC.ret2 rfl (Rv.tmp rfl) (Rv.tmp rfl) (fun wN HN => ?_)
          exact HN.ret () trivial (by rw [Lg.no_n (by omega) (by first | exact fun q => absurd q.1 (by omega) | exact fun q => by rcases q.2 with z | z; exact absurd (hb.2 z) (by assumption); (first | omega | (rw [hq] at z; cases z)))]; rfl) (List.nil_sublist _) rfl
    · refine GL.val (v := (.bool false)) (Ex.cast (Ex.move rfl) (congrArg Value.bool (decide_eq_false hq14))) (by decide) ?_
      refine GL.val (Ex.move rfl) (by decide) ?_
      refine GL.skipG (tj := 69) rfl rfl rfl (by decide) ?_
      refine GL.skipG (tj := 69) rfl rfl rfl (by decide) ?_
      refine GL.skipU (tj := 71) rfl rfl (by decide) ?_
      refine GL.skipU (tj := 71) rfl rfl (by decide) ?_
      refine GL.skipU (tj := 71) rfl rfl (by decide) ?_
      refine GL.skipG (tj := 69) rfl rfl rfl (by decide) ?_
      refine GL.val (v := (.bool false)) (Ex.pickF rfl rfl) (by decide) ?_
      refine GL.nil ?_
      refine GE.thenN ?_
      refine GC.cond rfl (fun hq34 => by cases hq34) (fun _ => ?_)
      refine GC.skip ?_
      refine GE.thenN ?_
      refine GC.seq ?_
      refine GC.region ?_
      refine GL.val (v := (.pointer (some ⟨bq3, 1, none⟩))) (Ex.cast (Ex.fieldAddr rfl Try.underlying38 rfl T.sz4 (by decide)) rfl) (by decide) ?_
      refine GL.val (Ex.load rfl T.ag4 (i := 1) rfl rfl) (by decide) ?_
      refine GL.val (Ex.move rfl) (by decide) ?_
      refine GL.step (Stp.callR (vs := [(.bool ((decide (a / 2147483648 % 2 = 1)))), (.slice (some ⟨xq6.1, 0, none⟩) 1 1)]) rfl rfl T.own76 (by decide) (fun wc hw => whole_pos (v / 2 ^ n) xq6.1 1 (decide (a / 2147483648 % 2 = 1)) wc (by omega) (Lg.rd1 (hw.rdOf (i := 0) rfl 0)))) (fun xq35 hq36 => ?_)
      refine GL.val (Ex.extract rfl rfl) (by decide) ?_
      refine GL.val (Ex.extract rfl rfl) (by decide) ?_
      refine GL.val (Ex.assign rfl) (by decide) ?_
      refine GL.val (Ex.assign rfl) (by decide) ?_
      refine GL.nil ?_
      refine GE.thenN ?_
      refine GC.ret ?_
      refine GC.ret2 rfl (Rv.tmp rfl) (Rv.tmp rfl) (fun wN HN => ?_)
      exact HN.ret () trivial (by rw [Lg.no_n (by omega) (by first | exact fun q => absurd q.1 (by omega) | exact fun q => by rcases q.2 with z | z; exact absurd (hb.2 z) (by assumption); (first | omega | (rw [hq] at z; cases z)))]; rfl) (List.nil_sublist _) rfl

set_option maxRecDepth 100000 in
set_option maxHeartbeats 1000000 in
theorem near_C (a : Int) (v n : Nat) (w : World) (ha : 0 ≤ a ∧ a < 4294967296) (hf : a % 2147483648 < 2139095040) (hm : Bt.mant a = ((v : Nat) : Int)) (hv0 : 0 < v) (hE : Bt.expo a + 23 = -((n : Nat) : Int)) (hn : 1 ≤ n ∧ n < 32) (hq : v / 2 ^ n = 0) :
    Calls Try.prog 49 #[(.int .u32 a), (.int .i64 23)] w (Ret w (fun _ : Unit => True) (fun _ => .tuple #[.int .i64 (if (decide (a / 2147483648 % 2 = 1)) = true then -((Fp.rne v n : Nat) : Int) else ((Fp.rne v n : Nat) : Int)), .int .i64 0]) (fun _ => [])) := by
  have hv24 : v < 16777216 := by unfold Bt.mant at hm; split at hm <;> omega
  have hv : 0 < v ∧ v < 4294967296 := by omega
  refine enter (M := None) (L := []) (n := 86) (l := [(0, (.int .u32 a)), (1, (.int .i64 23))]) Try.func49 rfl rfl (Args.cons rfl (Args.cons rfl (Args.nil _))) (Hp.start _ _) ?_
  refine GC.seq ?_
  refine GC.region ?_
  refine GL.val (Ex.assign rfl) (by decide) ?_
  refine GL.val (Ex.assign rfl) (by decide) ?_
  refine GL.nil ?_
  refine GE.thenN ?_
  refine GC.seq ?_
  refine GC.region ?_
  refine GL.val (Ex.move rfl) (by decide) ?_
  refine GL.step (Stp.callR (vs := [(.int .u32 a)]) rfl rfl T.own68 (by decide) (fun wc hw => num_pos a v wc ha hf hm hv0)) (fun xq1 hq2 => ?_)
  refine GL.step (Stp.alloc T.zr38 (by decide)) (fun bq3 _ => ?_)
  refine GL.step (Stp.st0 (cs' := [(.int .i64 2), (.bool ((decide (a / 2147483648 % 2 = 1)))), (.slice (some ⟨xq1, 0, none⟩) 1 2), (.int .i64 ((Bt.expo a))), (.bool false)]) rfl rfl rfl T.sz38 rfl rfl rfl) (fun _ _ => ?_)
  refine GL.nil ?_
  refine GE.thenN ?_
  refine GC.seq ?_
  refine GC.region ?_
  refine GL.val (v := (.pointer (some ⟨bq3, 3, none⟩))) (Ex.cast (Ex.fieldAddr rfl Try.underlying38 rfl T.sz3 (by decide)) rfl) (by decide) ?_
  refine GL.val (Ex.load rfl T.ag3 (i := 0) rfl rfl) (by decide) ?_
  refine GL.val (Ex.move rfl) (by decide) ?_
  refine GL.val (v := (.int .i64 ((-((n : Nat) : Int))))) (Ex.add rfl rfl (Z := (-((n : Nat) : Int))) (by rw [w64 (by omega)]; omega)) (by decide) ?_
  refine GL.val (v := (.pointer (some ⟨bq3, 3, none⟩))) (Ex.cast (Ex.fieldAddr rfl Try.underlying38 rfl T.sz3 (by decide)) rfl) (by decide) ?_
  refine GL.step (Stp.st0 (cs' := [(.int .i64 2), (.bool ((decide (a / 2147483648 % 2 = 1)))), (.slice (some ⟨xq1, 0, none⟩) 1 2), (.int .i64 ((-((n : Nat) : Int)))), (.bool false)]) rfl rfl rfl T.sz3 rfl rfl rfl) (fun _ _ => ?_)
  refine GL.nil ?_
  refine GE.thenN ?_
  refine GC.seq ?_
  refine GC.seq ?_
  refine GC.region ?_
  refine GL.val (v := (.pointer (some ⟨bq3, 0, none⟩))) (Ex.cast (Ex.fieldAddr rfl Try.underlying38 rfl T.sz3 (by decide)) rfl) (by decide) ?_
  refine GL.val (Ex.load rfl T.ag3 (i := 0) rfl rfl) (by decide) ?_
  refine GL.val (v := (.bool false)) (Ex.cast (Ex.neq rfl rfl) rfl) (by decide) ?_
  refine GL.nil ?_
  refine GE.thenN ?_
  refine GC.cond rfl (fun hq4 => by cases hq4) (fun _ => ?_)
  refine GC.skip ?_
  refine GE.thenN ?_
  refine GC.seq ?_
  refine GC.seq ?_
  refine GC.region ?_
  refine GL.val (v := (.pointer (some ⟨bq3, 3, none⟩))) (Ex.cast (Ex.fieldAddr rfl Try.underlying38 rfl T.sz3 (by decide)) rfl) (by decide) ?_
  refine GL.val (Ex.load rfl T.ag3 (i := 0) rfl rfl) (by decide) ?_
  refine GL.val (v := (.bool false)) (Ex.cast (Ex.geq rfl rfl) (congrArg Value.bool (decide_eq_false (by omega)))) (by decide) ?_
  refine GL.nil ?_
  refine GE.thenN ?_
  refine GC.cond rfl (fun hq5 => by cases hq5) (fun _ => ?_)
  refine GC.skip ?_
  refine GE.thenN ?_
  refine GC.seq ?_
  refine GC.region ?_
  refine GL.val (v := (.pointer (some ⟨bq3, 2, none⟩))) (Ex.cast (Ex.fieldAddr rfl Try.underlying38 rfl T.sz36 (by decide)) rfl) (by decide) ?_
  refine GL.val (Ex.load rfl T.ag36 (i := 0) rfl rfl) (by decide) ?_
  refine GL.val (v := (.pointer (some ⟨bq3, 3, none⟩))) (Ex.cast (Ex.fieldAddr rfl Try.underlying38 rfl T.sz3 (by decide)) rfl) (by decide) ?_
  refine GL.val (Ex.load rfl T.ag3 (i := 0) rfl rfl) (by decide) ?_
  refine GL.val (v := (.int .i64 (((n : Nat) : Int)))) (Ex.neg rfl (Z := ((n : Nat) : Int)) (by rw [w64 (by omega)]; omega)) (by decide) ?_
  refine GL.step (Stp.callR (vs := [(.slice (some ⟨xq1, 0, none⟩) 1 2), (.int .i64 (((n : Nat) : Int)))]) rfl rfl T.own77 (by decide) (fun wc hw => down_low v xq1 2 n wc (by omega) (Lg.rd1 (hw.rdOf (i := 1) rfl 0)) (by omega) hq)) (fun xq6 hq7 => ?_)
  refine GL.val (Ex.move rfl) (by decide) ?_
  refine GL.val (Ex.extract rfl rfl) (by decide) ?_
  refine GL.val (Ex.extract rfl rfl) (by decide) ?_
  refine GL.val (Ex.assign rfl) (by decide) ?_
  refine GL.val (Ex.assign rfl) (by decide) ?_
  refine GL.nil ?_
  refine GE.thenN ?_
  refine GC.seq ?_
  refine GC.region ?_
  refine GL.val (v := (.pointer (some ⟨bq3, 2, none⟩))) (Ex.cast (Ex.fieldAddr rfl Try.underlying38 rfl T.sz36 (by decide)) rfl) (by decide) ?_
  refine GL.val (Ex.load rfl T.ag36 (i := 1) rfl rfl) (by decide) ?_
  refine GL.val (v := (.pointer (some ⟨bq3, 3, none⟩))) (Ex.cast (Ex.fieldAddr rfl Try.underlying38 rfl T.sz3 (by decide)) rfl) (by decide) ?_
  refine GL.val (Ex.load rfl T.ag3 (i := 1) rfl rfl) (by decide) ?_
  refine GL.val (v := (.int .i64 (((n : Nat) : Int)))) (Ex.neg rfl (Z := ((n : Nat) : Int)) (by rw [w64 (by omega)]; omega)) (by decide) ?_
  refine GL.val (v := (.int .i64 (((n - 1 : Nat) : Int)))) (Ex.sub' rfl rfl (Z := ((n - 1 : Nat) : Int)) (by rw [w64 (by omega)]; omega)) (by decide) ?_
  refine GL.step (Stp.callR (vs := [(.slice (some ⟨xq1, 0, none⟩) 1 2), (.int .i64 (((n - 1 : Nat) : Int)))]) rfl rfl T.own78 (by decide) (fun wc hw => bit_p v xq1 2 (n - 1) wc (by omega) (Lg.rd1 (hw.rdOf (i := 2) rfl 0)) (by omega))) (fun xq8 hq9 => ?_)
  refine GL.val (v := (.bool (decide ((((Lg.bt v (n - 1) : Nat) : Int)) = 1)))) (Ex.eql rfl rfl) (by decide) ?_
  refine GL.val (Ex.assign rfl) (by decide) ?_
  refine GL.nil ?_
  refine GE.thenN ?_
  refine GC.seq ?_
  refine GC.region ?_
  refine GL.val (Ex.assign rfl) (by decide) ?_
  refine GL.nil ?_
  refine GE.thenN ?_
  refine GC.seq ?_
  refine GC.seq ?_
  refine GC.region ?_
  refine GL.val (Ex.assign rfl) (by decide) ?_
  refine GL.nil ?_
  refine GE.thenN ?_
  refine GC.block ?_
  refine GC.loop (σ := Nat × Bool) (fun q => q.1 ≤ n - 1 ∧ (q.2 = true ↔ v % 2 ^ q.1 ≠ 0)) (fun q => [(0, (.int .u32 a)), (1, (.int .i64 23)), (4, (.int .i64 0)), (5, (.int .i64 0)), (6, (.pointer (some ⟨bq3, 0, none⟩))), (7, (.slice (some ⟨xq6.1, 0, none⟩) 0 1)), (8, (.bool xq6.2)), (9, (.bool (decide ((((Lg.bt v (n - 1) : Nat) : Int)) = 1)))), (10, (.bool q.2)), (11, (.int .i64 (((q.1 : Nat) : Int))))]) (fun q => [⟨xq6.1, [(.int .u32 (((v / 2 ^ n : Nat) : Int)))], 23, true⟩, ⟨bq3, [(.int .i64 2), (.bool ((decide (a / 2147483648 % 2 = 1)))), (.slice (some ⟨xq1, 0, none⟩) 1 2), (.int .i64 ((-((n : Nat) : Int)))), (.bool false)], 38, true⟩, ⟨xq1, [(.int .u32 (((v : Nat) : Int))), (.int .u32 0)], 23, true⟩]) (fun q => n - 1 - q.1) ((0, false)) ⟨Nat.zero_le _, Lg.start_bit v⟩ ((sub_cons rfl ((sub_cons rfl ((sub_cons rfl ((sub_cons rfl ((sub_cons rfl ((sub_cons rfl ((sub_cons rfl ((sub_cons rfl ((sub_cons rfl ((sub_cons rfl ((sub_nil _)))))))))))))))))))))) (ulC (ulC (ulC ulN))) (fun q hp => ?_)
  obtain ⟨i, rb⟩ := q
  have hpi : i ≤ n - 1 ∧ (rb = true ↔ v % 2 ^ i ≠ 0) := hp
  refine GC.seq ?_
  refine GC.seq ?_
  refine GC.region ?_
  refine GL.val (Ex.move rfl) (by decide) ?_
  refine GL.val (v := (.pointer (some ⟨bq3, 3, none⟩))) (Ex.cast (Ex.fieldAddr rfl Try.underlying38 rfl T.sz3 (by decide)) rfl) (by decide) ?_
  refine GL.val (Ex.load rfl T.ag3 (i := 1) rfl rfl) (by decide) ?_
  refine GL.val (v := (.int .i64 (((n : Nat) : Int)))) (Ex.neg rfl (Z := ((n : Nat) : Int)) (by rw [w64 (by omega)]; omega)) (by decide) ?_
  refine GL.val (v := (.int .i64 (((n - 1 : Nat) : Int)))) (Ex.sub' rfl rfl (Z := ((n - 1 : Nat) : Int)) (by rw [w64 (by omega)]; omega)) (by decide) ?_
  refine GL.val (v := (.bool (decide ((((i : Nat) : Int)) < (((n - 1 : Nat) : Int)))))) (Ex.lss rfl rfl) (by decide) ?_
  refine GL.nil ?_
  refine GE.thenN ?_
  refine GC.cond rfl (fun hq10 => ?_) (fun hq10 => ?_)
  · replace hq10 := of_decide_eq_true hq10
    refine GC.skip ?_
    refine GE.thenN ?_
    refine GC.seq ?_
    refine GC.block ?_
    refine GC.region ?_
    by_cases hq11 : rb = true
    · refine GL.val (v := (.bool true)) (Ex.cast (Ex.move rfl) (congrArg Value.bool (hq11))) (by decide) ?_
      refine GL.val (Ex.move rfl) (by decide) ?_
      refine GL.skipG (tj := 61) rfl rfl rfl (by decide) ?_
      refine GL.skipG (tj := 61) rfl rfl rfl (by decide) ?_
      refine GL.skipG (tj := 61) rfl rfl rfl (by decide) ?_
      refine GL.skipG (tj := 61) rfl rfl rfl (by decide) ?_
      refine GL.skipG (tj := 61) rfl rfl rfl (by decide) ?_
      refine GL.val (v := (.bool true)) (Ex.pickT rfl rfl) (by decide) ?_
      refine GL.val (Ex.assign rfl) (by decide) ?_
      refine GL.nil ?_
      refine GE.blockN ?_
      refine GE.thenN ?_
      refine GC.region ?_
      refine GL.val (Ex.move rfl) (by decide) ?_
      refine GL.val (v := (.int .i64 (((i + 1 : Nat) : Int)))) (Ex.add rfl rfl (Z := ((i + 1 : Nat) : Int)) (w64 (by omega))) (by decide) ?_
      refine GL.val (Ex.assign rfl) (by decide) ?_
      refine GL.nil ?_
      refine GE.thenN ?_
      exact Head.mk ((i + 1, true)) ⟨(by show i + 1 ≤ n - 1; omega), Lg.more_bit hpi.2 hq11⟩ (by show n - 1 - (i + 1) < n - 1 - i; omega) ((sub_cons rfl ((sub_cons rfl ((sub_cons rfl ((sub_cons rfl ((sub_cons rfl ((sub_cons rfl ((sub_cons rfl ((sub_cons rfl ((sub_cons rfl ((sub_cons rfl ((sub_nil _)))))))))))))))))))))) (ulC (ulC (ulC ulN)))
    · refine GL.val (v := (.bool false)) (Ex.cast (Ex.move rfl) (congrArg Value.bool ((Bool.eq_false_iff.2 hq11)))) (by decide) ?_
      refine GL.val (Ex.move rfl) (by decide) ?_
      refine GL.stepG (tj := 61) rfl rfl (Ex.wp (v := (.pointer (some ⟨bq3, 2, none⟩))) (Ex.cast (Ex.fieldAddr rfl Try.underlying38 rfl T.sz36 (by decide)) rfl) (by decide)) (fun _ _ => ?_)
      refine GL.stepG (tj := 61) rfl rfl (Ex.wp (v := (.slice (some ⟨xq1, 0, none⟩) 1 2)) (Ex.load rfl T.ag36 (i := 1) rfl rfl) (by decide)) (fun _ _ => ?_)
      refine GL.stepG (tj := 61) rfl rfl (Ex.wp (v := (.int .i64 (((i : Nat) : Int)))) (Ex.move rfl) (by decide)) (fun _ _ => ?_)
      refine GL.stepG (tj := 61) rfl rfl (Stp.callR (vs := [(.slice (some ⟨xq1, 0, none⟩) 1 2), (.int .i64 (((i : Nat) : Int)))]) rfl rfl T.own78 (by decide) (fun wc hw => bit_p v xq1 2 i wc (by omega) (Lg.rd1 (hw.rdOf (i := 2) rfl 0)) (by omega))) (fun xq12 hq13 => ?_)
      refine GL.stepG (tj := 61) rfl rfl (Ex.wp (v := (.bool (decide ((((Lg.bt v i : Nat) : Int)) = 1)))) (Ex.eql rfl rfl) (by decide)) (fun _ _ => ?_)
      refine GL.val (v := (.bool (decide ((((Lg.bt v i : Nat) : Int)) = 1)))) (Ex.pickF rfl rfl) (by decide) ?_
      refine GL.val (Ex.assign rfl) (by decide) ?_
      refine GL.nil ?_
      refine GE.blockN ?_
      refine GE.thenN ?_
      refine GC.region ?_
      refine GL.val (Ex.move rfl) (by decide) ?_
      refine GL.val (v := (.int .i64 (((i + 1 : Nat) : Int)))) (Ex.add rfl rfl (Z := ((i + 1 : Nat) : Int)) (w64 (by omega))) (by decide) ?_
      refine GL.val (Ex.assign rfl) (by decide) ?_
      refine GL.nil ?_
      refine GE.thenN ?_
      exact Head.mk ((i + 1, decide ((((Lg.bt v i : Nat) : Int)) = 1))) ⟨(by show i + 1 ≤ n - 1; omega), Lg.or_bit hpi.2 (by simpa using hq11)⟩ (by show n - 1 - (i + 1) < n - 1 - i; omega) ((sub_cons rfl ((sub_cons rfl ((sub_cons rfl ((sub_cons rfl ((sub_cons rfl ((sub_cons rfl ((sub_cons rfl ((sub_cons rfl ((sub_cons rfl ((sub_cons rfl ((sub_nil _)))))))))))))))))))))) (ulC (ulC (ulC ulN)))
  · replace hq10 := of_decide_eq_false hq10
    have hb := Lg.exit_bit hpi (.inl (by omega))
    refine GC.exit ?_
    refine GE.thenE ?_
    refine GE.thenE ?_
    refine GE.blockE ?_
    refine GE.thenN ?_
    refine GC.seq ?_
    refine GC.seq ?_
    refine GC.region ?_
    by_cases hq14 : ((((Lg.bt v (n - 1) : Nat) : Int)) = 1)
    · refine GL.val (v := (.bool true)) (Ex.cast (Ex.move rfl) (congrArg Value.bool (decide_eq_true hq14))) (by decide) ?_
      refine GL.val (Ex.move rfl) (by decide) ?_
      by_cases hq15 : rb = true
      · refine GL.stepG (tj := 69) rfl rfl (Ex.wp (v := (.bool true)) (Ex.cast (Ex.move rfl) (congrArg Value.bool (hq15))) (by decide)) (fun _ _ => ?_)
        refine GL.stepG (tj := 69) rfl rfl (Ex.wp (v := (.bool true)) (Ex.move rfl) (by decide)) (fun _ _ => ?_)
        refine GL.skipG (tj := 71) rfl rfl rfl (by decide) ?_
        refine GL.skipG (tj := 71) rfl rfl rfl (by decide) ?_
        refine GL.skipG (tj := 71) rfl rfl rfl (by decide) ?_
        refine GL.stepG (tj := 69) rfl rfl (Ex.wp (v := (.bool true)) (Ex.pickT rfl rfl) (by decide)) (fun _ _ => ?_)
        refine GL.val (v := (.bool true)) (Ex.pickT rfl rfl) (by decide) ?_
        refine GL.nil ?_
        refine GE.thenN ?_
        refine GC.cond rfl (fun _ => ?_) (fun hq16 => by cases hq16)
        refine GC.region ?_
        refine GL.val (Ex.move rfl) (by decide) ?_
        refine GL.step (Stp.callR (vs := [(.int .u64 1)]) rfl rfl T.own62 (by decide) (fun wc hw => natof_pos 1 wc (by decide))) (fun xq17 hq18 => ?_)
        refine GL.step (Stp.callR (vs := [(.slice (some ⟨xq6.1, 0, none⟩) 0 1), (.slice (some ⟨xq17, 0, none⟩) 1 2)]) rfl rfl T.own64 (by decide) (fun wc hw => plus_0 (some ⟨xq6.1, 0, none⟩) 1 xq17 2 wc (Lg.rd1 (hw.rdOf (i := 0) rfl 0)))) (fun xq19 hq20 => ?_)
        refine GL.val (Ex.assign rfl) (by decide) ?_
        refine GL.nil ?_
        refine GE.thenN ?_
        refine GC.seq ?_
        refine GC.region ?_
        refine GL.val (v := (.pointer (some ⟨bq3, 1, none⟩))) (Ex.cast (Ex.fieldAddr rfl Try.underlying38 rfl T.sz4 (by decide)) rfl) (by decide) ?_
        refine GL.val (Ex.load rfl T.ag4 (i := 3) rfl rfl) (by decide) ?_
        refine GL.val (Ex.move rfl) (by decide) ?_
        refine GL.step (Stp.callR (vs := [(.bool ((decide (a / 2147483648 % 2 = 1)))), (.slice (some ⟨xq19, 0, none⟩) 1 2)]) rfl rfl T.own76 (by decide) (fun wc hw => whole_pos 1 xq19 2 (decide (a / 2147483648 % 2 = 1)) wc (by omega) (Lg.rd1 (hw.rdOf (i := 0) rfl 0)))) (fun xq21 hq22 => ?_)
        refine GL.val (Ex.extract rfl rfl) (by decide) ?_
        refine GL.val (Ex.extract rfl rfl) (by decide) ?_
        refine GL.val (Ex.assign rfl) (by decide) ?_
        refine GL.val (Ex.assign rfl) (by decide) ?_
        refine GL.nil ?_
        refine GE.thenN ?_
        refine GC.ret ?_
        refine GC.ret2 rfl (Rv.tmp rfl) (Rv.tmp rfl) (fun wN HN => ?_)
        exact HN.ret () trivial (by rw [Lg.up_n (by omega) (by omega) (by first | exact Or.inl (hb.1 (by assumption)) | exact Or.inr (by omega)), hq]; rfl) (List.nil_sublist _) rfl
      · refine GL.stepG (tj := 69) rfl rfl (Ex.wp (v := (.bool false)) (Ex.cast (Ex.move rfl) (congrArg Value.bool ((Bool.eq_false_iff.2 hq15)))) (by decide)) (fun _ _ => ?_)
        refine GL.stepG (tj := 69) rfl rfl (Ex.wp (v := (.bool false)) (Ex.move rfl) (by decide)) (fun _ _ => ?_)
        refine GL.stepG (tj := 71) rfl rfl (Ex.wp (v := (.slice (some ⟨xq6.1, 0, none⟩) 0 1)) (Ex.move rfl) (by decide)) (fun _ _ => ?_)
        refine GL.stepG (tj := 71) rfl rfl (Stp.callR (vs := [(.slice (some ⟨xq6.1, 0, none⟩) 0 1), (.int .i64 0)]) rfl rfl T.own78 (by decide) (fun wc hw => bit_0 (some ⟨xq6.1, 0, none⟩) 1 0 wc (by omega))) (fun xq23 hq24 => ?_)
        refine GL.stepG (tj := 71) rfl rfl (Ex.wp (v := (.bool false)) (Ex.cast (Ex.eql rfl rfl) rfl) (by decide)) (fun _ _ => ?_)
        refine GL.stepG (tj := 69) rfl rfl (Ex.wp (v := (.bool false)) (Ex.pickF rfl rfl) (by decide)) (fun _ _ => ?_)
        refine GL.val (v := (.bool false)) (Ex.pickT rfl rfl) (by decide) ?_
        refine GL.nil ?_
        refine GE.thenN ?_
        refine GC.cond rfl (fun hq25 => by cases hq25) (fun _ => ?_)
        refine GC.skip ?_
        refine GE.thenN ?_
        refine GC.seq ?_
        refine GC.region ?_
        refine GL.val (v := (.pointer (some ⟨bq3, 1, none⟩))) (Ex.cast (Ex.fieldAddr rfl Try.underlying38 rfl T.sz4 (by decide)) rfl) (by decide) ?_
        refine GL.val (Ex.load rfl T.ag4 (i := 1) rfl rfl) (by decide) ?_
        refine GL.val (Ex.move rfl) (by decide) ?_
        refine GL.step (Stp.callR (vs := [(.bool ((decide (a / 2147483648 % 2 = 1)))), (.slice (some ⟨xq6.1, 0, none⟩) 0 1)]) rfl rfl T.own76 (by decide) (fun wc hw => whole_0 (some ⟨xq6.1, 0, none⟩) 1 (decide (a / 2147483648 % 2 = 1)) wc)) (fun xq26 hq27 => ?_)
        refine GL.val (Ex.extract rfl rfl) (by decide) ?_
        refine GL.val (Ex.extract rfl rfl) (by decide) ?_
        refine GL.val (Ex.assign rfl) (by decide) ?_
        refine GL.val (Ex.assign rfl) (by decide) ?_
        refine GL.nil ?_
        refine GE.thenN ?_
        refine GC.ret ?_
        refine GC.ret2 rfl (Rv.tmp rfl) (Rv.tmp rfl) (fun wN HN => ?_)
        exact HN.ret () trivial (by rw [Lg.no_n (by omega) (by first | exact fun q => absurd q.1 (by omega) | exact fun q => by rcases q.2 with z | z; exact absurd (hb.2 z) (by assumption); (first | omega | (rw [hq] at z; cases z))), hq]; split <;> rfl) (List.nil_sublist _) rfl
    · refine GL.val (v := (.bool false)) (Ex.cast (Ex.move rfl) (congrArg Value.bool (decide_eq_false hq14))) (by decide) ?_
      refine GL.val (Ex.move rfl) (by decide) ?_
      refine GL.skipG (tj := 69) rfl rfl rfl (by decide) ?_
      refine GL.skipG (tj := 69) rfl rfl rfl (by decide) ?_
      refine GL.skipU (tj := 71) rfl rfl (by decide) ?_
      refine GL.skipU (tj := 71) rfl rfl (by decide) ?_
      refine GL.skipU (tj := 71) rfl rfl (by decide) ?_
      refine GL.skipG (tj := 69) rfl rfl rfl (by decide) ?_
      refine GL.val (v := (.bool false)) (Ex.pickF rfl rfl) (by decide) ?_
      refine GL.nil ?_
      refine GE.thenN ?_
      refine GC.cond rfl (fun hq28 => by cases hq28) (fun _ => ?_)
      refine GC.skip ?_
      refine GE.thenN ?_
      refine GC.seq ?_
      refine GC.region ?_
      refine GL.val (v := (.pointer (some ⟨bq3, 1, none⟩))) (Ex.cast (Ex.fieldAddr rfl Try.underlying38 rfl T.sz4 (by decide)) rfl) (by decide) ?_
      refine GL.val (Ex.load rfl T.ag4 (i := 1) rfl rfl) (by decide) ?_
      refine GL.val (Ex.move rfl) (by decide) ?_
      refine GL.step (Stp.callR (vs := [(.bool ((decide (a / 2147483648 % 2 = 1)))), (.slice (some ⟨xq6.1, 0, none⟩) 0 1)]) rfl rfl T.own76 (by decide) (fun wc hw => whole_0 (some ⟨xq6.1, 0, none⟩) 1 (decide (a / 2147483648 % 2 = 1)) wc)) (fun xq29 hq30 => ?_)
      refine GL.val (Ex.extract rfl rfl) (by decide) ?_
      refine GL.val (Ex.extract rfl rfl) (by decide) ?_
      refine GL.val (Ex.assign rfl) (by decide) ?_
      refine GL.val (Ex.assign rfl) (by decide) ?_
      refine GL.nil ?_
      refine GE.thenN ?_
      refine GC.ret ?_
      refine GC.ret2 rfl (Rv.tmp rfl) (Rv.tmp rfl) (fun wN HN => ?_)
      exact HN.ret () trivial (by rw [Lg.no_n (by omega) (by first | exact fun q => absurd q.1 (by omega) | exact fun q => by rcases q.2 with z | z; exact absurd (hb.2 z) (by assumption); (first | omega | (rw [hq] at z; cases z))), hq]; split <;> rfl) (List.nil_sublist _) rfl

set_option maxRecDepth 100000 in
set_option maxHeartbeats 1000000 in
theorem near_D (a : Int) (v n : Nat) (w : World) (ha : 0 ≤ a ∧ a < 4294967296) (hf : a % 2147483648 < 2139095040) (hm : Bt.mant a = ((v : Nat) : Int)) (hv0 : 0 < v) (hE : Bt.expo a + 23 = -((n : Nat) : Int)) (hn : 32 ≤ n ∧ n ≤ 200) :
    Calls Try.prog 49 #[(.int .u32 a), (.int .i64 23)] w (Ret w (fun _ : Unit => True) (fun _ => .tuple #[.int .i64 (if (decide (a / 2147483648 % 2 = 1)) = true then -((Fp.rne v n : Nat) : Int) else ((Fp.rne v n : Nat) : Int)), .int .i64 0]) (fun _ => [])) := by
  have hv24 : v < 16777216 := by unfold Bt.mant at hm; split at hm <;> omega
  have hv : 0 < v ∧ v < 4294967296 := by omega
  have hb0 : Lg.bt v (n - 1) = 0 := Lg.bt_far24 hv24 (by omega)
  have hq : v / 2 ^ n = 0 := Lg.div_far hv24 (by omega)
  refine enter (M := None) (L := []) (n := 86) (l := [(0, (.int .u32 a)), (1, (.int .i64 23))]) Try.func49 rfl rfl (Args.cons rfl (Args.cons rfl (Args.nil _))) (Hp.start _ _) ?_
  refine GC.seq ?_
  refine GC.region ?_
  refine GL.val (Ex.assign rfl) (by decide) ?_
  refine GL.val (Ex.assign rfl) (by decide) ?_
  refine GL.nil ?_
  refine GE.thenN ?_
  refine GC.seq ?_
  refine GC.region ?_
  refine GL.val (Ex.move rfl) (by decide) ?_
  refine GL.step (Stp.callR (vs := [(.int .u32 a)]) rfl rfl T.own68 (by decide) (fun wc hw => num_pos a v wc ha hf hm hv0)) (fun xq1 hq2 => ?_)
  refine GL.step (Stp.alloc T.zr38 (by decide)) (fun bq3 _ => ?_)
  refine GL.step (Stp.st0 (cs' := [(.int .i64 2), (.bool ((decide (a / 2147483648 % 2 = 1)))), (.slice (some ⟨xq1, 0, none⟩) 1 2), (.int .i64 ((Bt.expo a))), (.bool false)]) rfl rfl rfl T.sz38 rfl rfl rfl) (fun _ _ => ?_)
  refine GL.nil ?_
  refine GE.thenN ?_
  refine GC.seq ?_
  refine GC.region ?_
  refine GL.val (v := (.pointer (some ⟨bq3, 3, none⟩))) (Ex.cast (Ex.fieldAddr rfl Try.underlying38 rfl T.sz3 (by decide)) rfl) (by decide) ?_
  refine GL.val (Ex.load rfl T.ag3 (i := 0) rfl rfl) (by decide) ?_
  refine GL.val (Ex.move rfl) (by decide) ?_
  refine GL.val (v := (.int .i64 ((-((n : Nat) : Int))))) (Ex.add rfl rfl (Z := (-((n : Nat) : Int))) (by rw [w64 (by omega)]; omega)) (by decide) ?_
  refine GL.val (v := (.pointer (some ⟨bq3, 3, none⟩))) (Ex.cast (Ex.fieldAddr rfl Try.underlying38 rfl T.sz3 (by decide)) rfl) (by decide) ?_
  refine GL.step (Stp.st0 (cs' := [(.int .i64 2), (.bool ((decide (a / 2147483648 % 2 = 1)))), (.slice (some ⟨xq1, 0, none⟩) 1 2), (.int .i64 ((-((n : Nat) : Int)))), (.bool false)]) rfl rfl rfl T.sz3 rfl rfl rfl) (fun _ _ => ?_)
  refine GL.nil ?_
  refine GE.thenN ?_
  refine GC.seq ?_
  refine GC.seq ?_
  refine GC.region ?_
  refine GL.val (v := (.pointer (some ⟨bq3, 0, none⟩))) (Ex.cast (Ex.fieldAddr rfl Try.underlying38 rfl T.sz3 (by decide)) rfl) (by decide) ?_
  refine GL.val (Ex.load rfl T.ag3 (i := 0) rfl rfl) (by decide) ?_
  refine GL.val (v := (.bool false)) (Ex.cast (Ex.neq rfl rfl) rfl) (by decide) ?_
  refine GL.nil ?_
  refine GE.thenN ?_
  refine GC.cond rfl (fun hq4 => by cases hq4) (fun _ => ?_)
  refine GC.skip ?_
  refine GE.thenN ?_
  refine GC.seq ?_
  refine GC.seq ?_
  refine GC.region ?_
  refine GL.val (v := (.pointer (some ⟨bq3, 3, none⟩))) (Ex.cast (Ex.fieldAddr rfl Try.underlying38 rfl T.sz3 (by decide)) rfl) (by decide) ?_
  refine GL.val (Ex.load rfl T.ag3 (i := 0) rfl rfl) (by decide) ?_
  refine GL.val (v := (.bool false)) (Ex.cast (Ex.geq rfl rfl) (congrArg Value.bool (decide_eq_false (by omega)))) (by decide) ?_
  refine GL.nil ?_
  refine GE.thenN ?_
  refine GC.cond rfl (fun hq5 => by cases hq5) (fun _ => ?_)
  refine GC.skip ?_
  refine GE.thenN ?_
  refine GC.seq ?_
  refine GC.region ?_
  refine GL.val (v := (.pointer (some ⟨bq3, 2, none⟩))) (Ex.cast (Ex.fieldAddr rfl Try.underlying38 rfl T.sz36 (by decide)) rfl) (by decide) ?_
  refine GL.val (Ex.load rfl T.ag36 (i := 0) rfl rfl) (by decide) ?_
  refine GL.val (v := (.pointer (some ⟨bq3, 3, none⟩))) (Ex.cast (Ex.fieldAddr rfl Try.underlying38 rfl T.sz3 (by decide)) rfl) (by decide) ?_
  refine GL.val (Ex.load rfl T.ag3 (i := 0) rfl rfl) (by decide) ?_
  refine GL.val (v := (.int .i64 (((n : Nat) : Int)))) (Ex.neg rfl (Z := ((n : Nat) : Int)) (by rw [w64 (by omega)]; omega)) (by decide) ?_
  refine GL.step (Stp.callR (vs := [(.slice (some ⟨xq1, 0, none⟩) 1 2), (.int .i64 (((n : Nat) : Int)))]) rfl rfl T.own77 (by decide) (fun wc hw => down_far v xq1 2 n wc (by omega) (Lg.rd1 (hw.rdOf (i := 1) rfl 0)) (by omega))) (fun xq6 hq7 => ?_)
  refine GL.val (Ex.move rfl) (by decide) ?_
  refine GL.val (Ex.extract rfl rfl) (by decide) ?_
  refine GL.val (Ex.extract rfl rfl) (by decide) ?_
  refine GL.val (Ex.assign rfl) (by decide) ?_
  refine GL.val (Ex.assign rfl) (by decide) ?_
  refine GL.nil ?_
  refine GE.thenN ?_
  refine GC.seq ?_
  refine GC.region ?_
  refine GL.val (v := (.pointer (some ⟨bq3, 2, none⟩))) (Ex.cast (Ex.fieldAddr rfl Try.underlying38 rfl T.sz36 (by decide)) rfl) (by decide) ?_
  refine GL.val (Ex.load rfl T.ag36 (i := 0) rfl rfl) (by decide) ?_
  refine GL.val (v := (.pointer (some ⟨bq3, 3, none⟩))) (Ex.cast (Ex.fieldAddr rfl Try.underlying38 rfl T.sz3 (by decide)) rfl) (by decide) ?_
  refine GL.val (Ex.load rfl T.ag3 (i := 0) rfl rfl) (by decide) ?_
  refine GL.val (v := (.int .i64 (((n : Nat) : Int)))) (Ex.neg rfl (Z := ((n : Nat) : Int)) (by rw [w64 (by omega)]; omega)) (by decide) ?_
  refine GL.val (v := (.int .i64 (((n - 1 : Nat) : Int)))) (Ex.sub' rfl rfl (Z := ((n - 1 : Nat) : Int)) (by rw [w64 (by omega)]; omega)) (by decide) ?_
  refine GL.step (Stp.callR (vs := [(.slice (some ⟨xq1, 0, none⟩) 1 2), (.int .i64 (((n - 1 : Nat) : Int)))]) rfl rfl T.own78 (by decide) (fun wc hw => bit_p v xq1 2 (n - 1) wc (by omega) (Lg.rd1 (hw.rdOf (i := 1) rfl 0)) (by omega))) (fun xq8 hq9 => ?_)
  refine GL.val (v := (.bool false)) (Ex.cast (Ex.eql rfl rfl) (congrArg Value.bool (decide_eq_false (by omega)))) (by decide) ?_
  refine GL.val (Ex.assign rfl) (by decide) ?_
  refine GL.nil ?_
  refine GE.thenN ?_
  refine GC.seq ?_
  refine GC.region ?_
  refine GL.val (Ex.assign rfl) (by decide) ?_
  refine GL.nil ?_
  refine GE.thenN ?_
  refine GC.seq ?_
  refine GC.seq ?_
  refine GC.region ?_
  refine GL.val (Ex.assign rfl) (by decide) ?_
  refine GL.nil ?_
  refine GE.thenN ?_
  refine GC.block ?_
  refine GC.loop (σ := Nat × Bool) (fun q => q.1 ≤ n - 1 ∧ (q.2 = true ↔ v % 2 ^ q.1 ≠ 0)) (fun q => [(0, (.int .u32 a)), (1, (.int .i64 23)), (4, (.int .i64 0)), (5, (.int .i64 0)), (6, (.pointer (some ⟨bq3, 0, none⟩))), (7, (.slice none 0 0)), (8, (.bool xq6)), (9, (.bool false)), (10, (.bool q.2)), (11, (.int .i64 (((q.1 : Nat) : Int))))]) (fun q => [⟨bq3, [(.int .i64 2), (.bool ((decide (a / 2147483648 % 2 = 1)))), (.slice (some ⟨xq1, 0, none⟩) 1 2), (.int .i64 ((-((n : Nat) : Int)))), (.bool false)], 38, true⟩, ⟨xq1, [(.int .u32 (((v : Nat) : Int))), (.int .u32 0)], 23, true⟩]) (fun q => n - 1 - q.1) ((0, false)) ⟨Nat.zero_le _, Lg.start_bit v⟩ ((sub_cons rfl ((sub_cons rfl ((sub_cons rfl ((sub_cons rfl ((sub_cons rfl ((sub_cons rfl ((sub_cons rfl ((sub_cons rfl ((sub_cons rfl ((sub_cons rfl ((sub_nil _)))))))))))))))))))))) (ulC (ulC ulN)) (fun q hp => ?_)
  obtain ⟨i, rb⟩ := q
  have hpi : i ≤ n - 1 ∧ (rb = true ↔ v % 2 ^ i ≠ 0) := hp
  refine GC.seq ?_
  refine GC.seq ?_
  refine GC.region ?_
  refine GL.val (Ex.move rfl) (by decide) ?_
  refine GL.val (v := (.pointer (some ⟨bq3, 3, none⟩))) (Ex.cast (Ex.fieldAddr rfl Try.underlying38 rfl T.sz3 (by decide)) rfl) (by decide) ?_
  refine GL.val (Ex.load rfl T.ag3 (i := 0) rfl rfl) (by decide) ?_
  refine GL.val (v := (.int .i64 (((n : Nat) : Int)))) (Ex.neg rfl (Z := ((n : Nat) : Int)) (by rw [w64 (by omega)]; omega)) (by decide) ?_
  refine GL.val (v := (.int .i64 (((n - 1 : Nat) : Int)))) (Ex.sub' rfl rfl (Z := ((n - 1 : Nat) : Int)) (by rw [w64 (by omega)]; omega)) (by decide) ?_
  refine GL.val (v := (.bool (decide ((((i : Nat) : Int)) < (((n - 1 : Nat) : Int)))))) (Ex.lss rfl rfl) (by decide) ?_
  refine GL.nil ?_
  refine GE.thenN ?_
  refine GC.cond rfl (fun hq10 => ?_) (fun hq10 => ?_)
  · replace hq10 := of_decide_eq_true hq10
    refine GC.skip ?_
    refine GE.thenN ?_
    refine GC.seq ?_
    refine GC.block ?_
    refine GC.region ?_
    by_cases hq11 : rb = true
    · refine GL.val (v := (.bool true)) (Ex.cast (Ex.move rfl) (congrArg Value.bool (hq11))) (by decide) ?_
      refine GL.val (Ex.move rfl) (by decide) ?_
      refine GL.skipG (tj := 61) rfl rfl rfl (by decide) ?_
      refine GL.skipG (tj := 61) rfl rfl rfl (by decide) ?_
      refine GL.skipG (tj := 61) rfl rfl rfl (by decide) ?_
      refine GL.skipG (tj := 61) rfl rfl rfl (by decide) ?_
      refine GL.skipG (tj := 61) rfl rfl rfl (by decide) ?_
      refine GL.val (v := (.bool true)) (Ex.pickT rfl rfl) (by decide) ?_
      refine GL.val (Ex.assign rfl) (by decide) ?_
      refine GL.nil ?_
      refine GE.blockN ?_
      refine GE.thenN ?_
      refine GC.region ?_
      refine GL.val (Ex.move rfl) (by decide) ?_
      refine GL.val (v := (.int .i64 (((i + 1 : Nat) : Int)))) (Ex.add rfl rfl (Z := ((i + 1 : Nat) : Int)) (w64 (by omega))) (by decide) ?_
      refine GL.val (Ex.assign rfl) (by decide) ?_
      refine GL.nil ?_
      refine GE.thenN ?_
      exact Head.mk ((i + 1, true)) ⟨(by show i + 1 ≤ n - 1; omega), Lg.more_bit hpi.2 hq11⟩ (by show n - 1 - (i + 1) < n - 1 - i; omega) ((sub_cons rfl ((sub_cons rfl ((sub_cons rfl ((sub_cons rfl ((sub_cons rfl ((sub_cons rfl ((sub_cons rfl ((sub_cons rfl ((sub_cons rfl ((sub_cons rfl ((sub_nil _)))))))))))))))))))))) (ulC (ulC ulN))
    · refine GL.val (v := (.bool false)) (Ex.cast (Ex.move rfl) (congrArg Value.bool ((Bool.eq_false_iff.2 hq11)))) (by decide) ?_
      refine GL.val (Ex.move rfl) (by decide) ?_
      refine GL.stepG (tj := 61) rfl rfl (Ex.wp (v := (.pointer (some ⟨bq3, 2, none⟩))) (Ex.cast (Ex.fieldAddr rfl Try.underlying38 rfl T.sz36 (by decide)) rfl) (by decide)) (fun _ _ => ?_)
      refine GL.stepG (tj := 61) rfl rfl (Ex.wp (v := (.slice (some ⟨xq1, 0, none⟩) 1 2)) (Ex.load rfl T.ag36 (i := 0) rfl rfl) (by decide)) (fun _ _ => ?_)
      refine GL.stepG (tj := 61) rfl rfl (Ex.wp (v := (.int .i64 (((i : Nat) : Int)))) (Ex.move rfl) (by decide)) (fun _ _ => ?_)
      refine GL.stepG (tj := 61) rfl rfl (Stp.callR (vs := [(.slice (some ⟨xq1, 0, none⟩) 1 2), (.int .i64 (((i : Nat) : Int)))]) rfl rfl T.own78 (by decide) (fun wc hw => bit_p v xq1 2 i wc (by omega) (Lg.rd1 (hw.rdOf (i := 1) rfl 0)) (by omega))) (fun xq12 hq13 => ?_)
      refine GL.stepG (tj := 61) rfl rfl (Ex.wp (v := (.bool (decide ((((Lg.bt v i : Nat) : Int)) = 1)))) (Ex.eql rfl rfl) (by decide)) (fun _ _ => ?_)
      refine GL.val (v := (.bool (decide ((((Lg.bt v i : Nat) : Int)) = 1)))) (Ex.pickF rfl rfl) (by decide) ?_
      refine GL.val (Ex.assign rfl) (by decide) ?_
      refine GL.nil ?_
      refine GE.blockN ?_
      refine GE.thenN ?_
      refine GC.region ?_
      refine GL.val (Ex.move rfl) (by decide) ?_
      refine GL.val (v := (.int .i64 (((i + 1 : Nat) : Int)))) (Ex.add rfl rfl (Z := ((i + 1 : Nat) : Int)) (w64 (by omega))) (by decide) ?_
      refine GL.val (Ex.assign rfl) (by decide) ?_
      refine GL.nil ?_
      refine GE.thenN ?_
      exact Head.mk ((i + 1, decide ((((Lg.bt v i : Nat) : Int)) = 1))) ⟨(by show i + 1 ≤ n - 1; omega), Lg.or_bit hpi.2 (by simpa using hq11)⟩ (by show n - 1 - (i + 1) < n - 1 - i; omega) ((sub_cons rfl ((sub_cons rfl ((sub_cons rfl ((sub_cons rfl ((sub_cons rfl ((sub_cons rfl ((sub_cons rfl ((sub_cons rfl ((sub_cons rfl ((sub_cons rfl ((sub_nil _)))))))))))))))))))))) (ulC (ulC ulN))
  · replace hq10 := of_decide_eq_false hq10
    have hb := Lg.exit_bit hpi (.inl (by omega))
    refine GC.exit ?_
    refine GE.thenE ?_
    refine GE.thenE ?_
    refine GE.blockE ?_
    refine GE.thenN ?_
    refine GC.seq ?_
    refine GC.seq ?_
    refine GC.region ?_
    refine GL.val (Ex.move rfl) (by decide) ?_
    refine GL.val (Ex.move rfl) (by decide) ?_
    refine GL.skipG (tj := 69) rfl rfl rfl (by decide) ?_
    refine GL.skipG (tj := 69) rfl rfl rfl (by decide) ?_
    refine GL.skipU (tj := 71) rfl rfl (by decide) ?_
    refine GL.skipU (tj := 71) rfl rfl (by decide) ?_
    refine GL.skipU (tj := 71) rfl rfl (by decide) ?_
    refine GL.skipG (tj := 69) rfl rfl rfl (by decide) ?_
    refine GL.val (v := (.bool false)) (Ex.pickF rfl rfl) (by decide) ?_
    refine GL.nil ?_
    refine GE.thenN ?_
    refine GC.cond rfl (fun hq14 => by cases hq14) (fun _ => ?_)
    refine GC.skip ?_
    refine GE.thenN ?_
    refine GC.seq ?_
    refine GC.region ?_
    refine GL.val (v := (.pointer (some ⟨bq3, 1, none⟩))) (Ex.cast (Ex.fieldAddr rfl Try.underlying38 rfl T.sz4 (by decide)) rfl) (by decide) ?_
    refine GL.val (Ex.load rfl T.ag4 (i := 0) rfl rfl) (by decide) ?_
    refine GL.val (Ex.move rfl) (by decide) ?_
    refine GL.step (Stp.callR (vs := [(.bool ((decide (a / 2147483648 % 2 = 1)))), (.slice none 0 0)]) rfl rfl T.own76 (by decide) (fun wc hw => whole_0 none 0 (decide (a / 2147483648 % 2 = 1)) wc)) (fun xq15 hq16 => ?_)
    refine GL.val (Ex.extract rfl rfl) (by decide) ?_
    refine GL.val (Ex.extract rfl rfl) (by decide) ?_
    refine GL.val (Ex.assign rfl) (by decide) ?_
    refine GL.val (Ex.assign rfl) (by decide) ?_
    refine GL.nil ?_
    refine GE.thenN ?_
    refine GC.ret ?_
    refine GC.ret2 rfl (Rv.tmp rfl) (Rv.tmp rfl) (fun wN HN => ?_)
    exact HN.ret () trivial (by rw [Lg.no_n (by omega) (fun q => absurd q.1 (by omega)), hq]; split <;> rfl) (List.nil_sublist _) rfl

set_option maxRecDepth 100000 in
set_option maxHeartbeats 1000000 in
theorem near_Z (a : Int) (w : World) (ha : 0 ≤ a ∧ a < 4294967296) (hf : a % 2147483648 < 2139095040) (hm : a % 2147483648 = 0) :
    Calls Try.prog 49 #[(.int .u32 a), (.int .i64 23)] w (Ret w (fun _ : Unit => True) (fun _ => .tuple #[.int .i64 (if (decide (a / 2147483648 % 2 = 1)) = true then -((0 : Nat) : Int) else ((0 : Nat) : Int)), .int .i64 0]) (fun _ => [])) := by
  refine enter (M := None) (L := []) (n := 86) (l := [(0, (.int .u32 a)), (1, (.int .i64 23))]) Try.func49 rfl rfl (Args.cons rfl (Args.cons rfl (Args.nil _))) (Hp.start _ _) ?_
  refine GC.seq ?_
  refine GC.region ?_
  refine GL.val (Ex.assign rfl) (by decide) ?_
  refine GL.val (Ex.assign rfl) (by decide) ?_
  refine GL.nil ?_
  refine GE.thenN ?_
  refine GC.seq ?_
  refine GC.region ?_
  refine GL.val (Ex.move rfl) (by decide) ?_
  refine GL.step (Stp.callR (vs := [(.int .u32 a)]) rfl rfl T.own68 (by decide) (fun wc hw => num_zero a wc ha hf hm)) (fun xq1 hq2 => ?_)
  refine GL.step (Stp.alloc T.zr38 (by decide)) (fun bq3 _ => ?_)
  refine GL.step (Stp.st0 (cs' := [(.int .i64 2), (.bool ((decide (a / 2147483648 % 2 = 1)))), (.slice (some ⟨xq1, 0, none⟩) 0 2), (.int .i64 ((-149))), (.bool false)]) rfl rfl rfl T.sz38 rfl rfl rfl) (fun _ _ => ?_)
  refine GL.nil ?_
  refine GE.thenN ?_
  refine GC.seq ?_
  refine GC.region ?_
  refine GL.val (v := (.pointer (some ⟨bq3, 3, none⟩))) (Ex.cast (Ex.fieldAddr rfl Try.underlying38 rfl T.sz3 (by decide)) rfl) (by decide) ?_
  refine GL.val (Ex.load rfl T.ag3 (i := 0) rfl rfl) (by decide) ?_
  refine GL.val (Ex.move rfl) (by decide) ?_
  refine GL.val (v := (.int .i64 ((-126)))) (Ex.add rfl rfl (Z := (-126)) (by decide)) (by decide) ?_
  refine GL.val (v := (.pointer (some ⟨bq3, 3, none⟩))) (Ex.cast (Ex.fieldAddr rfl Try.underlying38 rfl T.sz3 (by decide)) rfl) (by decide) ?_
  refine GL.step (Stp.st0 (cs' := [(.int .i64 2), (.bool ((decide (a / 2147483648 % 2 = 1)))), (.slice (some ⟨xq1, 0, none⟩) 0 2), (.int .i64 ((-126))), (.bool false)]) rfl rfl rfl T.sz3 rfl rfl rfl) (fun _ _ => ?_)
  refine GL.nil ?_
  refine GE.thenN ?_
  refine GC.seq ?_
  refine GC.seq ?_
  refine GC.region ?_
  refine GL.val (v := (.pointer (some ⟨bq3, 0, none⟩))) (Ex.cast (Ex.fieldAddr rfl Try.underlying38 rfl T.sz3 (by decide)) rfl) (by decide) ?_
  refine GL.val (Ex.load rfl T.ag3 (i := 0) rfl rfl) (by decide) ?_
  refine GL.val (v := (.bool false)) (Ex.cast (Ex.neq rfl rfl) rfl) (by decide) ?_
  refine GL.nil ?_
  refine GE.thenN ?_
  refine GC.cond rfl (fun hq4 => by cases hq4) (fun _ => ?_)
  refine GC.skip ?_
  refine GE.thenN ?_
  refine GC.seq ?_
  refine GC.seq ?_
  refine GC.region ?_
  refine GL.val (v := (.pointer (some ⟨bq3, 3, none⟩))) (Ex.cast (Ex.fieldAddr rfl Try.underlying38 rfl T.sz3 (by decide)) rfl) (by decide) ?_
  refine GL.val (Ex.load rfl T.ag3 (i := 0) rfl rfl) (by decide) ?_
  refine GL.val (v := (.bool false)) (Ex.cast (Ex.geq rfl rfl) rfl) (by decide) ?_
  refine GL.nil ?_
  refine GE.thenN ?_
  refine GC.cond rfl (fun hq5 => by cases hq5) (fun _ => ?_)
  refine GC.skip ?_
  refine GE.thenN ?_
  refine GC.seq ?_
  refine GC.region ?_
  refine GL.val (v := (.pointer (some ⟨bq3, 2, none⟩))) (Ex.cast (Ex.fieldAddr rfl Try.underlying38 rfl T.sz36 (by decide)) rfl) (by decide) ?_
  refine GL.val (Ex.load rfl T.ag36 (i := 0) rfl rfl) (by decide) ?_
  refine GL.val (v := (.pointer (some ⟨bq3, 3, none⟩))) (Ex.cast (Ex.fieldAddr rfl Try.underlying38 rfl T.sz3 (by decide)) rfl) (by decide) ?_
  refine GL.val (Ex.load rfl T.ag3 (i := 0) rfl rfl) (by decide) ?_
  refine GL.val (v := (.int .i64 126)) (Ex.neg rfl (Z := 126) (by decide)) (by decide) ?_
  refine GL.step (Stp.callR (vs := [(.slice (some ⟨xq1, 0, none⟩) 0 2), (.int .i64 126)]) rfl rfl T.own77 (by decide) (fun wc hw => down_0 (some ⟨xq1, 0, none⟩) 2 126 wc (by decide))) (fun xq6 hq7 => ?_)
  refine GL.val (Ex.move rfl) (by decide) ?_
  refine GL.val (Ex.extract rfl rfl) (by decide) ?_
  refine GL.val (Ex.extract rfl rfl) (by decide) ?_
  refine GL.val (Ex.assign rfl) (by decide) ?_
  refine GL.val (Ex.assign rfl) (by decide) ?_
  refine GL.nil ?_
  refine GE.thenN ?_
  refine GC.seq ?_
  refine GC.region ?_
  refine GL.val (v := (.pointer (some ⟨bq3, 2, none⟩))) (Ex.cast (Ex.fieldAddr rfl Try.underlying38 rfl T.sz36 (by decide)) rfl) (by decide) ?_
  refine GL.val (Ex.load rfl T.ag36 (i := 0) rfl rfl) (by decide) ?_
  refine GL.val (v := (.pointer (some ⟨bq3, 3, none⟩))) (Ex.cast (Ex.fieldAddr rfl Try.underlying38 rfl T.sz3 (by decide)) rfl) (by decide) ?_
  refine GL.val (Ex.load rfl T.ag3 (i := 0) rfl rfl) (by decide) ?_
  refine GL.val (v := (.int .i64 126)) (Ex.neg rfl (Z := 126) (by decide)) (by decide) ?_
  refine GL.val (v := (.int .i64 125)) (Ex.sub' rfl rfl (Z := 125) (by decide)) (by decide) ?_
  refine GL.step (Stp.callR (vs := [(.slice (some ⟨xq1, 0, none⟩) 0 2), (.int .i64 125)]) rfl rfl T.own78 (by decide) (fun wc hw => bit_0 (some ⟨xq1, 0, none⟩) 2 125 wc (by omega))) (fun xq8 hq9 => ?_)
  refine GL.val (v := (.bool false)) (Ex.cast (Ex.eql rfl rfl) rfl) (by decide) ?_
  refine GL.val (Ex.assign rfl) (by decide) ?_
  refine GL.nil ?_
  refine GE.thenN ?_
  refine GC.seq ?_
  refine GC.region ?_
  refine GL.val (Ex.assign rfl) (by decide) ?_
  refine GL.nil ?_
  refine GE.thenN ?_
  refine GC.seq ?_
  refine GC.seq ?_
  refine GC.region ?_
  refine GL.val (Ex.assign rfl) (by decide) ?_
  refine GL.nil ?_
  refine GE.thenN ?_
  refine GC.block ?_
  refine GC.loop (σ := Nat) (fun i => i ≤ 125) (fun i => [(0, (.int .u32 a)), (1, (.int .i64 23)), (4, (.int .i64 0)), (5, (.int .i64 0)), (6, (.pointer (some ⟨bq3, 0, none⟩))), (7, (.slice none 0 0)), (8, (.bool xq6)), (9, (.bool false)), (10, (.bool false)), (11, (.int .i64 (((i : Nat) : Int))))]) (fun i => [⟨bq3, [(.int .i64 2), (.bool ((decide (a / 2147483648 % 2 = 1)))), (.slice (some ⟨xq1, 0, none⟩) 0 2), (.int .i64 ((-126))), (.bool false)], 38, true⟩, ⟨xq1, [(.int .u32 0), (.int .u32 0)], 23, true⟩]) (fun i => 125 - i) (0) (Nat.zero_le _) ((sub_cons rfl ((sub_cons rfl ((sub_cons rfl ((sub_cons rfl ((sub_cons rfl ((sub_cons rfl ((sub_cons rfl ((sub_cons rfl ((sub_cons rfl ((sub_cons rfl ((sub_nil _)))))))))))))))))))))) (ulC (ulC ulN)) (fun i hp => ?_)
  refine GC.seq ?_
  refine GC.seq ?_
  refine GC.region ?_
  refine GL.val (Ex.move rfl) (by decide) ?_
  refine GL.val (v := (.pointer (some ⟨bq3, 3, none⟩))) (Ex.cast (Ex.fieldAddr rfl Try.underlying38 rfl T.sz3 (by decide)) rfl) (by decide) ?_
  refine GL.val (Ex.load rfl T.ag3 (i := 0) rfl rfl) (by decide) ?_
  refine GL.val (v := (.int .i64 126)) (Ex.neg rfl (Z := 126) (by decide)) (by decide) ?_
  refine GL.val (v := (.int .i64 125)) (Ex.sub' rfl rfl (Z := 125) (by decide)) (by decide) ?_
  refine GL.val (v := (.bool (decide ((((i : Nat) : Int)) < 125)))) (Ex.lss rfl rfl) (by decide) ?_
  refine GL.nil ?_
  refine GE.thenN ?_
  refine GC.cond rfl (fun hq10 => ?_) (fun hq10 => ?_)
  · replace hq10 := of_decide_eq_true hq10
    refine GC.skip ?_
    refine GE.thenN ?_
    refine GC.seq ?_
    refine GC.block ?_
    refine GC.region ?_
    refine GL.val (Ex.move rfl) (by decide) ?_
    refine GL.val (Ex.move rfl) (by decide) ?_
    refine GL.stepG (tj := 61) rfl rfl (Ex.wp (v := (.pointer (some ⟨bq3, 2, none⟩))) (Ex.cast (Ex.fieldAddr rfl Try.underlying38 rfl T.sz36 (by decide)) rfl) (by decide)) (fun _ _ => ?_)
    refine GL.stepG (tj := 61) rfl rfl (Ex.wp (v := (.slice (some ⟨xq1, 0, none⟩) 0 2)) (Ex.load rfl T.ag36 (i := 0) rfl rfl) (by decide)) (fun _ _ => ?_)
    refine GL.stepG (tj := 61) rfl rfl (Ex.wp (v := (.int .i64 (((i : Nat) : Int)))) (Ex.move rfl) (by decide)) (fun _ _ => ?_)
    refine GL.stepG (tj := 61) rfl rfl (Stp.callR (vs := [(.slice (some ⟨xq1, 0, none⟩) 0 2), (.int .i64 (((i : Nat) : Int)))]) rfl rfl T.own78 (by decide) (fun wc hw => bit_0 (some ⟨xq1, 0, none⟩) 2 i wc (by omega))) (fun xq11 hq12 => ?_)
    refine GL.stepG (tj := 61) rfl rfl (Ex.wp (v := (.bool false)) (Ex.cast (Ex.eql rfl rfl) rfl) (by decide)) (fun _ _ => ?_)
    refine GL.val (v := (.bool false)) (Ex.pickF rfl rfl) (by decide) ?_
    refine GL.val (Ex.assign rfl) (by decide) ?_
    refine GL.nil ?_
    refine GE.blockN ?_
    refine GE.thenN ?_
    refine GC.region ?_
    refine GL.val (Ex.move rfl) (by decide) ?_
    refine GL.val (v := (.int .i64 (((i + 1 : Nat) : Int)))) (Ex.add rfl rfl (Z := ((i + 1 : Nat) : Int)) (w64 (by omega))) (by decide) ?_
    refine GL.val (Ex.assign rfl) (by decide) ?_
    refine GL.nil ?_
    refine GE.thenN ?_
    exact Head.mk (i + 1) (by omega) (by omega) ((sub_cons rfl ((sub_cons rfl ((sub_cons rfl ((sub_cons rfl ((sub_cons rfl ((sub_cons rfl ((sub_cons rfl ((sub_cons rfl ((sub_cons rfl ((sub_cons rfl ((sub_nil _)))))))))))))))))))))) (ulC (ulC ulN))
  · replace hq10 := of_decide_eq_false hq10
    refine GC.exit ?_
    refine GE.thenE ?_
    refine GE.thenE ?_
    refine GE.blockE ?_
    refine GE.thenN ?_
    refine GC.seq ?_
    refine GC.seq ?_
    refine GC.region ?_
    refine GL.val (Ex.move rfl) (by decide) ?_
    refine GL.val (Ex.move rfl) (by decide) ?_
    refine GL.skipG (tj := 69) rfl rfl rfl (by decide) ?_
    refine GL.skipG (tj := 69) rfl rfl rfl (by decide) ?_
    refine GL.skipU (tj := 71) rfl rfl (by decide) ?_
    refine GL.skipU (tj := 71) rfl rfl (by decide) ?_
    refine GL.skipU (tj := 71) rfl rfl (by decide) ?_
    refine GL.skipG (tj := 69) rfl rfl rfl (by decide) ?_
    refine GL.val (v := (.bool false)) (Ex.pickF rfl rfl) (by decide) ?_
    refine GL.nil ?_
    refine GE.thenN ?_
    refine GC.cond rfl (fun hq13 => by cases hq13) (fun _ => ?_)
    refine GC.skip ?_
    refine GE.thenN ?_
    refine GC.seq ?_
    refine GC.region ?_
    refine GL.val (v := (.pointer (some ⟨bq3, 1, none⟩))) (Ex.cast (Ex.fieldAddr rfl Try.underlying38 rfl T.sz4 (by decide)) rfl) (by decide) ?_
    refine GL.val (Ex.load rfl T.ag4 (i := 0) rfl rfl) (by decide) ?_
    refine GL.val (Ex.move rfl) (by decide) ?_
    refine GL.step (Stp.callR (vs := [(.bool ((decide (a / 2147483648 % 2 = 1)))), (.slice none 0 0)]) rfl rfl T.own76 (by decide) (fun wc hw => whole_0 none 0 (decide (a / 2147483648 % 2 = 1)) wc)) (fun xq14 hq15 => ?_)
    refine GL.val (Ex.extract rfl rfl) (by decide) ?_
    refine GL.val (Ex.extract rfl rfl) (by decide) ?_
    refine GL.val (Ex.assign rfl) (by decide) ?_
    refine GL.val (Ex.assign rfl) (by decide) ?_
    refine GL.nil ?_
    refine GE.thenN ?_
    refine GC.ret ?_
    refine GC.ret2 rfl (Rv.tmp rfl) (Rv.tmp rfl) (fun wN HN => ?_)
    exact HN.ret () trivial (by split <;> rfl) (List.nil_sublist _) rfl

theorem near_all (a : Int) (w : World) (ha : 0 ≤ a ∧ a < 4294967296) (hf : a % 2147483648 < 2139095040) (h1 : Fv.rk a < 1124073472) (h2 : -1123942400 ≤ Fv.rk a) : Calls Try.prog 49 #[.int .u32 a, .int .i64 23] w (Ret w (fun _ : Unit => True) (fun _ => .tuple #[.int .i64 (if (decide (a / 2147483648 % 2 = 1)) = true then -((Lh.near (Bt.mant a).toNat (Bt.expo a + 23) : Nat) : Int) else ((Lh.near (Bt.mant a).toNat (Bt.expo a + 23) : Nat) : Int)), .int .i64 0]) (fun _ => [])) := by
  by_cases hz : a % 2147483648 = 0
  · have h := near_Z a w ha hf hz
    have e : Lh.near (Bt.mant a).toNat (Bt.expo a + 23) = 0 := Lh.near_0 (by unfold Bt.mant; rw [if_pos (by omega)]; omega)
    rw [e]; exact h
  · have hp : 0 < Bt.mant a := by unfold Bt.mant; split <;> omega
    have hx : Bt.expo a + 23 ≤ 6 ∧ -200 ≤ Bt.expo a + 23 := by unfold Fv.rk at h1 h2; unfold Bt.expo; split at h1 <;> split <;> omega
    obtain ⟨v, hv⟩ := Int.eq_ofNat_of_zero_le (Int.le_of_lt hp)
    have hm : Bt.mant a = ((v : Nat) : Int) := hv
    have hv0 : 0 < v := by omega
    rw [hm, Int.toNat_natCast]
    by_cases hE : 0 ≤ Bt.expo a + 23
    · obtain ⟨n, hn⟩ := Int.eq_ofNat_of_zero_le hE
      have h := near_A a v n w ha hf hm hv0 hn (by omega)
      rw [Lh.near_pos hn]; exact h
    · obtain ⟨n, hn⟩ := Int.eq_ofNat_of_zero_le (show 0 ≤ -(Bt.expo a + 23) by omega)
      have hE2 : Bt.expo a + 23 = -((n : Nat) : Int) := by
        have : -(Bt.expo a + 23) = ((n : Nat) : Int) := hn
        omega
      rw [Lh.near_neg hE2 (by omega)]
      by_cases hd : n < 32
      · by_cases hq : v / 2 ^ n = 0
        · exact near_C a v n w ha hf hm hv0 hE2 (by omega) hq
        · exact near_B a v n w ha hf hm hv0 hE2 (by omega) (Nat.pos_of_ne_zero hq)
      · exact near_D a v n w ha hf hm hv0 hE2 (by omega)

set_option maxRecDepth 100000 in
set_option maxHeartbeats 1000000 in
theorem exp_r (a : Int) (w : World) (ha : 0 ≤ a ∧ a < 4294967296) :
    Calls Try.prog 21 #[(.int .u32 a)] w (Ret w (fun _ : Unit => True) (fun _ => (.int .u32 ((Sl.EX a)))) (fun _ => [])) := by
  have r0 : Fv.rk 0 = 0 := by decide
  have r1 : Fv.rk 1124073472 = 1124073472 := by decide
  have r2 : Fv.rk 3271426048 = -1123942400 := by decide
  have hrA : a < 2147483648 → Fv.rk a = a := fun h => by unfold Fv.rk; rw [if_pos h]
  have hrB : 2147483648 ≤ a → Fv.rk a = 2147483648 - a := fun h => by unfold Fv.rk; rw [if_neg (by omega)]
  refine enter (M := None) (L := []) (n := 20) (l := [(0, (.int .u32 a))]) Try.func21 rfl rfl (Args.cons rfl (Args.nil _)) (Hp.start _ _) ?_
  refine GC.seq ?_
  refine GC.region ?_
  refine GL.val (Ex.assign rfl) (by decide) ?_
  refine GL.nil ?_
  refine GE.thenN ?_
  refine GC.seq ?_
  refine GC.seq ?_
  refine GC.region ?_
  refine GL.val (Ex.move rfl) (by decide) ?_
  refine GL.step (Stp.callR (vs := [(.int .u32 a)]) rfl rfl T.own38 (by decide) (fun wc hw => isnan_r a wc (by omega))) (fun xq1 hq2 => ?_)
  refine GL.nil ?_
  refine GE.thenN ?_
  refine GC.cond rfl (fun hq3 => ?_) (fun hq3 => ?_)
  · replace hq3 := of_decide_eq_true hq3
    refine GC.seq ?_
    refine GC.region ?_
    refine GL.val (Ex.assign rfl) (by decide) ?_
    refine GL.nil ?_
    refine GE.thenN ?_
    refine GC.ret ?_
    refine GE.thenR ?_
    refine GC.ret1 rfl (Rv.tmp rfl) (fun wN HN => ?_)
    exact HN.ret () trivial (by rw [Lh.EX_eq ha]; (repeat (first | rw [if_pos (by omega)] | rw [if_neg (by omega)]))) (List.nil_sublist _) rfl
  · replace hq3 := of_decide_eq_false hq3
    refine GC.skip ?_
    refine GE.thenN ?_
    refine GC.seq ?_
    refine GC.seq ?_
    refine GC.region ?_
    refine GL.val (Ex.move rfl) (by decide) ?_
    refine GL.step (Stp.callR (vs := [(.int .u32 a), (.int .u32 1124073472)]) rfl rfl T.own46 (by decide) (fun wc hw => less_2 a 1124073472 wc (by first | assumption | omega | exact Bt.lst_bd (by assumption) (by assumption) | exact Bt.gst_bd (by assumption) (by assumption) | exact Bt.key_bd (by assumption) | exact Bt.unkey_bd (by assumption) | exact Bt.nxt_bd (by assumption) | exact Bt.lst_bd (Bt.gst_bd (by assumption) (by assumption)) (by assumption) | exact Bt.btw_bd (by assumption) (Bt.lst_bd (by assumption) (by assumption)) (Bt.gst_bd (by assumption) (by assumption))) (by first | assumption | omega | exact Bt.lst_bd (by assumption) (by assumption) | exact Bt.gst_bd (by assumption) (by assumption) | exact Bt.key_bd (by assumption) | exact Bt.unkey_bd (by assumption) | exact Bt.nxt_bd (by assumption) | exact Bt.lst_bd (Bt.gst_bd (by assumption) (by assumption)) (by assumption) | exact Bt.btw_bd (by assumption) (Bt.lst_bd (by assumption) (by assumption)) (Bt.gst_bd (by assumption) (by assumption))))) (fun xq4 hq5 => ?_)
    refine GL.val (v := (.bool (!(decide (a % 2147483648 ≤ 2139095040 ∧ 1124073472 % 2147483648 ≤ 2139095040 ∧ Fv.rk a < Fv.rk 1124073472))))) (Ex.not rfl) (by decide) ?_
    refine GL.nil ?_
    refine GE.thenN ?_
    refine GC.cond rfl (fun hq6 => ?_) (fun hq6 => ?_)
    · replace hq6 := of_decide_eq_false ((Bool.not_eq_true' _).mp hq6)
      refine GC.seq ?_
      refine GC.region ?_
      refine GL.val (Ex.assign rfl) (by decide) ?_
      refine GL.nil ?_
      refine GE.thenN ?_
      refine GC.ret ?_
      refine GE.thenR ?_
      refine GC.ret1 rfl (Rv.tmp rfl) (fun wN HN => ?_)
      exact HN.ret () trivial (by rw [Lh.EX_eq ha]; (repeat (first | rw [if_pos (by omega)] | rw [if_neg (by omega)]))) (List.nil_sublist _) rfl
    · replace hq6 := of_decide_eq_true ((Bool.not_eq_false' _).mp hq6)
      refine GC.skip ?_
      refine GE.thenN ?_
      refine GC.seq ?_
      refine GC.seq ?_
      refine GC.region ?_
      refine GL.val (Ex.move rfl) (by decide) ?_
      refine GL.step (Stp.callR (vs := [(.int .u32 a), (.int .u32 3271426048)]) rfl rfl T.own46 (by decide) (fun wc hw => less_2 a 3271426048 wc (by first | assumption | omega | exact Bt.lst_bd (by assumption) (by assumption) | exact Bt.gst_bd (by assumption) (by assumption) | exact Bt.key_bd (by assumption) | exact Bt.unkey_bd (by assumption) | exact Bt.nxt_bd (by assumption) | exact Bt.lst_bd (Bt.gst_bd (by assumption) (by assumption)) (by assumption) | exact Bt.btw_bd (by assumption) (Bt.lst_bd (by assumption) (by assumption)) (Bt.gst_bd (by assumption) (by assumption))) (by first | assumption | omega | exact Bt.lst_bd (by assumption) (by assumption) | exact Bt.gst_bd (by assumption) (by assumption) | exact Bt.key_bd (by assumption) | exact Bt.unkey_bd (by assumption) | exact Bt.nxt_bd (by assumption) | exact Bt.lst_bd (Bt.gst_bd (by assumption) (by assumption)) (by assumption) | exact Bt.btw_bd (by assumption) (Bt.lst_bd (by assumption) (by assumption)) (Bt.gst_bd (by assumption) (by assumption))))) (fun xq7 hq8 => ?_)
      refine GL.nil ?_
      refine GE.thenN ?_
      refine GC.cond rfl (fun hq9 => ?_) (fun hq9 => ?_)
      · replace hq9 := of_decide_eq_true hq9
        refine GC.seq ?_
        refine GC.region ?_
        refine GL.val (Ex.assign rfl) (by decide) ?_
        refine GL.nil ?_
        refine GE.thenN ?_
        refine GC.ret ?_
        refine GE.thenR ?_
        refine GC.ret1 rfl (Rv.tmp rfl) (fun wN HN => ?_)
        exact HN.ret () trivial (by rw [Lh.EX_eq ha]; (repeat (first | rw [if_pos (by omega)] | rw [if_neg (by omega)]))) (List.nil_sublist _) rfl
      · replace hq9 := of_decide_eq_false hq9
        refine GC.skip ?_
        refine GE.thenN ?_
        refine GC.seq ?_
        refine GC.region ?_
        refine GL.val (Ex.move rfl) (by decide) ?_
        refine GL.step (Stp.callR (σ := Unit) (p := fun rz => True) (v := fun rz => (.tuple #[(.int .i64 ((Fp.sgn (decide (2147483648 ≤ a)) (Lh.near (Bt.mant a).toNat (Bt.expo a + 23))))), (.int .i64 0)])) (N := fun rz => []) (vs := [(.int .u32 a), (.int .i64 23)]) rfl rfl T.own49 (by decide) (fun wc hw => (by have h := near_all a wc ha (by omega) (by omega) (by omega); rw [Lh.sgn_if ha] at h; exact h))) (fun xq10 hq11 => ?_)
        refine GL.val (Ex.move rfl) (by decide) ?_
        refine GL.val (Ex.extract rfl rfl) (by decide) ?_
        refine GL.val (Ex.extract rfl rfl) (by decide) ?_
        refine GL.val (Ex.assign rfl) (by decide) ?_
        refine GL.val (Ex.assign rfl) (by decide) ?_
        refine GL.nil ?_
        refine GE.thenN ?_
        refine GC.seq ?_
        have hnb := Lh.near_bd ha (by omega) (by omega) (by omega)
        refine GC.region ?_
        refine GL.val (Ex.move rfl) (by decide) ?_
        refine GL.val (v := (.int .i64 (((Fp.sgn (decide (2147483648 ≤ a)) (Lh.near (Bt.mant a).toNat (Bt.expo a + 23))) + 1065353216)))) (Ex.add rfl rfl (Z := ((Fp.sgn (decide (2147483648 ≤ a)) (Lh.near (Bt.mant a).toNat (Bt.expo a + 23))) + 1065353216)) (w64 (by omega))) (by decide) ?_
        refine GL.val (v := (.int .u32 (((Fp.sgn (decide (2147483648 ≤ a)) (Lh.near (Bt.mant a).toNat (Bt.expo a + 23))) + 1065353216)))) (Ex.conv rfl Try.underlying2 Try.underlying23 (Z := ((Fp.sgn (decide (2147483648 ≤ a)) (Lh.near (Bt.mant a).toNat (Bt.expo a + 23))) + 1065353216)) (wu32b (by omega))) (by decide) ?_
        refine GL.val (Ex.assign rfl) (by decide) ?_
        refine GL.nil ?_
        refine GE.thenN ?_
        refine GC.ret ?_
        refine GC.ret1 rfl (Rv.tmp rfl) (fun wN HN => ?_)
        exact HN.ret () trivial (by rw [Lh.EX_eq ha, if_neg (show ¬ 2139095040 < a % 2147483648 by omega), if_neg (show ¬ 1124073472 ≤ Fv.rk a by omega), if_neg (show ¬ Fv.rk a < -1123942400 by omega), Lh.RN_parts' ha (by omega)]) (List.nil_sublist _) rfl

set_option maxRecDepth 100000 in
set_option maxHeartbeats 1000000 in
theorem lawLog (a : Int) (w : World) (ha : 0 ≤ a ∧ a < 4294967296) :
    Calls Try.prog 5 #[(.int .u32 a)] w (Ret w (fun _ : Unit => True) (fun _ => .bool true) (fun _ => [])) := by
  refine enter (M := None) (L := []) (n := 18) (l := [(0, (.int .u32 a))]) Try.func5 rfl rfl (Args.cons rfl (Args.nil _)) (Hp.start _ _) ?_
  refine GC.seq ?_
  refine GC.region ?_
  refine GL.val (Ex.assign rfl) (by decide) ?_
  refine GL.nil ?_
  refine GE.thenN ?_
  refine GC.seq ?_
  refine GC.region ?_
  refine GL.step (Stp.callR (vs := []) rfl rfl T.own13 (by decide) (fun wc hw => known wc)) (fun xq1 hq2 => ?_)
  refine GL.val (Ex.move rfl) (by decide) ?_
  refine GL.stepG (tj := 4) rfl rfl (Ex.wp (v := (.int .u32 a)) (Ex.move rfl) (by decide)) (fun _ _ => ?_)
  refine GL.stepG (tj := 4) rfl rfl (Stp.callR (vs := [(.int .u32 a)]) rfl rfl T.own18 (by decide) (fun wc hw => log_p a wc ha)) (fun xq3 hq4 => ?_)
  refine GL.stepG (tj := 4) rfl rfl (Ex.wp (v := (.int .u32 a)) (Ex.move rfl) (by decide)) (fun _ _ => ?_)
  refine GL.stepG (tj := 4) rfl rfl (Stp.callR (vs := [(.int .u32 a)]) rfl rfl T.own19 (by decide) (fun wc hw => log_r a wc ha)) (fun xq5 hq6 => ?_)
  refine GL.stepG (tj := 4) rfl rfl (Ex.wp (v := (.bool true)) (Ex.cast (Ex.eql rfl rfl) (congrArg Value.bool (decide_eq_true (by simp)))) (by decide)) (fun _ _ => ?_)
  refine GL.val (v := (.bool true)) (Ex.pickT rfl rfl) (by decide) ?_
  refine GL.val (Ex.move rfl) (by decide) ?_
  refine GL.stepG (tj := 11) rfl rfl (Ex.wp (v := (.int .u32 a)) (Ex.move rfl) (by decide)) (fun _ _ => ?_)
  refine GL.stepG (tj := 11) rfl rfl (Stp.callR (vs := [(.int .u32 a)]) rfl rfl T.own20 (by decide) (fun wc hw => exp_p a wc (by omega))) (fun xq7 hq8 => ?_)
  refine GL.stepG (tj := 11) rfl rfl (Ex.wp (v := (.int .u32 a)) (Ex.move rfl) (by decide)) (fun _ _ => ?_)
  refine GL.stepG (tj := 11) rfl rfl (Stp.callR (vs := [(.int .u32 a)]) rfl rfl T.own21 (by decide) (fun wc hw => exp_r a wc ha)) (fun xq9 hq10 => ?_)
  refine GL.stepG (tj := 11) rfl rfl (Ex.wp (v := (.bool true)) (Ex.cast (Ex.eql rfl rfl) (congrArg Value.bool (decide_eq_true (by simp)))) (by decide)) (fun _ _ => ?_)
  refine GL.val (v := (.bool true)) (Ex.pickT rfl rfl) (by decide) ?_
  refine GL.val (Ex.assign rfl) (by decide) ?_
  refine GL.nil ?_
  refine GE.thenN ?_
  refine GC.ret ?_
  refine GC.ret1 rfl (Rv.tmp rfl) (fun wN HN => ?_)
  exact HN.ret () trivial (by first | rfl | simp) (List.nil_sublist _) rfl

end Go.Proofs.Ytbhjadkgeadpiaa.C
