/- PictureKeeps: what its code does, walked. -/
import Derived.Test.YtiikkhbmhojbaaaKKeeps3
namespace Go.Proofs.Ytiikkhbmhojbaaa.C
open Go Go.RowKit Sx
set_option linter.unusedVariables false
set_option maxRecDepth 100000
set_option maxHeartbeats 1000000
theorem keeps_ok (sp sq : Int) (b o n cap b2 o2 m c2 : Nat) (ps qs : List Pn) (W H W2 H2 A A2 : Nat) (lo hi : Int) (w : World) (hps : Pns w b o ps) (hn : n = ps.length) (hok : OkPic sp ps W H) (hqs : Pns w b2 o2 qs) (hm : m = qs.length) (hok2 : OkPic sq qs W2 H2) (hA : A = W * H) (hI : Kp.In w sp ps W H A n) (hJ : Kp.In w sq qs W2 H2 A2 m) (hAb : A ≤ 65536) (hAb2 : A2 ≤ 65536) (hlo : Kp.U lo) (hhi : Kp.U hi) :
  Calls Try.prog 5 #[(.agg #[(.int .i64 sp), (.slice (some ⟨b, o, none⟩) n cap)]), (.agg #[(.int .i64 sq), (.slice (some ⟨b2, o2, none⟩) m c2)]), (.int .u32 lo), (.int .u32 hi)] w (Ret w (fun _ : Unit => True) (fun _ => .bool true) (fun _ => [])) := by
 have hn0 := hok.n0
 have hn4 := hok.n4
 have hsp : spc sp n = 0 := by rw [hn]; exact hok.sp
 refine enter (M := None) (L := []) (n := 293) (l := [(0, (.agg #[(.int .i64 sp), (.slice (some ⟨b, o, none⟩) n cap)])), (1, (.agg #[(.int .i64 sq), (.slice (some ⟨b2, o2, none⟩) m c2)])), (2, (.int .u32 lo)), (3, (.int .u32 hi))]) Try.func5 rfl rfl (Args.cons rfl (Args.cons rfl (Args.cons rfl (Args.cons rfl (Args.nil _))))) (Hp.start _ _) ?_
 refine GC.seq (GC.region ?_)
 refine GL.step (Stp.box (cs := [(.int .i64 sp), (.slice (some ⟨b, o, none⟩) n cap)]) rfl rfl (by decide)) (fun bq1 _ => ?_)
 refine GL.step (Stp.box (cs := [(.int .i64 sq), (.slice (some ⟨b2, o2, none⟩) m c2)]) rfl rfl (by decide)) (fun bq2 _ => ?_)
 refine GL.sg rfl (by decide) ?_
 refine GL.nil (GE.thenN (GC.seq (GC.seq (GC.region ?_))))
 refine GL.step (Stp.callR (vs := []) rfl rfl T.own7 (by decide) (fun wc hw => known wc)) (fun xq3 hq4 => ?_)
 refine GL.val (v := (.bool false)) (Ex.cast (Ex.not rfl) rfl) (by decide) ?_
 refine GL.nil (GE.thenN ?_)
 refine GC.cond rfl (fun hq5 => by cases hq5) (fun _ => ?_)
 refine GC.skip (GE.thenN (GC.seq (GC.seq (GC.region ?_))))
 refine GL.val (v := (.agg #[(.int .i64 sp), (.slice (some ⟨b, o, none⟩) n cap)])) (Ex.loadA rfl T.ag25 T.sz25 (i := 1) rfl (vs := [(.int .i64 sp), (.slice (some ⟨b, o, none⟩) n cap)]) rfl rfl) (by decide) ?_
 refine GL.step (Stp.callR (σ := Unit) (p := fun rz => True) (v := fun rz => (.int .i64 0)) (N := fun rz => []) (vs := [(.agg #[(.int .i64 sp), (.slice (some ⟨b, o, none⟩) n cap)])]) rfl rfl T.own9 (by decide) (fun wc hw => (by have h := chk_p sp b o n cap ps wc (hps.later hw.1) hn (by have := hok.n4; omega); rw [hok.chk] at h; exact h))) (fun xq6 hq7 => ?_)
 refine GL.step (Stp.callR (vs := [(.int .i64 0)]) rfl rfl T.own8 (by decide) (fun wc hw => num 0 wc (by decide))) (fun xq8 hq9 => ?_)
 refine GL.val (v := (.bool false)) (Ex.cast (Ex.neq rfl rfl) rfl) (by decide) ?_
 refine GL.mv rfl (by decide) ?_
 refine GL.stepG (tj := 46) rfl rfl (Ex.wp (v := (.agg #[(.int .i64 sq), (.slice (some ⟨b2, o2, none⟩) m c2)])) (Ex.loadA rfl T.ag25 T.sz25 (i := 0) rfl (vs := [(.int .i64 sq), (.slice (some ⟨b2, o2, none⟩) m c2)]) rfl rfl) (by decide)) (fun _ _ => ?_)
 refine GL.stepG (tj := 46) rfl rfl (Stp.callR (σ := Unit) (p := fun rz => True) (v := fun rz => (.int .i64 0)) (N := fun rz => []) (vs := [(.agg #[(.int .i64 sq), (.slice (some ⟨b2, o2, none⟩) m c2)])]) rfl rfl T.own9 (by decide) (fun wc hw => (by have h := chk_p sq b2 o2 m c2 qs wc (hqs.later hw.1) hm (by have := hok2.n4; omega); rw [hok2.chk] at h; exact h))) (fun xq10 hq11 => ?_)
 refine GL.stepG (tj := 46) rfl rfl (Stp.callR (vs := [(.int .i64 0)]) rfl rfl T.own8 (by decide) (fun wc hw => num 0 wc (by decide))) (fun xq12 hq13 => ?_)
 refine GL.stepG (tj := 46) rfl rfl (Ex.wp (v := (.bool false)) (Ex.cast (Ex.neq rfl rfl) rfl) (by decide)) (fun _ _ => ?_)
 refine GL.val (v := (.bool false)) (Ex.pickF rfl rfl) (by decide) ?_
 refine GL.nil (GE.thenN ?_)
 refine GC.cond rfl (fun hq14 => by cases hq14) (fun _ => ?_)
 refine GC.skip (GE.thenN (GC.seq (GC.region ?_)))
 refine GL.sg rfl (by decide) ?_
 refine GL.nil (GE.thenN (GC.seq (GC.region ?_)))
 refine GL.val (v := (.agg #[(.int .i64 sp), (.slice (some ⟨b, o, none⟩) n cap)])) (Ex.loadA rfl T.ag25 T.sz25 (i := 1) rfl (vs := [(.int .i64 sp), (.slice (some ⟨b, o, none⟩) n cap)]) rfl rfl) (by decide) ?_
 refine GL.mv rfl (by decide) ?_
 refine GL.step (Stp.call (vs := [(.agg #[(.int .i64 sp), (.slice (some ⟨b, o, none⟩) n cap)]), (.int .i64 (-1)), (.int .u32 1065353216), (.int .u32 2147483648)]) rfl rfl T.own13 (by decide) (fun wc hw => (Ret.frm (L' := fun x => (⟨bq2, [(.int .i64 sq), (.slice (some ⟨b2, o2, none⟩) m c2)], 25, true⟩ :: ⟨bq1, [(.int .i64 sp), (.slice (some ⟨b, o, none⟩) n cap)], 25, true⟩ :: (x.blks 43 28 ++ ([] : List Blk)))) hw (affine_k sp b o n cap ps W H A wc (hps.later hw.1) hn hok (hI.go hw.1)) (fun x w' _ h => by exact Hp.segsT (T := ([] : List Blk)) (A := [x.blks 43 28, [⟨bq2, [(.int .i64 sq), (.slice (some ⟨b2, o2, none⟩) m c2)], 25, true⟩, ⟨bq1, [(.int .i64 sp), (.slice (some ⟨b, o, none⟩) n cap)], 25, true⟩]]) (idx := [1, 0]) 2 [] h rfl (by decide) rfl)))) (fun xq15 hq16 => ?_)
 refine GL.mv rfl (by decide) ?_
 refine GL.val (Ex.extract rfl rfl) (by decide) ?_
 refine GL.val (Ex.extract rfl rfl) (by decide) ?_
 refine GL.step (Stp.alloc T.zr25 (by decide)) (fun bq17 _ => ?_)
 refine GL.step (Stp.st0 (cs' := [(.int .i64 sp), (.slice (some ⟨xq15.b, 0, none⟩) n xq15.cap)]) rfl rfl rfl T.sz25 rfl rfl rfl) (fun _ _ => ?_)
 refine GL.sg rfl (by decide) ?_
 refine GL.nil (GE.thenN (GC.seq (GC.seq (GC.region ?_))))
 refine GL.mv rfl (by decide) ?_
 refine GL.step (Stp.callR (vs := [(.int .i64 0)]) rfl rfl T.own8 (by decide) (fun wc hw => num 0 wc (by decide))) (fun xq18 hq19 => ?_)
 refine GL.val (v := (.bool false)) (Ex.cast (Ex.neq rfl rfl) rfl) (by decide) ?_
 refine GL.mv rfl (by decide) ?_
 refine GL.stepG (tj := 61) rfl rfl (Ex.wp (v := (.pointer (some ⟨bq17, 1, none⟩))) (Ex.cast (Ex.fieldAddr rfl Try.underlying25 rfl T.sz23 (by decide)) rfl) (by decide)) (fun _ _ => ?_)
 refine GL.stepG (tj := 61) rfl rfl (Ex.wp (v := (.slice (some ⟨xq15.b, 0, none⟩) n xq15.cap)) (Ex.load rfl T.ag23 (i := 0) rfl rfl) (by decide)) (fun _ _ => ?_)
 refine GL.stepG (tj := 61) rfl rfl (Ex.wp (v := (.int .i64 ((n : Int)))) (Ex.len rfl Try.underlying23) (by decide)) (fun _ _ => ?_)
 refine GL.stepG (tj := 61) rfl rfl (Ex.wp (v := (.pointer (some ⟨bq1, 1, none⟩))) (Ex.cast (Ex.fieldAddr rfl Try.underlying25 rfl T.sz23 (by decide)) rfl) (by decide)) (fun _ _ => ?_)
 refine GL.stepG (tj := 61) rfl rfl (Ex.wp (v := (.slice (some ⟨b, o, none⟩) n cap)) (Ex.load rfl T.ag23 (i := 2) rfl rfl) (by decide)) (fun _ _ => ?_)
 refine GL.stepG (tj := 61) rfl rfl (Ex.wp (v := (.int .i64 ((n : Int)))) (Ex.len rfl Try.underlying23) (by decide)) (fun _ _ => ?_)
 refine GL.stepG (tj := 61) rfl rfl (Ex.wp (v := (.bool false)) (Ex.cast (Ex.neq rfl rfl) (congrArg Value.bool (decide_eq_false (by exact fun h => h rfl)))) (by decide)) (fun _ _ => ?_)
 refine GL.val (v := (.bool false)) (Ex.pickF rfl rfl) (by decide) ?_
 refine GL.nil (GE.thenN ?_)
 refine GC.cond rfl (fun hq20 => by cases hq20) (fun _ => ?_)
 refine GC.skip (GE.thenN (GC.seq (GC.seq (GC.region ?_))))
 refine GL.sg rfl (by decide) ?_
 refine GL.nil (GE.thenN (GC.block ?_))
 refine GC.loop (σ := Nat) (fun i => i ≤ n) (fun i => [(2, (.int .u32 lo)), (3, (.int .u32 hi)), (4, (.pointer (some ⟨bq1, 0, none⟩))), (5, (.pointer (some ⟨bq2, 0, none⟩))), (9, (.int .u32 1065353216)), (10, (.pointer (some ⟨bq17, 0, none⟩))), (12, (.int .i64 (((i : Nat) : Int))))]) (fun i => (⟨bq17, [(.int .i64 sp), (.slice (some ⟨xq15.b, 0, none⟩) n xq15.cap)], 25, true⟩ :: ⟨bq2, [(.int .i64 sq), (.slice (some ⟨b2, o2, none⟩) m c2)], 25, true⟩ :: ⟨bq1, [(.int .i64 sp), (.slice (some ⟨b, o, none⟩) n cap)], 25, true⟩ :: (xq15.blks 43 28 ++ ([] : List Blk)))) (fun i => n - i) (0) (Nat.zero_le _) ((sub_cons rfl ((sub_cons rfl ((sub_cons rfl ((sub_cons rfl ((sub_cons rfl ((sub_cons rfl ((sub_cons rfl ((sub_nil _)))))))))))))))) (ulC (ulC (ulC ulR))) (fun i hp => ?_)
 refine GC.seq (GC.seq (GC.region ?_))
 refine GL.mv rfl (by decide) ?_
 refine GL.val (v := (.pointer (some ⟨bq1, 1, none⟩))) (Ex.cast (Ex.fieldAddr rfl Try.underlying25 rfl T.sz23 (by decide)) rfl) (by decide) ?_
 refine GL.val (Ex.load rfl T.ag23 (i := 2) rfl rfl) (by decide) ?_
 refine GL.val (v := (.int .i64 ((n : Int)))) (Ex.len rfl Try.underlying23) (by decide) ?_
 refine GL.val (v := (.bool (decide ((((i : Nat) : Int)) < ((n : Int)))))) (Ex.lss rfl rfl) (by decide) ?_
 refine GL.nil (GE.thenN ?_)
 refine GC.cond rfl (fun hq21 => ?_) (fun hq21 => ?_)
 ·replace hq21 := of_decide_eq_true hq21
  refine GC.skip (GE.thenN (GC.seq (GC.block (GC.seq ?_))))
  have hin : i < n := by omega
  obtain ⟨bp, op, ea, el, hrp⟩ := hok.samp hps (show i < ps.length by omega)
  rw [← hA] at el
  obtain ⟨hxa, hna1⟩ := Kp.nq_ds hq16.2.1 hin
  have hna : (nqAt xq15 i).xs.length = A ∧ i < xq15.n := ⟨by rw [hxa]; have hA0 := hok.ok.1; have hA1 := hok.ok.2.1; have hAp := Nat.mul_pos (show 0 < W from hA0) (show 0 < H from hA1); exact (Kp.In.map_at (k := 0) hI hin (by omega)).1, hna1⟩
  refine GC.region ?_
  refine GL.sg rfl (by decide) ?_
  refine GL.nil (GE.thenN (GC.block ?_))
  refine GC.loop (σ := Nat) (fun k => k ≤ A) (fun k => [(2, (.int .u32 lo)), (3, (.int .u32 hi)), (4, (.pointer (some ⟨bq1, 0, none⟩))), (5, (.pointer (some ⟨bq2, 0, none⟩))), (9, (.int .u32 1065353216)), (10, (.pointer (some ⟨bq17, 0, none⟩))), (12, (.int .i64 (((i : Nat) : Int)))), (13, (.int .i64 (((k : Nat) : Int))))]) (fun k => (⟨bq17, [(.int .i64 sp), (.slice (some ⟨xq15.b, 0, none⟩) n xq15.cap)], 25, true⟩ :: ⟨bq2, [(.int .i64 sq), (.slice (some ⟨b2, o2, none⟩) m c2)], 25, true⟩ :: ⟨bq1, [(.int .i64 sp), (.slice (some ⟨b, o, none⟩) n cap)], 25, true⟩ :: (xq15.blks 43 28 ++ ([] : List Blk)))) (fun k => A - k) (0) (Nat.zero_le _) ((sub_cons rfl ((sub_cons rfl ((sub_cons rfl ((sub_cons rfl ((sub_cons rfl ((sub_cons rfl ((sub_cons rfl ((sub_cons rfl ((sub_nil _)))))))))))))))))) (ulC (ulC (ulC ulR))) (fun k hp => ?_)
  refine GC.seq (GC.seq (GC.region ?_))
  refine GL.mv rfl (by decide) ?_
  refine GL.val (v := (.pointer (some ⟨bq1, 1, none⟩))) (Ex.cast (Ex.fieldAddr rfl Try.underlying25 rfl T.sz23 (by decide)) rfl) (by decide) ?_
  refine GL.val (Ex.load rfl T.ag23 (i := 2) rfl rfl) (by decide) ?_
  refine GL.mv rfl (by decide) ?_
  refine GL.val (v := (.pointer (some ⟨b, o + i * 3, none⟩))) (Ex.cast (Ex.indexAddr rfl rfl Try.underlying23 T.sz43 (by omega) (by omega)) (by simp)) (by decide) ?_
  refine GL.val (v := (.pointer (some ⟨b, o + i * 3 + 2, none⟩))) (Ex.cast (Ex.fieldAddr rfl Try.underlying43 rfl T.sz41 (by decide)) rfl) (by decide) ?_
  refine GL.val (v := (.slice (some ⟨bp, op, none⟩) A ((pAt ps i).cap))) (Ex.loadO rfl T.ag41 (by have h := Pns.cell (i := i) (j := 2) (v := .slice (pAt ps i).ad (pAt ps i).n (pAt ps i).cap) hps (show i < ps.length by omega) (by decide) rfl; rw [ea, (hok.at (show i < ps.length by omega)).2.2, ← hA] at h; exact h) (fun x => x)) (by decide) ?_
  refine GL.val (v := (.int .i64 ((A : Int)))) (Ex.len rfl Try.underlying41) (by decide) ?_
  refine GL.val (v := (.bool (decide ((((k : Nat) : Int)) < ((A : Int)))))) (Ex.lss rfl rfl) (by decide) ?_
  refine GL.nil (GE.thenN ?_)
  refine GC.cond rfl (fun hq22 => ?_) (fun hq22 => ?_)
  ·replace hq22 := of_decide_eq_true hq22
   refine GC.skip (GE.thenN (GC.seq (GC.block (GC.seq ?_))))
   have hkA : k < A := by omega
   have hs := hI.us hin hkA
   refine GC.region ?_
   refine GL.val (v := (.pointer (some ⟨bq1, 1, none⟩))) (Ex.cast (Ex.fieldAddr rfl Try.underlying25 rfl T.sz23 (by decide)) rfl) (by decide) ?_
   refine GL.val (Ex.load rfl T.ag23 (i := 2) rfl rfl) (by decide) ?_
   refine GL.mv rfl (by decide) ?_
   refine GL.val (v := (.pointer (some ⟨b, o + i * 3, none⟩))) (Ex.cast (Ex.indexAddr rfl rfl Try.underlying23 T.sz43 (by omega) (by omega)) (by simp)) (by decide) ?_
   refine GL.val (v := (.pointer (some ⟨b, o + i * 3 + 2, none⟩))) (Ex.cast (Ex.fieldAddr rfl Try.underlying43 rfl T.sz41 (by decide)) rfl) (by decide) ?_
   refine GL.val (v := (.slice (some ⟨bp, op, none⟩) A ((pAt ps i).cap))) (Ex.loadO rfl T.ag41 (by have h := Pns.cell (i := i) (j := 2) (v := .slice (pAt ps i).ad (pAt ps i).n (pAt ps i).cap) hps (show i < ps.length by omega) (by decide) rfl; rw [ea, (hok.at (show i < ps.length by omega)).2.2, ← hA] at h; exact h) (fun x => x)) (by decide) ?_
   refine GL.mv rfl (by decide) ?_
   refine GL.val (v := (.pointer (some ⟨bp, op + k, none⟩))) (Ex.cast (Ex.indexAddr rfl rfl Try.underlying41 T.sz28 (by omega) (by omega)) (by simp)) (by decide) ?_
   refine GL.val (v := (.int .u32 (((pAt ps i).xs.getD k 0)))) (Ex.loadO rfl T.ag28 (Rd.at hrp (by omega)) (fun x => x)) (by decide) ?_
   refine GL.sg rfl (by decide) ?_
   refine GL.nil (GE.thenN (GC.seq (GC.seq (GC.region ?_))))
   refine GL.mv rfl (by decide) ?_
   refine GL.val (v := (.int .u32 ((((pAt ps i).xs.getD k 0)) / 8388608))) (Ex.quo rfl rfl (Z := (((pAt ps i).xs.getD k 0)) / 8388608) (by omega) (quoU32 (by omega) (by omega) (by omega))) (by decide) ?_
   refine GL.val (v := (.int .u32 (((((pAt ps i).xs.getD k 0)) / 8388608) % 256))) (Ex.rem rfl rfl (Z := ((((pAt ps i).xs.getD k 0)) / 8388608) % 256) (by omega) (rem64 (by omega) (by omega))) (by decide) ?_
   by_cases hq23 : (((((pAt ps i).xs.getD k 0)) / 8388608) % 256) = 255
   ·refine GL.val (v := (.bool true)) (Ex.cast (Ex.eql rfl rfl) (congrArg Value.bool (decide_eq_true hq23))) (by decide) ?_
    refine GL.mv rfl (by decide) ?_
    refine GL.stepG (tj := 101) rfl rfl (Ex.wp (v := (.int .u32 (((pAt ps i).xs.getD k 0)))) (Ex.move rfl) (by decide)) (fun _ _ => ?_)
    refine GL.stepG (tj := 101) rfl rfl (Ex.wp (v := (.int .u32 ((((pAt ps i).xs.getD k 0)) % 8388608))) (Ex.rem rfl rfl (Z := (((pAt ps i).xs.getD k 0)) % 8388608) (by omega) (rem64 (by omega) (by omega))) (by decide)) (fun _ _ => ?_)
    refine GL.stepG (tj := 101) rfl rfl (Ex.wp (v := (.bool (decide (((((pAt ps i).xs.getD k 0)) % 8388608) ≠ 0)))) (Ex.neq rfl rfl) (by decide)) (fun _ _ => ?_)
    refine GL.val (v := (.bool (decide (((((pAt ps i).xs.getD k 0)) % 8388608) ≠ 0)))) (Ex.pickT rfl rfl) (by decide) ?_
    refine GL.nil (GE.thenN ?_)
    refine GC.cond rfl (fun hq24 => ?_) (fun hq24 => ?_)
    ·replace hq24 := of_decide_eq_true hq24
     refine GC.region ?_
     refine GL.sg rfl (by decide) ?_
     refine GL.nil (GE.thenN (GC.seq (GC.region ?_)))
     refine GL.val (v := (.pointer (some ⟨bq17, 1, none⟩))) (Ex.cast (Ex.fieldAddr rfl Try.underlying25 rfl T.sz23 (by decide)) rfl) (by decide) ?_
     refine GL.val (Ex.load rfl T.ag23 (i := 0) rfl rfl) (by decide) ?_
     refine GL.mv rfl (by decide) ?_
     refine GL.val (v := (.pointer (some ⟨xq15.b, i * 3, none⟩))) (Ex.cast (Ex.indexAddr rfl rfl Try.underlying23 T.sz43 (by omega) (by omega)) (by simp)) (by decide) ?_
     refine GL.val (v := (.pointer (some ⟨xq15.b, i * 3 + 2, none⟩))) (Ex.cast (Ex.fieldAddr rfl Try.underlying43 rfl T.sz41 (by decide)) rfl) (by decide) ?_
     refine GL.val (v := (.slice (some ⟨(nqAt xq15 i).b, 0, none⟩) A ((nqAt xq15 i).cap))) (Ex.loadF rfl T.ag41 (fun w hw => Kp.cell1 (Hp.seg (T := ([] : List Blk)) (A := [[_, _, _], xq15.blks 43 28]) hw 1 rfl) (hna.2) (hna.1))) (by decide) ?_
     refine GL.mv rfl (by decide) ?_
     refine GL.val (v := (.pointer (some ⟨(nqAt xq15 i).b, k, none⟩))) (Ex.cast (Ex.indexAddr rfl rfl Try.underlying41 T.sz28 (by omega) (by omega)) (by simp)) (by decide) ?_
     refine GL.val (v := (.int .u32 ((Kp.kmd ((pAt ps i).xs.getD k 0))))) (Ex.loadF rfl T.ag28 (fun w hw => Kp.cell2 (Hp.seg (T := ([] : List Blk)) (A := [[_, _, _], xq15.blks 43 28]) hw 1 rfl) (hna.2) (by rw [hna.1]; omega) (by rw [hxa, (Kp.In.map_at hI hin hkA).2]))) (by decide) ?_
     refine GL.mv rfl (by decide) ?_
     refine GL.val (v := (.bool false)) (Ex.cast (Ex.neq rfl rfl) (congrArg Value.bool (decide_eq_false (by exact fun h => h (by unfold Kp.kmd; split <;> omega))))) (by decide) ?_
     refine GL.nil (GE.thenN ?_)
     refine GC.cond rfl (fun hq25 => by cases hq25) (fun _ => ?_)
     refine GC.skip (GE.blockN (GE.thenN (GC.region ?_)))
     refine GL.mv rfl (by decide) ?_
     refine GL.val (v := (.int .i64 (((k + 1 : Nat) : Int)))) (Ex.add rfl rfl (Z := ((k + 1 : Nat) : Int)) (by rw [w64 (by omega)]; rfl)) (by decide) ?_
     refine GL.sg rfl (by decide) ?_
     refine GL.nil (GE.thenN ?_)
     exact Head.mk (k + 1) (by omega) (by omega) ((sub_cons rfl ((sub_cons rfl ((sub_cons rfl ((sub_cons rfl ((sub_cons rfl ((sub_cons rfl ((sub_cons rfl ((sub_cons rfl ((sub_nil _)))))))))))))))))) (ulC (ulC (ulC ulR)))
    ·replace hq24 := of_decide_eq_false hq24
     refine GC.skip (GE.thenN (GC.seq (GC.region ?_)))
     refine GL.val (v := (.pointer (some ⟨bq17, 1, none⟩))) (Ex.cast (Ex.fieldAddr rfl Try.underlying25 rfl T.sz23 (by decide)) rfl) (by decide) ?_
     refine GL.val (Ex.load rfl T.ag23 (i := 0) rfl rfl) (by decide) ?_
     refine GL.mv rfl (by decide) ?_
     refine GL.val (v := (.pointer (some ⟨xq15.b, i * 3, none⟩))) (Ex.cast (Ex.indexAddr rfl rfl Try.underlying23 T.sz43 (by omega) (by omega)) (by simp)) (by decide) ?_
     refine GL.val (v := (.pointer (some ⟨xq15.b, i * 3 + 2, none⟩))) (Ex.cast (Ex.fieldAddr rfl Try.underlying43 rfl T.sz41 (by decide)) rfl) (by decide) ?_
     refine GL.val (v := (.slice (some ⟨(nqAt xq15 i).b, 0, none⟩) A ((nqAt xq15 i).cap))) (Ex.loadF rfl T.ag41 (fun w hw => Kp.cell1 (Hp.seg (T := ([] : List Blk)) (A := [[_, _, _], xq15.blks 43 28]) hw 1 rfl) (hna.2) (hna.1))) (by decide) ?_
     refine GL.mv rfl (by decide) ?_
     refine GL.val (v := (.pointer (some ⟨(nqAt xq15 i).b, k, none⟩))) (Ex.cast (Ex.indexAddr rfl rfl Try.underlying41 T.sz28 (by omega) (by omega)) (by simp)) (by decide) ?_
     refine GL.val (v := (.int .u32 ((Kp.kmd ((pAt ps i).xs.getD k 0))))) (Ex.loadF rfl T.ag28 (fun w hw => Kp.cell2 (Hp.seg (T := ([] : List Blk)) (A := [[_, _, _], xq15.blks 43 28]) hw 1 rfl) (hna.2) (by rw [hna.1]; omega) (by rw [hxa, (Kp.In.map_at hI hin hkA).2]))) (by decide) ?_
     refine GL.mv rfl (by decide) ?_
     refine GL.val (v := (.bool false)) (Ex.cast (Ex.neq rfl rfl) (congrArg Value.bool (decide_eq_false (by exact fun h => h (by unfold Kp.kmd; split <;> omega))))) (by decide) ?_
     refine GL.nil (GE.thenN ?_)
     refine GC.cond rfl (fun hq26 => by cases hq26) (fun _ => ?_)
     refine GC.skip (GE.blockN (GE.thenN (GC.region ?_)))
     refine GL.mv rfl (by decide) ?_
     refine GL.val (v := (.int .i64 (((k + 1 : Nat) : Int)))) (Ex.add rfl rfl (Z := ((k + 1 : Nat) : Int)) (by rw [w64 (by omega)]; rfl)) (by decide) ?_
     refine GL.sg rfl (by decide) ?_
     refine GL.nil (GE.thenN ?_)
     exact Head.mk (k + 1) (by omega) (by omega) ((sub_cons rfl ((sub_cons rfl ((sub_cons rfl ((sub_cons rfl ((sub_cons rfl ((sub_cons rfl ((sub_cons rfl ((sub_cons rfl ((sub_nil _)))))))))))))))))) (ulC (ulC (ulC ulR)))
   ·refine GL.val (v := (.bool false)) (Ex.cast (Ex.eql rfl rfl) (congrArg Value.bool (decide_eq_false hq23))) (by decide) ?_
    refine GL.mv rfl (by decide) ?_
    refine GL.skipG (tj := 101) rfl rfl rfl (by decide) ?_
    refine GL.skipG (tj := 101) rfl rfl rfl (by decide) ?_
    refine GL.skipG (tj := 101) rfl rfl rfl (by decide) ?_
    refine GL.val (v := (.bool false)) (Ex.pickF rfl rfl) (by decide) ?_
    refine GL.nil (GE.thenN ?_)
    refine GC.cond rfl (fun hq27 => by cases hq27) (fun _ => ?_)
    refine GC.skip (GE.thenN (GC.seq (GC.region ?_)))
    refine GL.val (v := (.pointer (some ⟨bq17, 1, none⟩))) (Ex.cast (Ex.fieldAddr rfl Try.underlying25 rfl T.sz23 (by decide)) rfl) (by decide) ?_
    refine GL.val (Ex.load rfl T.ag23 (i := 0) rfl rfl) (by decide) ?_
    refine GL.mv rfl (by decide) ?_
    refine GL.val (v := (.pointer (some ⟨xq15.b, i * 3, none⟩))) (Ex.cast (Ex.indexAddr rfl rfl Try.underlying23 T.sz43 (by omega) (by omega)) (by simp)) (by decide) ?_
    refine GL.val (v := (.pointer (some ⟨xq15.b, i * 3 + 2, none⟩))) (Ex.cast (Ex.fieldAddr rfl Try.underlying43 rfl T.sz41 (by decide)) rfl) (by decide) ?_
    refine GL.val (v := (.slice (some ⟨(nqAt xq15 i).b, 0, none⟩) A ((nqAt xq15 i).cap))) (Ex.loadF rfl T.ag41 (fun w hw => Kp.cell1 (Hp.seg (T := ([] : List Blk)) (A := [[_, _, _], xq15.blks 43 28]) hw 1 rfl) (hna.2) (hna.1))) (by decide) ?_
    refine GL.mv rfl (by decide) ?_
    refine GL.val (v := (.pointer (some ⟨(nqAt xq15 i).b, k, none⟩))) (Ex.cast (Ex.indexAddr rfl rfl Try.underlying41 T.sz28 (by omega) (by omega)) (by simp)) (by decide) ?_
    refine GL.val (v := (.int .u32 ((Kp.kmd ((pAt ps i).xs.getD k 0))))) (Ex.loadF rfl T.ag28 (fun w hw => Kp.cell2 (Hp.seg (T := ([] : List Blk)) (A := [[_, _, _], xq15.blks 43 28]) hw 1 rfl) (hna.2) (by rw [hna.1]; omega) (by rw [hxa, (Kp.In.map_at hI hin hkA).2]))) (by decide) ?_
    refine GL.mv rfl (by decide) ?_
    refine GL.val (v := (.bool false)) (Ex.cast (Ex.neq rfl rfl) (congrArg Value.bool (decide_eq_false (by exact fun h => h (by unfold Kp.kmd; split <;> omega))))) (by decide) ?_
    refine GL.nil (GE.thenN ?_)
    refine GC.cond rfl (fun hq28 => by cases hq28) (fun _ => ?_)
    refine GC.skip (GE.blockN (GE.thenN (GC.region ?_)))
    refine GL.mv rfl (by decide) ?_
    refine GL.val (v := (.int .i64 (((k + 1 : Nat) : Int)))) (Ex.add rfl rfl (Z := ((k + 1 : Nat) : Int)) (by rw [w64 (by omega)]; rfl)) (by decide) ?_
    refine GL.sg rfl (by decide) ?_
    refine GL.nil (GE.thenN ?_)
    exact Head.mk (k + 1) (by omega) (by omega) ((sub_cons rfl ((sub_cons rfl ((sub_cons rfl ((sub_cons rfl ((sub_cons rfl ((sub_cons rfl ((sub_cons rfl ((sub_cons rfl ((sub_nil _)))))))))))))))))) (ulC (ulC (ulC ulR)))
  ·replace hq22 := of_decide_eq_false hq22
   refine GC.exit (GE.thenE (GE.thenE (GE.blockE (GE.blockN (GE.thenN (GC.region ?_))))))
   refine GL.mv rfl (by decide) ?_
   refine GL.val (v := (.int .i64 (((i + 1 : Nat) : Int)))) (Ex.add rfl rfl (Z := ((i + 1 : Nat) : Int)) (by rw [w64 (by omega)]; rfl)) (by decide) ?_
   refine GL.sg rfl (by decide) ?_
   refine GL.nil (GE.thenN ?_)
   exact Head.mk (i + 1) (by omega) (by omega) ((sub_cons rfl ((sub_cons rfl ((sub_cons rfl ((sub_cons rfl ((sub_cons rfl ((sub_cons rfl ((sub_cons rfl ((sub_nil _)))))))))))))))) (ulC (ulC (ulC ulR)))
 ·replace hq21 := of_decide_eq_false hq21
  refine GC.exit (GE.thenE (GE.thenE (GE.blockE (GE.thenN (GC.seq ?_)))))
  refine GC.drawP (⟨bq17, [(.int .i64 sp), (.slice (some ⟨xq15.b, 0, none⟩) n xq15.cap)], 25, true⟩ :: ⟨bq2, [(.int .i64 sq), (.slice (some ⟨b2, o2, none⟩) m c2)], 25, true⟩ :: ⟨bq1, [(.int .i64 sp), (.slice (some ⟨b, o, none⟩) n cap)], 25, true⟩ :: (xq15.blks 43 28 ++ ([] : List Blk))) T.mixed (by kernel_rfl) (by kernel_rfl) (fuel := 15) rfl rfl ?_
  refine GH.tk 0 (v := (.pointer (some ⟨bq1, 1, none⟩))) rfl (by kernel_rfl) (fun _ _ _ h => h) (Ex.cast (Ex.fieldAddr rfl Try.underlying25 rfl T.sz23 (by decide)) rfl) (ulC (ulC (ulC ulR))) (by decide) ?_
  refine GH.tk 1 (v := (.slice (some ⟨b, o, none⟩) n cap)) rfl (by kernel_rfl) (fun _ _ _ h => h) (Ex.load rfl T.ag23 (i := 2) rfl rfl) (ulC (ulC (ulC ulR))) (by decide) ?_
  refine GH.tk 2 (v := (.pointer (some ⟨b, o, none⟩))) rfl (by kernel_rfl) (fun _ _ _ h => h) (Ex.cast (Ex.indexAddr rfl rfl Try.underlying23 T.sz43 (by omega) (by omega)) rfl) (ulC (ulC (ulC ulR))) (by decide) ?_
  refine GH.tk 3 (v := (.pointer (some ⟨b, o, none⟩))) rfl (by kernel_rfl) (fun _ _ _ h => h) (Ex.cast (Ex.fieldAddr rfl Try.underlying43 rfl T.sz3 (by decide)) rfl) (ulC (ulC (ulC ulR))) (by decide) ?_
  refine GH.tk 4 (v := (.int .i64 (((W : Nat) : Int)))) rfl (by kernel_rfl) (fun _ _ _ h => h) (Ex.loadO rfl T.ag3 (by have h := Pns.cell (i := 0) (j := 0) (v := .int .i64 (pAt ps 0).W) hps hok.n0 (by decide) rfl; rw [(hok.at hok.n0).1] at h; exact h) (fun x => x)) (ulC (ulC (ulC ulR))) (by decide) ?_
  refine GH.tk 5 (v := (.pointer (some ⟨bq1, 1, none⟩))) rfl (by kernel_rfl) (fun _ _ _ h => h) (Ex.cast (Ex.fieldAddr rfl Try.underlying25 rfl T.sz23 (by decide)) rfl) (ulC (ulC (ulC ulR))) (by decide) ?_
  refine GH.tk 6 (v := (.slice (some ⟨b, o, none⟩) n cap)) rfl (by kernel_rfl) (fun _ _ _ h => h) (Ex.load rfl T.ag23 (i := 2) rfl rfl) (ulC (ulC (ulC ulR))) (by decide) ?_
  refine GH.tk 7 (v := (.pointer (some ⟨b, o, none⟩))) rfl (by kernel_rfl) (fun _ _ _ h => h) (Ex.cast (Ex.indexAddr rfl rfl Try.underlying23 T.sz43 (by omega) (by omega)) rfl) (ulC (ulC (ulC ulR))) (by decide) ?_
  refine GH.tk 8 (v := (.pointer (some ⟨b, o + 1, none⟩))) rfl (by kernel_rfl) (fun _ _ _ h => h) (Ex.cast (Ex.fieldAddr rfl Try.underlying43 rfl T.sz3 (by decide)) rfl) (ulC (ulC (ulC ulR))) (by decide) ?_
  refine GH.tk 9 (v := (.int .i64 (((H : Nat) : Int)))) rfl (by kernel_rfl) (fun _ _ _ h => h) (Ex.loadO rfl T.ag3 (by have h := Pns.cell (i := 0) (j := 1) (v := .int .i64 (pAt ps 0).H) hps hok.n0 (by decide) rfl; rw [(hok.at hok.n0).2.1] at h; exact h) (fun x => x)) (ulC (ulC (ulC ulR))) (by decide) ?_
  refine GH.tk 10 (v := (.pointer (some ⟨bq1, 1, none⟩))) rfl (by kernel_rfl) (fun _ _ _ h => h) (Ex.cast (Ex.fieldAddr rfl Try.underlying25 rfl T.sz23 (by decide)) rfl) (ulC (ulC (ulC ulR))) (by decide) ?_
  refine GH.tk 11 (v := (.slice (some ⟨b, o, none⟩) n cap)) rfl (by kernel_rfl) (fun _ _ _ h => h) (Ex.load rfl T.ag23 (i := 2) rfl rfl) (ulC (ulC (ulC ulR))) (by decide) ?_
  refine GH.tk 12 (v := (.int .i64 ((n : Int)))) rfl (by kernel_rfl) (fun _ _ _ h => h) (Ex.len rfl Try.underlying23) (ulC (ulC (ulC ulR))) (by decide) ?_
  refine GH.tk 13 (v := (.int .i64 (((W : Nat) : Int)))) rfl (by kernel_rfl) (fun _ _ _ h => h) (Ex.assign rfl) (ulC (ulC (ulC ulR))) (by decide) ?_
  refine GH.tk 14 (v := (.int .i64 (((H : Nat) : Int)))) rfl (by kernel_rfl) (fun _ _ _ h => h) (Ex.assign rfl) (ulC (ulC (ulC ulR))) (by decide) ?_
  refine GH.done (by kernel_rfl) ?_
  refine GE.thenN ?_
  refine GE.tail rfl (Ex.wp (v := (.int .i64 ((n : Int)))) (Ex.assign rfl) (by decide)) (fun _ _ => ?_)
  refine GE.thenN (GC.seq (GC.region ?_))
  refine GL.val (v := (.agg #[(.int .i64 sp), (.slice (some ⟨b, o, none⟩) n cap)])) (Ex.loadA rfl T.ag25 T.sz25 (i := 2) rfl (vs := [(.int .i64 sp), (.slice (some ⟨b, o, none⟩) n cap)]) rfl rfl) (by decide) ?_
  refine GL.mv rfl (by decide) ?_
  refine GL.mv rfl (by decide) ?_
  refine GL.mv rfl (by decide) ?_
  refine GL.val (v := (.agg #[(.int .u32 1065353216), (.int .u32 0), (.int .u32 0), (.int .u32 0), (.int .u32 1065353216), (.int .u32 0), (.int .u32 0), (.int .u32 0), (.int .u32 1065353216)])) (Ex.build (vs := [(0, (.int .u32 1065353216)), (1, (.int .u32 0)), (2, (.int .u32 0)), (3, (.int .u32 0)), (4, (.int .u32 1065353216)), (5, (.int .u32 0)), (6, (.int .u32 0)), (7, (.int .u32 0)), (8, (.int .u32 1065353216))]) rfl (by first | rfl | kernel_rfl)) (by decide) ?_
  refine GL.step (Stp.call (vs := [(.agg #[(.int .i64 sp), (.slice (some ⟨b, o, none⟩) n cap)]), (.agg #[(.int .u32 1065353216), (.int .u32 0), (.int .u32 0), (.int .u32 0), (.int .u32 1065353216), (.int .u32 0), (.int .u32 0), (.int .u32 0), (.int .u32 1065353216)])]) rfl rfl T.own14 (by decide) (fun wc hw => (Ret.frm (L' := fun x => (⟨bq17, [(.int .i64 sp), (.slice (some ⟨xq15.b, 0, none⟩) n xq15.cap)], 25, true⟩ :: ⟨bq2, [(.int .i64 sq), (.slice (some ⟨b2, o2, none⟩) m c2)], 25, true⟩ :: ⟨bq1, [(.int .i64 sp), (.slice (some ⟨b, o, none⟩) n cap)], 25, true⟩ :: (x.blks 43 28 ++ (xq15.blks 43 28 ++ ([] : List Blk))))) hw (matrix_u sp b o n cap ps W H A wc (hps.later hw.1) hn hok hA) (fun x w' _ h => by exact Hp.segsT (T := ([] : List Blk)) (A := [x.blks 43 28, [⟨bq17, [(.int .i64 sp), (.slice (some ⟨xq15.b, 0, none⟩) n xq15.cap)], 25, true⟩, ⟨bq2, [(.int .i64 sq), (.slice (some ⟨b2, o2, none⟩) m c2)], 25, true⟩, ⟨bq1, [(.int .i64 sp), (.slice (some ⟨b, o, none⟩) n cap)], 25, true⟩], xq15.blks 43 28]) (idx := [1, 0, 2]) 3 [] h rfl (by decide) rfl)))) (fun xq29 hq30 => ?_)
  refine GL.mv rfl (by decide) ?_
  refine GL.val (Ex.extract rfl rfl) (by decide) ?_
  refine GL.val (Ex.extract rfl rfl) (by decide) ?_
  refine GL.step (Stp.alloc T.zr25 (by decide)) (fun bq31 _ => ?_)
  refine GL.step (Stp.st0 (cs' := [(.int .i64 ((picS (Kp.mxE n) sp))), (.slice xq29.ad xq29.n xq29.cp)]) rfl rfl rfl T.sz25 rfl rfl rfl) (fun _ _ => ?_)
  refine GL.sg rfl (by decide) ?_
  refine GL.nil (GE.thenN (GC.seq (GC.seq (GC.region ?_))))
  refine GL.sg rfl (by decide) ?_
  refine GL.nil (GE.thenN (GC.block ?_))
  refine GC.loop (σ := Nat) (fun i => i ≤ 3) (fun i => [(2, (.int .u32 lo)), (3, (.int .u32 hi)), (4, (.pointer (some ⟨bq1, 0, none⟩))), (5, (.pointer (some ⟨bq2, 0, none⟩))), (15, (.int .i64 (((W : Nat) : Int)))), (16, (.int .i64 (((H : Nat) : Int)))), (17, (.int .i64 ((n : Int)))), (18, (.pointer (some ⟨bq31, 0, none⟩))), (19, (.int .i64 ((Kp.mxE n)))), (20, (.int .i64 (((i : Nat) : Int))))]) (fun i => (⟨bq31, [(.int .i64 ((picS (Kp.mxE n) sp))), (.slice xq29.ad xq29.n xq29.cp)], 25, true⟩ :: ⟨bq17, [(.int .i64 sp), (.slice (some ⟨xq15.b, 0, none⟩) n xq15.cap)], 25, true⟩ :: ⟨bq2, [(.int .i64 sq), (.slice (some ⟨b2, o2, none⟩) m c2)], 25, true⟩ :: ⟨bq1, [(.int .i64 sp), (.slice (some ⟨b, o, none⟩) n cap)], 25, true⟩ :: (xq29.blks 43 28 ++ (xq15.blks 43 28 ++ ([] : List Blk))))) (fun i => 3 - i) (0) (Nat.zero_le _) ((sub_cons rfl ((sub_cons rfl ((sub_cons rfl ((sub_cons rfl ((sub_cons rfl ((sub_cons rfl ((sub_cons rfl ((sub_cons rfl ((sub_cons rfl ((sub_cons rfl ((sub_nil _)))))))))))))))))))))) (ulC (ulC (ulC (ulC ulR)))) (fun i hp => ?_)
  refine GC.seq (GC.seq ?_)
  refine GC.join (σ := Bool) (fun j => (j = true → 3 ≤ n ∧ i < 3)) (fun j => [(2, (.int .u32 lo)), (3, (.int .u32 hi)), (4, (.pointer (some ⟨bq1, 0, none⟩))), (5, (.pointer (some ⟨bq2, 0, none⟩))), (15, (.int .i64 (((W : Nat) : Int)))), (16, (.int .i64 (((H : Nat) : Int)))), (17, (.int .i64 ((n : Int)))), (18, (.pointer (some ⟨bq31, 0, none⟩))), (19, (.int .i64 ((Kp.mxE n)))), (20, (.int .i64 (((i : Nat) : Int)))), (145, (.bool j))]) (fun j => (⟨bq31, [(.int .i64 ((picS (Kp.mxE n) sp))), (.slice xq29.ad xq29.n xq29.cp)], 25, true⟩ :: ⟨bq17, [(.int .i64 sp), (.slice (some ⟨xq15.b, 0, none⟩) n xq15.cap)], 25, true⟩ :: ⟨bq2, [(.int .i64 sq), (.slice (some ⟨b2, o2, none⟩) m c2)], 25, true⟩ :: ⟨bq1, [(.int .i64 sp), (.slice (some ⟨b, o, none⟩) n cap)], 25, true⟩ :: (xq29.blks 43 28 ++ (xq15.blks 43 28 ++ ([] : List Blk))))) ?_ (fun j hj => ?_)
  ·refine GC.region ?_
   refine GL.mv rfl (by decide) ?_
   refine GL.step (Stp.callR (vs := [(.int .i64 ((Kp.mxE n)))]) rfl rfl T.own8 (by decide) (fun wc hw => num ((Kp.mxE n)) wc (Kp.mxE_r n))) (fun xq32 hq33 => ?_)
   by_cases hq34 : ((Kp.mxE n)) = 0
   ·have hn3 := Kp.mxE_zero hq34
    refine GL.val (v := (.bool true)) (Ex.cast (Ex.eql rfl rfl) (congrArg Value.bool (decide_eq_true hq34))) (by decide) ?_
    refine GL.mv rfl (by decide) ?_
    refine GL.stepG (tj := 142) rfl rfl (Ex.wp (v := (.int .i64 (((i : Nat) : Int)))) (Ex.move rfl) (by decide)) (fun _ _ => ?_)
    refine GL.stepG (tj := 142) rfl rfl (Ex.wp (v := (.bool (decide ((((i : Nat) : Int)) < 3)))) (Ex.lss rfl rfl) (by decide)) (fun _ _ => ?_)
    refine GL.val (v := (.bool (decide ((((i : Nat) : Int)) < 3)))) (Ex.pickT rfl rfl) (by decide) ?_
    refine GL.nil (GE.thenN ?_)
    exact St.hp (decide ((((i : Nat) : Int)) < 3)) (fun h => ⟨hn3, by have := of_decide_eq_true h; omega⟩) ((sub_cons rfl ((sub_cons rfl ((sub_cons rfl ((sub_cons rfl ((sub_cons rfl ((sub_cons rfl ((sub_cons rfl ((sub_cons rfl ((sub_cons rfl ((sub_cons rfl ((sub_cons rfl ((sub_nil _)))))))))))))))))))))))) (fun w h => by exact Hp.segsT (T := ([] : List Blk)) (A := [[⟨bq31, [(.int .i64 ((picS (Kp.mxE n) sp))), (.slice xq29.ad xq29.n xq29.cp)], 25, true⟩], [⟨bq17, [(.int .i64 sp), (.slice (some ⟨xq15.b, 0, none⟩) n xq15.cap)], 25, true⟩], [⟨bq2, [(.int .i64 sq), (.slice (some ⟨b2, o2, none⟩) m c2)], 25, true⟩], [⟨bq1, [(.int .i64 sp), (.slice (some ⟨b, o, none⟩) n cap)], 25, true⟩], xq29.blks 43 28, xq15.blks 43 28]) (idx := [0, 1, 2, 3, 4, 5]) 6 [] h rfl (by decide) rfl)
   ·refine GL.val (v := (.bool false)) (Ex.cast (Ex.eql rfl rfl) (congrArg Value.bool (decide_eq_false hq34))) (by decide) ?_
    refine GL.mv rfl (by decide) ?_
    refine GL.skipG (tj := 142) rfl rfl rfl (by decide) ?_
    refine GL.skipG (tj := 142) rfl rfl rfl (by decide) ?_
    refine GL.val (v := (.bool false)) (Ex.pickF rfl rfl) (by decide) ?_
    refine GL.nil (GE.thenN ?_)
    exact St.hp (false) (fun h => by cases h) ((sub_cons rfl ((sub_cons rfl ((sub_cons rfl ((sub_cons rfl ((sub_cons rfl ((sub_cons rfl ((sub_cons rfl ((sub_cons rfl ((sub_cons rfl ((sub_cons rfl ((sub_cons rfl ((sub_nil _)))))))))))))))))))))))) (fun w h => by exact Hp.segsT (T := ([] : List Blk)) (A := [[⟨bq31, [(.int .i64 ((picS (Kp.mxE n) sp))), (.slice xq29.ad xq29.n xq29.cp)], 25, true⟩], [⟨bq17, [(.int .i64 sp), (.slice (some ⟨xq15.b, 0, none⟩) n xq15.cap)], 25, true⟩], [⟨bq2, [(.int .i64 sq), (.slice (some ⟨b2, o2, none⟩) m c2)], 25, true⟩], [⟨bq1, [(.int .i64 sp), (.slice (some ⟨b, o, none⟩) n cap)], 25, true⟩], xq29.blks 43 28, xq15.blks 43 28]) (idx := [0, 1, 2, 3, 4, 5]) 6 [] h rfl (by decide) rfl)
  refine GE.thenN ?_
  refine GC.cond rfl (fun hq35 => ?_) (fun hq35 => ?_)
  ·obtain ⟨hn3, hi3⟩ := hj hq35
   refine GC.skip (GE.thenN (GC.seq (GC.block (GC.seq ?_))))
   have hin : i < n := by omega
   obtain ⟨bp, op, ea, el, hrp⟩ := hok.samp hps (show i < ps.length by omega)
   rw [← hA] at el
   obtain ⟨bp0, op0, ea0, el0, hrp0⟩ := hok.samp hps (show 0 < ps.length by omega)
   rw [← hA] at el0
   obtain ⟨bp1, op1, ea1, el1, hrp1⟩ := hok.samp hps (show 1 < ps.length by omega)
   rw [← hA] at el1
   obtain ⟨bp2, op2, ea2, el2, hrp2⟩ := hok.samp hps (show 2 < ps.length by omega)
   rw [← hA] at el2
   have hbd : xq29.ds = (List.range n).map (trD Kp.mxF ps A) := by rw [hq30.2.2]; exact Kp.mxD_ok hn3
   obtain ⟨hxb, hnb1⟩ := Kp.nq_ds hbd hin
   have hnb : (nqAt xq29 i).xs.length = A ∧ i < xq29.n := ⟨by rw [hxb]; exact Kp.tr_len hi3, hnb1⟩
   have hbn : xq29.n = n := by rw [← Ac.ds_len, hbd]; simp
   have hbs := Ac.sm (a := xq29) (Ac.ne (by omega))
   refine GC.region ?_
   refine GL.sg rfl (by decide) ?_
   refine GL.nil (GE.thenN (GC.block ?_))
   refine GC.loop (σ := Nat) (fun k => k ≤ A) (fun k => [(2, (.int .u32 lo)), (3, (.int .u32 hi)), (4, (.pointer (some ⟨bq1, 0, none⟩))), (5, (.pointer (some ⟨bq2, 0, none⟩))), (15, (.int .i64 (((W : Nat) : Int)))), (16, (.int .i64 (((H : Nat) : Int)))), (17, (.int .i64 ((n : Int)))), (18, (.pointer (some ⟨bq31, 0, none⟩))), (19, (.int .i64 ((Kp.mxE n)))), (20, (.int .i64 (((i : Nat) : Int)))), (21, (.int .i64 (((k : Nat) : Int))))]) (fun k => (⟨bq31, [(.int .i64 ((picS (Kp.mxE n) sp))), (.slice xq29.ad xq29.n xq29.cp)], 25, true⟩ :: ⟨bq17, [(.int .i64 sp), (.slice (some ⟨xq15.b, 0, none⟩) n xq15.cap)], 25, true⟩ :: ⟨bq2, [(.int .i64 sq), (.slice (some ⟨b2, o2, none⟩) m c2)], 25, true⟩ :: ⟨bq1, [(.int .i64 sp), (.slice (some ⟨b, o, none⟩) n cap)], 25, true⟩ :: (xq29.blks 43 28 ++ (xq15.blks 43 28 ++ ([] : List Blk))))) (fun k => A - k) (0) (Nat.zero_le _) ((sub_cons rfl ((sub_cons rfl ((sub_cons rfl ((sub_cons rfl ((sub_cons rfl ((sub_cons rfl ((sub_cons rfl ((sub_cons rfl ((sub_cons rfl ((sub_cons rfl ((sub_cons rfl ((sub_nil _)))))))))))))))))))))))) (ulC (ulC (ulC (ulC ulR)))) (fun k hp => ?_)
   refine GC.seq (GC.seq (GC.region ?_))
   refine GL.mv rfl (by decide) ?_
   refine GL.mv rfl (by decide) ?_
   refine GL.mv rfl (by decide) ?_
   refine GL.val (v := (.int .i64 (((A : Nat) : Int)))) (Ex.mul rfl rfl (Z := ((A : Nat) : Int)) (by rw [hA]; rw [show ((W : Nat) : Int) * ((H : Nat) : Int) = ((W * H : Nat) : Int) from (Int.natCast_mul _ _).symm]; exact w64 (by omega))) (by decide) ?_
   refine GL.val (v := (.bool (decide ((((k : Nat) : Int)) < (((A : Nat) : Int)))))) (Ex.lss rfl rfl) (by decide) ?_
   refine GL.nil (GE.thenN ?_)
   refine GC.cond rfl (fun hq36 => ?_) (fun hq36 => ?_)
   ·replace hq36 := of_decide_eq_true hq36
    refine GC.skip (GE.thenN (GC.seq (GC.block (GC.seq ?_))))
    have hkA : k < A := by omega
    have hsx := hI.us (show 0 < n by omega) hkA
    have hsy := hI.us (show 1 < n by omega) hkA
    have hsz := hI.us (show 2 < n by omega) hkA
    refine GC.drawP (⟨bq31, [(.int .i64 ((picS (Kp.mxE n) sp))), (.slice xq29.ad xq29.n xq29.cp)], 25, true⟩ :: ⟨bq17, [(.int .i64 sp), (.slice (some ⟨xq15.b, 0, none⟩) n xq15.cap)], 25, true⟩ :: ⟨bq2, [(.int .i64 sq), (.slice (some ⟨b2, o2, none⟩) m c2)], 25, true⟩ :: ⟨bq1, [(.int .i64 sp), (.slice (some ⟨b, o, none⟩) n cap)], 25, true⟩ :: (xq29.blks 43 28 ++ (xq15.blks 43 28 ++ ([] : List Blk)))) T.mixed (by kernel_rfl) (by kernel_rfl) (fuel := 26) rfl rfl ?_
    refine GH.tk 0 (v := (.pointer (some ⟨bq1, 1, none⟩))) rfl (by kernel_rfl) (fun _ _ _ h => h) (Ex.cast (Ex.fieldAddr rfl Try.underlying25 rfl T.sz23 (by decide)) rfl) (ulC (ulC (ulC (ulC ulR)))) (by decide) ?_
    refine GH.tk 1 (v := (.slice (some ⟨b, o, none⟩) n cap)) rfl (by kernel_rfl) (fun _ _ _ h => h) (Ex.load rfl T.ag23 (i := 3) rfl rfl) (ulC (ulC (ulC (ulC ulR)))) (by decide) ?_
    refine GH.tk 2 (v := (.pointer (some ⟨b, o, none⟩))) rfl (by kernel_rfl) (fun _ _ _ h => h) (Ex.cast (Ex.indexAddr rfl rfl Try.underlying23 T.sz43 (by omega) (by omega)) rfl) (ulC (ulC (ulC (ulC ulR)))) (by decide) ?_
    refine GH.tk 3 (v := (.pointer (some ⟨b, o + 2, none⟩))) rfl (by kernel_rfl) (fun _ _ _ h => h) (Ex.cast (Ex.fieldAddr rfl Try.underlying43 rfl T.sz41 (by decide)) rfl) (ulC (ulC (ulC (ulC ulR)))) (by decide) ?_
    refine GH.tk 4 (v := (.slice (some ⟨bp0, op0, none⟩) A ((pAt ps 0).cap))) rfl (by kernel_rfl) (fun _ _ _ h => h) (Ex.loadO rfl T.ag41 (by have h := Pns.cell (i := 0) (j := 2) (v := .slice (pAt ps 0).ad (pAt ps 0).n (pAt ps 0).cap) hps hok.n0 (by decide) rfl; rw [ea0, (hok.at hok.n0).2.2, ← hA] at h; exact h) (fun x => x)) (ulC (ulC (ulC (ulC ulR)))) (by decide) ?_
    refine GH.tk 5 (v := (.int .i64 (((k : Nat) : Int)))) rfl (by kernel_rfl) (fun _ _ _ h => h) (Ex.move rfl) (ulC (ulC (ulC (ulC ulR)))) (by decide) ?_
    refine GH.tk 6 (v := (.pointer (some ⟨bp0, op0 + k, none⟩))) rfl (by kernel_rfl) (fun _ _ _ h => h) (Ex.cast (Ex.indexAddr rfl rfl Try.underlying41 T.sz28 (by omega) (by omega)) (by simp)) (ulC (ulC (ulC (ulC ulR)))) (by decide) ?_
    refine GH.tk 7 (v := (.int .u32 (((pAt ps 0).xs.getD k 0)))) rfl (by kernel_rfl) (fun _ _ _ h => h) (Ex.loadO rfl T.ag28 (Rd.at hrp0 (by omega)) (fun x => x)) (ulC (ulC (ulC (ulC ulR)))) (by decide) ?_
    refine GH.tk 8 (v := (.pointer (some ⟨bq1, 1, none⟩))) rfl (by kernel_rfl) (fun _ _ _ h => h) (Ex.cast (Ex.fieldAddr rfl Try.underlying25 rfl T.sz23 (by decide)) rfl) (ulC (ulC (ulC (ulC ulR)))) (by decide) ?_
    refine GH.tk 9 (v := (.slice (some ⟨b, o, none⟩) n cap)) rfl (by kernel_rfl) (fun _ _ _ h => h) (Ex.load rfl T.ag23 (i := 3) rfl rfl) (ulC (ulC (ulC (ulC ulR)))) (by decide) ?_
    refine GH.tk 10 (v := (.pointer (some ⟨b, o + 3, none⟩))) rfl (by kernel_rfl) (fun _ _ _ h => h) (Ex.cast (Ex.indexAddr rfl rfl Try.underlying23 T.sz43 (by omega) (by omega)) rfl) (ulC (ulC (ulC (ulC ulR)))) (by decide) ?_
    refine GH.tk 11 (v := (.pointer (some ⟨b, o + 3 + 2, none⟩))) rfl (by kernel_rfl) (fun _ _ _ h => h) (Ex.cast (Ex.fieldAddr rfl Try.underlying43 rfl T.sz41 (by decide)) rfl) (ulC (ulC (ulC (ulC ulR)))) (by decide) ?_
    refine GH.tk 12 (v := (.slice (some ⟨bp1, op1, none⟩) A ((pAt ps 1).cap))) rfl (by kernel_rfl) (fun _ _ _ h => h) (Ex.loadO rfl T.ag41 (by have h := Pns.cell (i := 1) (j := 2) (v := .slice (pAt ps 1).ad (pAt ps 1).n (pAt ps 1).cap) hps (show 1 < ps.length by omega) (by decide) rfl; rw [ea1, (hok.at (show 1 < ps.length by omega)).2.2, ← hA] at h; exact h) (fun x => x)) (ulC (ulC (ulC (ulC ulR)))) (by decide) ?_
    refine GH.tk 13 (v := (.int .i64 (((k : Nat) : Int)))) rfl (by kernel_rfl) (fun _ _ _ h => h) (Ex.move rfl) (ulC (ulC (ulC (ulC ulR)))) (by decide) ?_
    refine GH.tk 14 (v := (.pointer (some ⟨bp1, op1 + k, none⟩))) rfl (by kernel_rfl) (fun _ _ _ h => h) (Ex.cast (Ex.indexAddr rfl rfl Try.underlying41 T.sz28 (by omega) (by omega)) (by simp)) (ulC (ulC (ulC (ulC ulR)))) (by decide) ?_
    refine GH.tk 15 (v := (.int .u32 (((pAt ps 1).xs.getD k 0)))) rfl (by kernel_rfl) (fun _ _ _ h => h) (Ex.loadO rfl T.ag28 (Rd.at hrp1 (by omega)) (fun x => x)) (ulC (ulC (ulC (ulC ulR)))) (by decide) ?_
    refine GH.tk 16 (v := (.pointer (some ⟨bq1, 1, none⟩))) rfl (by kernel_rfl) (fun _ _ _ h => h) (Ex.cast (Ex.fieldAddr rfl Try.underlying25 rfl T.sz23 (by decide)) rfl) (ulC (ulC (ulC (ulC ulR)))) (by decide) ?_
    refine GH.tk 17 (v := (.slice (some ⟨b, o, none⟩) n cap)) rfl (by kernel_rfl) (fun _ _ _ h => h) (Ex.load rfl T.ag23 (i := 3) rfl rfl) (ulC (ulC (ulC (ulC ulR)))) (by decide) ?_
    refine GH.tk 18 (v := (.pointer (some ⟨b, o + 6, none⟩))) rfl (by kernel_rfl) (fun _ _ _ h => h) (Ex.cast (Ex.indexAddr rfl rfl Try.underlying23 T.sz43 (by omega) (by omega)) rfl) (ulC (ulC (ulC (ulC ulR)))) (by decide) ?_
    refine GH.tk 19 (v := (.pointer (some ⟨b, o + 6 + 2, none⟩))) rfl (by kernel_rfl) (fun _ _ _ h => h) (Ex.cast (Ex.fieldAddr rfl Try.underlying43 rfl T.sz41 (by decide)) rfl) (ulC (ulC (ulC (ulC ulR)))) (by decide) ?_
    refine GH.tk 20 (v := (.slice (some ⟨bp2, op2, none⟩) A ((pAt ps 2).cap))) rfl (by kernel_rfl) (fun _ _ _ h => h) (Ex.loadO rfl T.ag41 (by have h := Pns.cell (i := 2) (j := 2) (v := .slice (pAt ps 2).ad (pAt ps 2).n (pAt ps 2).cap) hps (show 2 < ps.length by omega) (by decide) rfl; rw [ea2, (hok.at (show 2 < ps.length by omega)).2.2, ← hA] at h; exact h) (fun x => x)) (ulC (ulC (ulC (ulC ulR)))) (by decide) ?_
    refine GH.tk 21 (v := (.int .i64 (((k : Nat) : Int)))) rfl (by kernel_rfl) (fun _ _ _ h => h) (Ex.move rfl) (ulC (ulC (ulC (ulC ulR)))) (by decide) ?_
    refine GH.tk 22 (v := (.pointer (some ⟨bp2, op2 + k, none⟩))) rfl (by kernel_rfl) (fun _ _ _ h => h) (Ex.cast (Ex.indexAddr rfl rfl Try.underlying41 T.sz28 (by omega) (by omega)) (by simp)) (ulC (ulC (ulC (ulC ulR)))) (by decide) ?_
    refine GH.tk 23 (v := (.int .u32 (((pAt ps 2).xs.getD k 0)))) rfl (by kernel_rfl) (fun _ _ _ h => h) (Ex.loadO rfl T.ag28 (Rd.at hrp2 (by omega)) (fun x => x)) (ulC (ulC (ulC (ulC ulR)))) (by decide) ?_
    refine GH.tk 24 (v := (.int .u32 (((pAt ps 0).xs.getD k 0)))) rfl (by kernel_rfl) (fun _ _ _ h => h) (Ex.assign rfl) (ulC (ulC (ulC (ulC ulR)))) (by decide) ?_
    refine GH.tk 25 (v := (.int .u32 (((pAt ps 1).xs.getD k 0)))) rfl (by kernel_rfl) (fun _ _ _ h => h) (Ex.assign rfl) (ulC (ulC (ulC (ulC ulR)))) (by decide) ?_
    refine GH.done (by kernel_rfl) ?_
    refine GE.thenN ?_
    refine GE.tail rfl (Ex.wp (v := (.int .u32 (((pAt ps 2).xs.getD k 0)))) (Ex.assign rfl) (by decide)) (fun _ _ => ?_)
    refine GE.thenN (GC.seq (GC.region ?_))
    refine GL.mv rfl (by decide) ?_
    refine GL.val (v := (.int .u32 ((((pAt ps 0).xs.getD k 0)) / 8388608))) (Ex.quo rfl rfl (Z := (((pAt ps 0).xs.getD k 0)) / 8388608) (by omega) (quoU32 (by omega) (by omega) (by omega))) (by decide) ?_
    refine GL.val (v := (.int .u32 (((((pAt ps 0).xs.getD k 0)) / 8388608) % 256))) (Ex.rem rfl rfl (Z := ((((pAt ps 0).xs.getD k 0)) / 8388608) % 256) (by omega) (rem64 (by omega) (by omega))) (by decide) ?_
    by_cases hq37 : (((((pAt ps 0).xs.getD k 0)) / 8388608) % 256) ≠ 255
    ·have fx := hq37
     refine GL.val (v := (.bool true)) (Ex.cast (Ex.neq rfl rfl) (congrArg Value.bool (decide_eq_true hq37))) (by decide) ?_
     refine GL.mv rfl (by decide) ?_
     refine GL.stepG (tj := 183) rfl rfl (Ex.wp (v := (.int .u32 (((pAt ps 1).xs.getD k 0)))) (Ex.move rfl) (by decide)) (fun _ _ => ?_)
     refine GL.stepG (tj := 183) rfl rfl (Ex.wp (v := (.int .u32 ((((pAt ps 1).xs.getD k 0)) / 8388608))) (Ex.quo rfl rfl (Z := (((pAt ps 1).xs.getD k 0)) / 8388608) (by omega) (quoU32 (by omega) (by omega) (by omega))) (by decide)) (fun _ _ => ?_)
     refine GL.stepG (tj := 183) rfl rfl (Ex.wp (v := (.int .u32 (((((pAt ps 1).xs.getD k 0)) / 8388608) % 256))) (Ex.rem rfl rfl (Z := ((((pAt ps 1).xs.getD k 0)) / 8388608) % 256) (by omega) (rem64 (by omega) (by omega))) (by decide)) (fun _ _ => ?_)
     by_cases hq38 : (((((pAt ps 1).xs.getD k 0)) / 8388608) % 256) ≠ 255
     ·have fy := hq38
      refine GL.stepG (tj := 183) rfl rfl (Ex.wp (v := (.bool true)) (Ex.cast (Ex.neq rfl rfl) (congrArg Value.bool (decide_eq_true hq38))) (by decide)) (fun _ _ => ?_)
      refine GL.val (v := (.bool true)) (Ex.pickT rfl rfl) (by decide) ?_
      refine GL.mv rfl (by decide) ?_
      refine GL.stepG (tj := 189) rfl rfl (Ex.wp (v := (.int .u32 (((pAt ps 2).xs.getD k 0)))) (Ex.move rfl) (by decide)) (fun _ _ => ?_)
      refine GL.stepG (tj := 189) rfl rfl (Ex.wp (v := (.int .u32 ((((pAt ps 2).xs.getD k 0)) / 8388608))) (Ex.quo rfl rfl (Z := (((pAt ps 2).xs.getD k 0)) / 8388608) (by omega) (quoU32 (by omega) (by omega) (by omega))) (by decide)) (fun _ _ => ?_)
      refine GL.stepG (tj := 189) rfl rfl (Ex.wp (v := (.int .u32 (((((pAt ps 2).xs.getD k 0)) / 8388608) % 256))) (Ex.rem rfl rfl (Z := ((((pAt ps 2).xs.getD k 0)) / 8388608) % 256) (by omega) (rem64 (by omega) (by omega))) (by decide)) (fun _ _ => ?_)
      refine GL.stepG (tj := 189) rfl rfl (Ex.wp (v := (.bool (decide ((((((pAt ps 2).xs.getD k 0)) / 8388608) % 256) ≠ 255)))) (Ex.neq rfl rfl) (by decide)) (fun _ _ => ?_)
      refine GL.val (v := (.bool (decide ((((((pAt ps 2).xs.getD k 0)) / 8388608) % 256) ≠ 255)))) (Ex.pickT rfl rfl) (by decide) ?_
      refine GL.sg rfl (by decide) ?_
      refine GL.nil (GE.thenN (GC.seq ?_))
      by_cases fz : (pAt ps 2).xs.getD k 0 / 8388608 % 256 ≠ 255
      ·refine GC.draw (⟨bq31, [(.int .i64 ((picS (Kp.mxE n) sp))), (.slice xq29.ad xq29.n xq29.cp)], 25, true⟩ :: ⟨bq17, [(.int .i64 sp), (.slice (some ⟨xq15.b, 0, none⟩) n xq15.cap)], 25, true⟩ :: ⟨bq2, [(.int .i64 sq), (.slice (some ⟨b2, o2, none⟩) m c2)], 25, true⟩ :: ⟨bq1, [(.int .i64 sp), (.slice (some ⟨b, o, none⟩) n cap)], 25, true⟩ :: (xq29.blks 43 28 ++ (xq15.blks 43 28 ++ ([] : List Blk)))) T.mixed (fuel := 24) rfl rfl ?_
       refine GH.tk 0 (v := (.bool true)) rfl (by kernel_rfl) (fun _ _ _ h => h) (Ex.cast (Ex.move rfl) (congrArg Value.bool (decide_eq_true (by exact fz)))) (ulC (ulC (ulC (ulC ulR)))) (by decide) ?_
       refine GH.tk 1 (v := (.bool true)) rfl (by kernel_rfl) (fun _ _ _ h => h) (Ex.move rfl) (ulC (ulC (ulC (ulC ulR)))) (by decide) ?_
       refine GH.takeG 2 (tj := 196) (v := (.pointer (some ⟨bq31, 1, none⟩))) rfl rfl rfl (by kernel_rfl) (by kernel_rfl) (by kernel_rfl) (fun _ _ _ h => h) (Ex.cast (Ex.fieldAddr rfl Try.underlying25 rfl T.sz23 (by decide)) rfl) (ulC (ulC (ulC (ulC ulR)))) (by decide) ?_
       refine GH.takeG 3 (tj := 196) (v := (.slice (some ⟨xq29.b, 0, none⟩) n xq29.cap)) rfl rfl rfl (by kernel_rfl) (by kernel_rfl) (by kernel_rfl) (fun _ _ _ h => h) (Ex.cast (Ex.load rfl T.ag23 (i := 0) rfl rfl) (by rw [hbs.1, hbs.2.1, hbn])) (ulC (ulC (ulC (ulC ulR)))) (by decide) ?_
       refine GH.takeG 4 (tj := 196) (v := (.int .i64 (((i : Nat) : Int)))) rfl rfl rfl (by kernel_rfl) (by kernel_rfl) (by kernel_rfl) (fun _ _ _ h => h) (Ex.move rfl) (ulC (ulC (ulC (ulC ulR)))) (by decide) ?_
       refine GH.takeG 5 (tj := 196) (v := (.pointer (some ⟨xq29.b, i * 3, none⟩))) rfl rfl rfl (by kernel_rfl) (by kernel_rfl) (by kernel_rfl) (fun _ _ _ h => h) (Ex.cast (Ex.indexAddr rfl rfl Try.underlying23 T.sz43 (by omega) (by omega)) (by simp)) (ulC (ulC (ulC (ulC ulR)))) (by decide) ?_
       refine GH.takeG 6 (tj := 196) (v := (.pointer (some ⟨xq29.b, i * 3 + 2, none⟩))) rfl rfl rfl (by kernel_rfl) (by kernel_rfl) (by kernel_rfl) (fun _ _ _ h => h) (Ex.cast (Ex.fieldAddr rfl Try.underlying43 rfl T.sz41 (by decide)) rfl) (ulC (ulC (ulC (ulC ulR)))) (by decide) ?_
       refine GH.takeG 7 (tj := 196) (v := (.slice (some ⟨(nqAt xq29 i).b, 0, none⟩) A ((nqAt xq29 i).cap))) rfl rfl rfl (by kernel_rfl) (by kernel_rfl) (by kernel_rfl) (fun _ _ _ h => h) (Ex.loadF rfl T.ag41 (fun w hw => Kp.cell1 (Hp.seg (T := ([] : List Blk)) (A := [[_, _, _, _], xq29.blks 43 28, xq15.blks 43 28]) hw 1 rfl) (hnb.2) (hnb.1))) (ulC (ulC (ulC (ulC ulR)))) (by decide) ?_
       refine GH.takeG 8 (tj := 196) (v := (.int .i64 (((k : Nat) : Int)))) rfl rfl rfl (by kernel_rfl) (by kernel_rfl) (by kernel_rfl) (fun _ _ _ h => h) (Ex.move rfl) (ulC (ulC (ulC (ulC ulR)))) (by decide) ?_
       refine GH.takeG 9 (tj := 196) (v := (.pointer (some ⟨(nqAt xq29 i).b, k, none⟩))) rfl rfl rfl (by kernel_rfl) (by kernel_rfl) (by kernel_rfl) (fun _ _ _ h => h) (Ex.cast (Ex.indexAddr rfl rfl Try.underlying41 T.sz28 (by omega) (by omega)) (by simp)) (ulC (ulC (ulC (ulC ulR)))) (by decide) ?_
       refine GH.takeG 10 (tj := 196) (v := (.int .u32 (((trD Kp.mxF ps A i).2.2.getD k 0)))) rfl rfl rfl (by kernel_rfl) (by kernel_rfl) (by kernel_rfl) (fun _ _ _ h => h) (Ex.loadF rfl T.ag28 (fun w hw => Kp.cell2 (Hp.seg (T := ([] : List Blk)) (A := [[_, _, _, _], xq29.blks 43 28, xq15.blks 43 28]) hw 1 rfl) (hnb.2) (by rw [hnb.1]; omega) (by rw [hxb]))) (ulC (ulC (ulC (ulC ulR)))) (by decide) ?_
       refine GH.takeG 12 (tj := 196) (v := (.pointer (some ⟨bq1, 1, none⟩))) rfl rfl rfl (by kernel_rfl) (by kernel_rfl) (by kernel_rfl) (fun _ _ _ h => h) (Ex.cast (Ex.fieldAddr rfl Try.underlying25 rfl T.sz23 (by decide)) rfl) (ulC (ulC (ulC (ulC ulR)))) (by decide) ?_
       refine GH.takeG 13 (tj := 196) (v := (.slice (some ⟨b, o, none⟩) n cap)) rfl rfl rfl (by kernel_rfl) (by kernel_rfl) (by kernel_rfl) (fun _ _ _ h => h) (Ex.load rfl T.ag23 (i := 3) rfl rfl) (ulC (ulC (ulC (ulC ulR)))) (by decide) ?_
       refine GH.takeG 14 (tj := 196) (v := (.int .i64 (((i : Nat) : Int)))) rfl rfl rfl (by kernel_rfl) (by kernel_rfl) (by kernel_rfl) (fun _ _ _ h => h) (Ex.move rfl) (ulC (ulC (ulC (ulC ulR)))) (by decide) ?_
       refine GH.takeG 15 (tj := 196) (v := (.pointer (some ⟨b, o + i * 3, none⟩))) rfl rfl rfl (by kernel_rfl) (by kernel_rfl) (by kernel_rfl) (fun _ _ _ h => h) (Ex.cast (Ex.indexAddr rfl rfl Try.underlying23 T.sz43 (by omega) (by omega)) (by simp)) (ulC (ulC (ulC (ulC ulR)))) (by decide) ?_
       refine GH.takeG 16 (tj := 196) (v := (.pointer (some ⟨b, o + i * 3 + 2, none⟩))) rfl rfl rfl (by kernel_rfl) (by kernel_rfl) (by kernel_rfl) (fun _ _ _ h => h) (Ex.cast (Ex.fieldAddr rfl Try.underlying43 rfl T.sz41 (by decide)) rfl) (ulC (ulC (ulC (ulC ulR)))) (by decide) ?_
       refine GH.takeG 17 (tj := 196) (v := (.slice (some ⟨bp, op, none⟩) A ((pAt ps i).cap))) rfl rfl rfl (by kernel_rfl) (by kernel_rfl) (by kernel_rfl) (fun _ _ _ h => h) (Ex.loadO rfl T.ag41 (by have h := Pns.cell (i := i) (j := 2) (v := .slice (pAt ps i).ad (pAt ps i).n (pAt ps i).cap) hps (show i < ps.length by omega) (by decide) rfl; rw [ea, (hok.at (show i < ps.length by omega)).2.2, ← hA] at h; exact h) (fun x => x)) (ulC (ulC (ulC (ulC ulR)))) (by decide) ?_
       refine GH.takeG 18 (tj := 196) (v := (.int .i64 (((k : Nat) : Int)))) rfl rfl rfl (by kernel_rfl) (by kernel_rfl) (by kernel_rfl) (fun _ _ _ h => h) (Ex.move rfl) (ulC (ulC (ulC (ulC ulR)))) (by decide) ?_
       refine GH.takeG 19 (tj := 196) (v := (.pointer (some ⟨bp, op + k, none⟩))) rfl rfl rfl (by kernel_rfl) (by kernel_rfl) (by kernel_rfl) (fun _ _ _ h => h) (Ex.cast (Ex.indexAddr rfl rfl Try.underlying41 T.sz28 (by omega) (by omega)) (by simp)) (ulC (ulC (ulC (ulC ulR)))) (by decide) ?_
       refine GH.takeG 20 (tj := 196) (v := (.int .u32 (((pAt ps i).xs.getD k 0)))) rfl rfl rfl (by kernel_rfl) (by kernel_rfl) (by kernel_rfl) (fun _ _ _ h => h) (Ex.loadO rfl T.ag28 (Rd.at hrp (by omega)) (fun x => x)) (ulC (ulC (ulC (ulC ulR)))) (by decide) ?_
       refine GH.oneG 11 (tj := 196) rfl rfl rfl (by kernel_rfl) (Stp.callR (vs := [(.int .u32 (((trD Kp.mxF ps A i).2.2.getD k 0)))]) rfl rfl T.own16 (by decide) (fun wc hw => value_l (((trD Kp.mxF ps A i).2.2.getD k 0)) wc)) (fun _ => (ulC (ulC (ulC (ulC ulR))))) (fun xq39 hq40 => ?_)
       refine GH.oneG 21 (tj := 196) rfl rfl rfl (by kernel_rfl) (Stp.callR (vs := [(.int .u32 (((pAt ps i).xs.getD k 0)))]) rfl rfl T.own16 (by decide) (fun wc hw => value_l (((pAt ps i).xs.getD k 0)) wc)) (fun _ => (ulC (ulC (ulC (ulC ulR))))) (fun xq41 hq42 => ?_)
       refine GH.takeG 22 (tj := 196) (v := (.bool false)) rfl rfl rfl (by kernel_rfl) (by kernel_rfl) (by kernel_rfl) (fun _ _ _ h => h) (Ex.fneq (r := false) rfl rfl (Eq.trans (congrArg (fun o : Option Ordering => (o != some .eq)) (Fv.ord_eq hq40 hq42)) (Kp.keep hI hn3 hi3 hkA fx fy fz))) (ulC (ulC (ulC (ulC ulR)))) (by decide) ?_
       refine GH.tk 23 (v := (.bool false)) rfl (by kernel_rfl) (fun _ _ _ h => h) (Ex.pickT rfl rfl) (ulC (ulC (ulC (ulC ulR)))) (by decide) ?_
       refine GH.done (by kernel_rfl) ?_
       refine GE.thenN ?_
       refine GC.cond rfl (fun hq43 => by cases hq43) (fun _ => ?_)
       refine GC.skip (GE.blockN (GE.thenN (GC.region ?_)))
       refine GL.mv rfl (by decide) ?_
       refine GL.val (v := (.int .i64 (((k + 1 : Nat) : Int)))) (Ex.add rfl rfl (Z := ((k + 1 : Nat) : Int)) (by rw [w64 (by omega)]; rfl)) (by decide) ?_
       refine GL.sg rfl (by decide) ?_
       refine GL.nil (GE.thenN ?_)
       exact Head.mk (k + 1) (by omega) (by omega) ((sub_cons rfl ((sub_cons rfl ((sub_cons rfl ((sub_cons rfl ((sub_cons rfl ((sub_cons rfl ((sub_cons rfl ((sub_cons rfl ((sub_cons rfl ((sub_cons rfl ((sub_cons rfl ((sub_nil _)))))))))))))))))))))))) (ulC (ulC (ulC (ulC ulR))))
      ·refine GC.draw (⟨bq31, [(.int .i64 ((picS (Kp.mxE n) sp))), (.slice xq29.ad xq29.n xq29.cp)], 25, true⟩ :: ⟨bq17, [(.int .i64 sp), (.slice (some ⟨xq15.b, 0, none⟩) n xq15.cap)], 25, true⟩ :: ⟨bq2, [(.int .i64 sq), (.slice (some ⟨b2, o2, none⟩) m c2)], 25, true⟩ :: ⟨bq1, [(.int .i64 sp), (.slice (some ⟨b, o, none⟩) n cap)], 25, true⟩ :: (xq29.blks 43 28 ++ (xq15.blks 43 28 ++ ([] : List Blk)))) T.mixed (fuel := 24) rfl rfl ?_
       refine GH.tk 0 (v := (.bool false)) rfl (by kernel_rfl) (fun _ _ _ h => h) (Ex.cast (Ex.move rfl) (congrArg Value.bool (decide_eq_false (by exact fz)))) (ulC (ulC (ulC (ulC ulR)))) (by decide) ?_
       refine GH.tk 1 (v := (.bool false)) rfl (by kernel_rfl) (fun _ _ _ h => h) (Ex.move rfl) (ulC (ulC (ulC (ulC ulR)))) (by decide) ?_
       refine GH.skipG 2 (tj := 196) rfl rfl rfl rfl (by kernel_rfl) (by kernel_rfl) (by kernel_rfl) (fun _ _ _ h => h) (ulC (ulC (ulC (ulC ulR)))) (by decide) ?_
       refine GH.skipG 3 (tj := 196) rfl rfl rfl rfl (by kernel_rfl) (by kernel_rfl) (by kernel_rfl) (fun _ _ _ h => h) (ulC (ulC (ulC (ulC ulR)))) (by decide) ?_
       refine GH.skipG 4 (tj := 196) rfl rfl rfl rfl (by kernel_rfl) (by kernel_rfl) (by kernel_rfl) (fun _ _ _ h => h) (ulC (ulC (ulC (ulC ulR)))) (by decide) ?_
       refine GH.skipG 5 (tj := 196) rfl rfl rfl rfl (by kernel_rfl) (by kernel_rfl) (by kernel_rfl) (fun _ _ _ h => h) (ulC (ulC (ulC (ulC ulR)))) (by decide) ?_
       refine GH.skipG 6 (tj := 196) rfl rfl rfl rfl (by kernel_rfl) (by kernel_rfl) (by kernel_rfl) (fun _ _ _ h => h) (ulC (ulC (ulC (ulC ulR)))) (by decide) ?_
       refine GH.skipG 7 (tj := 196) rfl rfl rfl rfl (by kernel_rfl) (by kernel_rfl) (by kernel_rfl) (fun _ _ _ h => h) (ulC (ulC (ulC (ulC ulR)))) (by decide) ?_
       refine GH.skipG 8 (tj := 196) rfl rfl rfl rfl (by kernel_rfl) (by kernel_rfl) (by kernel_rfl) (fun _ _ _ h => h) (ulC (ulC (ulC (ulC ulR)))) (by decide) ?_
       refine GH.skipG 9 (tj := 196) rfl rfl rfl rfl (by kernel_rfl) (by kernel_rfl) (by kernel_rfl) (fun _ _ _ h => h) (ulC (ulC (ulC (ulC ulR)))) (by decide) ?_
       refine GH.skipG 10 (tj := 196) rfl rfl rfl rfl (by kernel_rfl) (by kernel_rfl) (by kernel_rfl) (fun _ _ _ h => h) (ulC (ulC (ulC (ulC ulR)))) (by decide) ?_
       refine GH.skipG 11 (tj := 196) rfl rfl rfl rfl (by kernel_rfl) (by kernel_rfl) (by kernel_rfl) (fun _ _ _ h => h) (ulC (ulC (ulC (ulC ulR)))) (by decide) ?_
       refine GH.skipG 12 (tj := 196) rfl rfl rfl rfl (by kernel_rfl) (by kernel_rfl) (by kernel_rfl) (fun _ _ _ h => h) (ulC (ulC (ulC (ulC ulR)))) (by decide) ?_
       refine GH.skipG 13 (tj := 196) rfl rfl rfl rfl (by kernel_rfl) (by kernel_rfl) (by kernel_rfl) (fun _ _ _ h => h) (ulC (ulC (ulC (ulC ulR)))) (by decide) ?_
       refine GH.skipG 14 (tj := 196) rfl rfl rfl rfl (by kernel_rfl) (by kernel_rfl) (by kernel_rfl) (fun _ _ _ h => h) (ulC (ulC (ulC (ulC ulR)))) (by decide) ?_
       refine GH.skipG 15 (tj := 196) rfl rfl rfl rfl (by kernel_rfl) (by kernel_rfl) (by kernel_rfl) (fun _ _ _ h => h) (ulC (ulC (ulC (ulC ulR)))) (by decide) ?_
       refine GH.skipG 16 (tj := 196) rfl rfl rfl rfl (by kernel_rfl) (by kernel_rfl) (by kernel_rfl) (fun _ _ _ h => h) (ulC (ulC (ulC (ulC ulR)))) (by decide) ?_
       refine GH.skipG 17 (tj := 196) rfl rfl rfl rfl (by kernel_rfl) (by kernel_rfl) (by kernel_rfl) (fun _ _ _ h => h) (ulC (ulC (ulC (ulC ulR)))) (by decide) ?_
       refine GH.skipG 18 (tj := 196) rfl rfl rfl rfl (by kernel_rfl) (by kernel_rfl) (by kernel_rfl) (fun _ _ _ h => h) (ulC (ulC (ulC (ulC ulR)))) (by decide) ?_
       refine GH.skipG 19 (tj := 196) rfl rfl rfl rfl (by kernel_rfl) (by kernel_rfl) (by kernel_rfl) (fun _ _ _ h => h) (ulC (ulC (ulC (ulC ulR)))) (by decide) ?_
       refine GH.skipG 20 (tj := 196) rfl rfl rfl rfl (by kernel_rfl) (by kernel_rfl) (by kernel_rfl) (fun _ _ _ h => h) (ulC (ulC (ulC (ulC ulR)))) (by decide) ?_
       refine GH.skipG 21 (tj := 196) rfl rfl rfl rfl (by kernel_rfl) (by kernel_rfl) (by kernel_rfl) (fun _ _ _ h => h) (ulC (ulC (ulC (ulC ulR)))) (by decide) ?_
       refine GH.skipG 22 (tj := 196) rfl rfl rfl rfl (by kernel_rfl) (by kernel_rfl) (by kernel_rfl) (fun _ _ _ h => h) (ulC (ulC (ulC (ulC ulR)))) (by decide) ?_
       refine GH.tk 23 (v := (.bool false)) rfl (by kernel_rfl) (fun _ _ _ h => h) (Ex.pickF rfl rfl) (ulC (ulC (ulC (ulC ulR)))) (by decide) ?_
       refine GH.done (by kernel_rfl) ?_
       refine GE.thenN ?_
       refine GC.cond rfl (fun hq44 => by cases hq44) (fun _ => ?_)
       refine GC.skip (GE.blockN (GE.thenN (GC.region ?_)))
       refine GL.mv rfl (by decide) ?_
       refine GL.val (v := (.int .i64 (((k + 1 : Nat) : Int)))) (Ex.add rfl rfl (Z := ((k + 1 : Nat) : Int)) (by rw [w64 (by omega)]; rfl)) (by decide) ?_
       refine GL.sg rfl (by decide) ?_
       refine GL.nil (GE.thenN ?_)
       exact Head.mk (k + 1) (by omega) (by omega) ((sub_cons rfl ((sub_cons rfl ((sub_cons rfl ((sub_cons rfl ((sub_cons rfl ((sub_cons rfl ((sub_cons rfl ((sub_cons rfl ((sub_cons rfl ((sub_cons rfl ((sub_cons rfl ((sub_nil _)))))))))))))))))))))))) (ulC (ulC (ulC (ulC ulR))))
     ·refine GL.stepG (tj := 183) rfl rfl (Ex.wp (v := (.bool false)) (Ex.cast (Ex.neq rfl rfl) (congrArg Value.bool (decide_eq_false hq38))) (by decide)) (fun _ _ => ?_)
      refine GL.val (v := (.bool false)) (Ex.pickT rfl rfl) (by decide) ?_
      refine GL.mv rfl (by decide) ?_
      refine GL.skipG (tj := 189) rfl rfl rfl (by decide) ?_
      refine GL.skipG (tj := 189) rfl rfl rfl (by decide) ?_
      refine GL.skipG (tj := 189) rfl rfl rfl (by decide) ?_
      refine GL.skipG (tj := 189) rfl rfl rfl (by decide) ?_
      refine GL.val (v := (.bool false)) (Ex.pickF rfl rfl) (by decide) ?_
      refine GL.sg rfl (by decide) ?_
      refine GL.nil (GE.thenN (GC.seq ?_))
      refine GC.draw (⟨bq31, [(.int .i64 ((picS (Kp.mxE n) sp))), (.slice xq29.ad xq29.n xq29.cp)], 25, true⟩ :: ⟨bq17, [(.int .i64 sp), (.slice (some ⟨xq15.b, 0, none⟩) n xq15.cap)], 25, true⟩ :: ⟨bq2, [(.int .i64 sq), (.slice (some ⟨b2, o2, none⟩) m c2)], 25, true⟩ :: ⟨bq1, [(.int .i64 sp), (.slice (some ⟨b, o, none⟩) n cap)], 25, true⟩ :: (xq29.blks 43 28 ++ (xq15.blks 43 28 ++ ([] : List Blk)))) T.mixed (fuel := 24) rfl rfl ?_
      refine GH.tk 0 (v := (.bool false)) rfl (by kernel_rfl) (fun _ _ _ h => h) (Ex.move rfl) (ulC (ulC (ulC (ulC ulR)))) (by decide) ?_
      refine GH.tk 1 (v := (.bool false)) rfl (by kernel_rfl) (fun _ _ _ h => h) (Ex.move rfl) (ulC (ulC (ulC (ulC ulR)))) (by decide) ?_
      refine GH.skipG 2 (tj := 196) rfl rfl rfl rfl (by kernel_rfl) (by kernel_rfl) (by kernel_rfl) (fun _ _ _ h => h) (ulC (ulC (ulC (ulC ulR)))) (by decide) ?_
      refine GH.skipG 3 (tj := 196) rfl rfl rfl rfl (by kernel_rfl) (by kernel_rfl) (by kernel_rfl) (fun _ _ _ h => h) (ulC (ulC (ulC (ulC ulR)))) (by decide) ?_
      refine GH.skipG 4 (tj := 196) rfl rfl rfl rfl (by kernel_rfl) (by kernel_rfl) (by kernel_rfl) (fun _ _ _ h => h) (ulC (ulC (ulC (ulC ulR)))) (by decide) ?_
      refine GH.skipG 5 (tj := 196) rfl rfl rfl rfl (by kernel_rfl) (by kernel_rfl) (by kernel_rfl) (fun _ _ _ h => h) (ulC (ulC (ulC (ulC ulR)))) (by decide) ?_
      refine GH.skipG 6 (tj := 196) rfl rfl rfl rfl (by kernel_rfl) (by kernel_rfl) (by kernel_rfl) (fun _ _ _ h => h) (ulC (ulC (ulC (ulC ulR)))) (by decide) ?_
      refine GH.skipG 7 (tj := 196) rfl rfl rfl rfl (by kernel_rfl) (by kernel_rfl) (by kernel_rfl) (fun _ _ _ h => h) (ulC (ulC (ulC (ulC ulR)))) (by decide) ?_
      refine GH.skipG 8 (tj := 196) rfl rfl rfl rfl (by kernel_rfl) (by kernel_rfl) (by kernel_rfl) (fun _ _ _ h => h) (ulC (ulC (ulC (ulC ulR)))) (by decide) ?_
      refine GH.skipG 9 (tj := 196) rfl rfl rfl rfl (by kernel_rfl) (by kernel_rfl) (by kernel_rfl) (fun _ _ _ h => h) (ulC (ulC (ulC (ulC ulR)))) (by decide) ?_
      refine GH.skipG 10 (tj := 196) rfl rfl rfl rfl (by kernel_rfl) (by kernel_rfl) (by kernel_rfl) (fun _ _ _ h => h) (ulC (ulC (ulC (ulC ulR)))) (by decide) ?_
      refine GH.skipG 11 (tj := 196) rfl rfl rfl rfl (by kernel_rfl) (by kernel_rfl) (by kernel_rfl) (fun _ _ _ h => h) (ulC (ulC (ulC (ulC ulR)))) (by decide) ?_
      refine GH.skipG 12 (tj := 196) rfl rfl rfl rfl (by kernel_rfl) (by kernel_rfl) (by kernel_rfl) (fun _ _ _ h => h) (ulC (ulC (ulC (ulC ulR)))) (by decide) ?_
      refine GH.skipG 13 (tj := 196) rfl rfl rfl rfl (by kernel_rfl) (by kernel_rfl) (by kernel_rfl) (fun _ _ _ h => h) (ulC (ulC (ulC (ulC ulR)))) (by decide) ?_
      refine GH.skipG 14 (tj := 196) rfl rfl rfl rfl (by kernel_rfl) (by kernel_rfl) (by kernel_rfl) (fun _ _ _ h => h) (ulC (ulC (ulC (ulC ulR)))) (by decide) ?_
      refine GH.skipG 15 (tj := 196) rfl rfl rfl rfl (by kernel_rfl) (by kernel_rfl) (by kernel_rfl) (fun _ _ _ h => h) (ulC (ulC (ulC (ulC ulR)))) (by decide) ?_
      refine GH.skipG 16 (tj := 196) rfl rfl rfl rfl (by kernel_rfl) (by kernel_rfl) (by kernel_rfl) (fun _ _ _ h => h) (ulC (ulC (ulC (ulC ulR)))) (by decide) ?_
      refine GH.skipG 17 (tj := 196) rfl rfl rfl rfl (by kernel_rfl) (by kernel_rfl) (by kernel_rfl) (fun _ _ _ h => h) (ulC (ulC (ulC (ulC ulR)))) (by decide) ?_
      refine GH.skipG 18 (tj := 196) rfl rfl rfl rfl (by kernel_rfl) (by kernel_rfl) (by kernel_rfl) (fun _ _ _ h => h) (ulC (ulC (ulC (ulC ulR)))) (by decide) ?_
      refine GH.skipG 19 (tj := 196) rfl rfl rfl rfl (by kernel_rfl) (by kernel_rfl) (by kernel_rfl) (fun _ _ _ h => h) (ulC (ulC (ulC (ulC ulR)))) (by decide) ?_
      refine GH.skipG 20 (tj := 196) rfl rfl rfl rfl (by kernel_rfl) (by kernel_rfl) (by kernel_rfl) (fun _ _ _ h => h) (ulC (ulC (ulC (ulC ulR)))) (by decide) ?_
      refine GH.skipG 21 (tj := 196) rfl rfl rfl rfl (by kernel_rfl) (by kernel_rfl) (by kernel_rfl) (fun _ _ _ h => h) (ulC (ulC (ulC (ulC ulR)))) (by decide) ?_
      refine GH.skipG 22 (tj := 196) rfl rfl rfl rfl (by kernel_rfl) (by kernel_rfl) (by kernel_rfl) (fun _ _ _ h => h) (ulC (ulC (ulC (ulC ulR)))) (by decide) ?_
      refine GH.tk 23 (v := (.bool false)) rfl (by kernel_rfl) (fun _ _ _ h => h) (Ex.pickF rfl rfl) (ulC (ulC (ulC (ulC ulR)))) (by decide) ?_
      refine GH.done (by kernel_rfl) ?_
      refine GE.thenN ?_
      refine GC.cond rfl (fun hq45 => by cases hq45) (fun _ => ?_)
      refine GC.skip (GE.blockN (GE.thenN (GC.region ?_)))
      refine GL.mv rfl (by decide) ?_
      refine GL.val (v := (.int .i64 (((k + 1 : Nat) : Int)))) (Ex.add rfl rfl (Z := ((k + 1 : Nat) : Int)) (by rw [w64 (by omega)]; rfl)) (by decide) ?_
      refine GL.sg rfl (by decide) ?_
      refine GL.nil (GE.thenN ?_)
      exact Head.mk (k + 1) (by omega) (by omega) ((sub_cons rfl ((sub_cons rfl ((sub_cons rfl ((sub_cons rfl ((sub_cons rfl ((sub_cons rfl ((sub_cons rfl ((sub_cons rfl ((sub_cons rfl ((sub_cons rfl ((sub_cons rfl ((sub_nil _)))))))))))))))))))))))) (ulC (ulC (ulC (ulC ulR))))
    ·refine GL.val (v := (.bool false)) (Ex.cast (Ex.neq rfl rfl) (congrArg Value.bool (decide_eq_false hq37))) (by decide) ?_
     refine GL.mv rfl (by decide) ?_
     refine GL.skipG (tj := 183) rfl rfl rfl (by decide) ?_
     refine GL.skipG (tj := 183) rfl rfl rfl (by decide) ?_
     refine GL.skipG (tj := 183) rfl rfl rfl (by decide) ?_
     refine GL.skipG (tj := 183) rfl rfl rfl (by decide) ?_
     refine GL.val (v := (.bool false)) (Ex.pickF rfl rfl) (by decide) ?_
     refine GL.mv rfl (by decide) ?_
     refine GL.skipG (tj := 189) rfl rfl rfl (by decide) ?_
     refine GL.skipG (tj := 189) rfl rfl rfl (by decide) ?_
     refine GL.skipG (tj := 189) rfl rfl rfl (by decide) ?_
     refine GL.skipG (tj := 189) rfl rfl rfl (by decide) ?_
     refine GL.val (v := (.bool false)) (Ex.pickF rfl rfl) (by decide) ?_
     refine GL.sg rfl (by decide) ?_
     refine GL.nil (GE.thenN (GC.seq ?_))
     refine GC.draw (⟨bq31, [(.int .i64 ((picS (Kp.mxE n) sp))), (.slice xq29.ad xq29.n xq29.cp)], 25, true⟩ :: ⟨bq17, [(.int .i64 sp), (.slice (some ⟨xq15.b, 0, none⟩) n xq15.cap)], 25, true⟩ :: ⟨bq2, [(.int .i64 sq), (.slice (some ⟨b2, o2, none⟩) m c2)], 25, true⟩ :: ⟨bq1, [(.int .i64 sp), (.slice (some ⟨b, o, none⟩) n cap)], 25, true⟩ :: (xq29.blks 43 28 ++ (xq15.blks 43 28 ++ ([] : List Blk)))) T.mixed (fuel := 24) rfl rfl ?_
     refine GH.tk 0 (v := (.bool false)) rfl (by kernel_rfl) (fun _ _ _ h => h) (Ex.move rfl) (ulC (ulC (ulC (ulC ulR)))) (by decide) ?_
     refine GH.tk 1 (v := (.bool false)) rfl (by kernel_rfl) (fun _ _ _ h => h) (Ex.move rfl) (ulC (ulC (ulC (ulC ulR)))) (by decide) ?_
     refine GH.skipG 2 (tj := 196) rfl rfl rfl rfl (by kernel_rfl) (by kernel_rfl) (by kernel_rfl) (fun _ _ _ h => h) (ulC (ulC (ulC (ulC ulR)))) (by decide) ?_
     refine GH.skipG 3 (tj := 196) rfl rfl rfl rfl (by kernel_rfl) (by kernel_rfl) (by kernel_rfl) (fun _ _ _ h => h) (ulC (ulC (ulC (ulC ulR)))) (by decide) ?_
     refine GH.skipG 4 (tj := 196) rfl rfl rfl rfl (by kernel_rfl) (by kernel_rfl) (by kernel_rfl) (fun _ _ _ h => h) (ulC (ulC (ulC (ulC ulR)))) (by decide) ?_
     refine GH.skipG 5 (tj := 196) rfl rfl rfl rfl (by kernel_rfl) (by kernel_rfl) (by kernel_rfl) (fun _ _ _ h => h) (ulC (ulC (ulC (ulC ulR)))) (by decide) ?_
     refine GH.skipG 6 (tj := 196) rfl rfl rfl rfl (by kernel_rfl) (by kernel_rfl) (by kernel_rfl) (fun _ _ _ h => h) (ulC (ulC (ulC (ulC ulR)))) (by decide) ?_
     refine GH.skipG 7 (tj := 196) rfl rfl rfl rfl (by kernel_rfl) (by kernel_rfl) (by kernel_rfl) (fun _ _ _ h => h) (ulC (ulC (ulC (ulC ulR)))) (by decide) ?_
     refine GH.skipG 8 (tj := 196) rfl rfl rfl rfl (by kernel_rfl) (by kernel_rfl) (by kernel_rfl) (fun _ _ _ h => h) (ulC (ulC (ulC (ulC ulR)))) (by decide) ?_
     refine GH.skipG 9 (tj := 196) rfl rfl rfl rfl (by kernel_rfl) (by kernel_rfl) (by kernel_rfl) (fun _ _ _ h => h) (ulC (ulC (ulC (ulC ulR)))) (by decide) ?_
     refine GH.skipG 10 (tj := 196) rfl rfl rfl rfl (by kernel_rfl) (by kernel_rfl) (by kernel_rfl) (fun _ _ _ h => h) (ulC (ulC (ulC (ulC ulR)))) (by decide) ?_
     refine GH.skipG 11 (tj := 196) rfl rfl rfl rfl (by kernel_rfl) (by kernel_rfl) (by kernel_rfl) (fun _ _ _ h => h) (ulC (ulC (ulC (ulC ulR)))) (by decide) ?_
     refine GH.skipG 12 (tj := 196) rfl rfl rfl rfl (by kernel_rfl) (by kernel_rfl) (by kernel_rfl) (fun _ _ _ h => h) (ulC (ulC (ulC (ulC ulR)))) (by decide) ?_
     refine GH.skipG 13 (tj := 196) rfl rfl rfl rfl (by kernel_rfl) (by kernel_rfl) (by kernel_rfl) (fun _ _ _ h => h) (ulC (ulC (ulC (ulC ulR)))) (by decide) ?_
     refine GH.skipG 14 (tj := 196) rfl rfl rfl rfl (by kernel_rfl) (by kernel_rfl) (by kernel_rfl) (fun _ _ _ h => h) (ulC (ulC (ulC (ulC ulR)))) (by decide) ?_
     refine GH.skipG 15 (tj := 196) rfl rfl rfl rfl (by kernel_rfl) (by kernel_rfl) (by kernel_rfl) (fun _ _ _ h => h) (ulC (ulC (ulC (ulC ulR)))) (by decide) ?_
     refine GH.skipG 16 (tj := 196) rfl rfl rfl rfl (by kernel_rfl) (by kernel_rfl) (by kernel_rfl) (fun _ _ _ h => h) (ulC (ulC (ulC (ulC ulR)))) (by decide) ?_
     refine GH.skipG 17 (tj := 196) rfl rfl rfl rfl (by kernel_rfl) (by kernel_rfl) (by kernel_rfl) (fun _ _ _ h => h) (ulC (ulC (ulC (ulC ulR)))) (by decide) ?_
     refine GH.skipG 18 (tj := 196) rfl rfl rfl rfl (by kernel_rfl) (by kernel_rfl) (by kernel_rfl) (fun _ _ _ h => h) (ulC (ulC (ulC (ulC ulR)))) (by decide) ?_
     refine GH.skipG 19 (tj := 196) rfl rfl rfl rfl (by kernel_rfl) (by kernel_rfl) (by kernel_rfl) (fun _ _ _ h => h) (ulC (ulC (ulC (ulC ulR)))) (by decide) ?_
     refine GH.skipG 20 (tj := 196) rfl rfl rfl rfl (by kernel_rfl) (by kernel_rfl) (by kernel_rfl) (fun _ _ _ h => h) (ulC (ulC (ulC (ulC ulR)))) (by decide) ?_
     refine GH.skipG 21 (tj := 196) rfl rfl rfl rfl (by kernel_rfl) (by kernel_rfl) (by kernel_rfl) (fun _ _ _ h => h) (ulC (ulC (ulC (ulC ulR)))) (by decide) ?_
     refine GH.skipG 22 (tj := 196) rfl rfl rfl rfl (by kernel_rfl) (by kernel_rfl) (by kernel_rfl) (fun _ _ _ h => h) (ulC (ulC (ulC (ulC ulR)))) (by decide) ?_
     refine GH.tk 23 (v := (.bool false)) rfl (by kernel_rfl) (fun _ _ _ h => h) (Ex.pickF rfl rfl) (ulC (ulC (ulC (ulC ulR)))) (by decide) ?_
     refine GH.done (by kernel_rfl) ?_
     refine GE.thenN ?_
     refine GC.cond rfl (fun hq46 => by cases hq46) (fun _ => ?_)
     refine GC.skip (GE.blockN (GE.thenN (GC.region ?_)))
     refine GL.mv rfl (by decide) ?_
     refine GL.val (v := (.int .i64 (((k + 1 : Nat) : Int)))) (Ex.add rfl rfl (Z := ((k + 1 : Nat) : Int)) (by rw [w64 (by omega)]; rfl)) (by decide) ?_
     refine GL.sg rfl (by decide) ?_
     refine GL.nil (GE.thenN ?_)
     exact Head.mk (k + 1) (by omega) (by omega) ((sub_cons rfl ((sub_cons rfl ((sub_cons rfl ((sub_cons rfl ((sub_cons rfl ((sub_cons rfl ((sub_cons rfl ((sub_cons rfl ((sub_cons rfl ((sub_cons rfl ((sub_cons rfl ((sub_nil _)))))))))))))))))))))))) (ulC (ulC (ulC (ulC ulR))))
   ·replace hq36 := of_decide_eq_false hq36
    refine GC.exit (GE.thenE (GE.thenE (GE.blockE (GE.blockN (GE.thenN (GC.region ?_))))))
    refine GL.mv rfl (by decide) ?_
    refine GL.val (v := (.int .i64 (((i + 1 : Nat) : Int)))) (Ex.add rfl rfl (Z := ((i + 1 : Nat) : Int)) (by rw [w64 (by omega)]; rfl)) (by decide) ?_
    refine GL.sg rfl (by decide) ?_
    refine GL.nil (GE.thenN ?_)
    exact Head.mk (i + 1) (by omega) (by omega) ((sub_cons rfl ((sub_cons rfl ((sub_cons rfl ((sub_cons rfl ((sub_cons rfl ((sub_cons rfl ((sub_cons rfl ((sub_cons rfl ((sub_cons rfl ((sub_cons rfl ((sub_nil _)))))))))))))))))))))) (ulC (ulC (ulC (ulC ulR))))
  ·refine GC.exit (GE.thenE (GE.thenE (GE.blockE (GE.thenN (GC.seq (GC.region ?_))))))
   refine GL.val (v := (.pointer (some ⟨bq1, 0, none⟩))) (Ex.cast (Ex.fieldAddr rfl Try.underlying25 rfl T.sz3 (by decide)) rfl) (by decide) ?_
   refine GL.val (Ex.load rfl T.ag3 (i := 3) rfl rfl) (by decide) ?_
   refine GL.mv rfl (by decide) ?_
   refine GL.mv rfl (by decide) ?_
   refine GL.mv rfl (by decide) ?_
   refine GL.mv rfl (by decide) ?_
   refine GL.step (Stp.call (vs := [(.int .i64 sp), (.int .i64 ((n : Int))), (.int .i64 (((W : Nat) : Int))), (.int .i64 (((H : Nat) : Int))), (.int .u32 lo)]) rfl rfl T.own17 (by decide) (fun wc hw => (Ret.frm (L' := fun x => (⟨bq31, [(.int .i64 ((picS (Kp.mxE n) sp))), (.slice xq29.ad xq29.n xq29.cp)], 25, true⟩ :: ⟨bq17, [(.int .i64 sp), (.slice (some ⟨xq15.b, 0, none⟩) n xq15.cap)], 25, true⟩ :: ⟨bq2, [(.int .i64 sq), (.slice (some ⟨b2, o2, none⟩) m c2)], 25, true⟩ :: ⟨bq1, [(.int .i64 sp), (.slice (some ⟨b, o, none⟩) n cap)], 25, true⟩ :: (x.blks 43 28 ++ (xq29.blks 43 28 ++ (xq15.blks 43 28 ++ ([] : List Blk)))))) hw (new_k sp lo n W H wc ⟨by omega, by omega⟩ hok.ok hsp) (fun x w' _ h => by exact Hp.segsT (T := ([] : List Blk)) (A := [x.blks 43 28, [⟨bq31, [(.int .i64 ((picS (Kp.mxE n) sp))), (.slice xq29.ad xq29.n xq29.cp)], 25, true⟩, ⟨bq17, [(.int .i64 sp), (.slice (some ⟨xq15.b, 0, none⟩) n xq15.cap)], 25, true⟩, ⟨bq2, [(.int .i64 sq), (.slice (some ⟨b2, o2, none⟩) m c2)], 25, true⟩, ⟨bq1, [(.int .i64 sp), (.slice (some ⟨b, o, none⟩) n cap)], 25, true⟩], xq29.blks 43 28, xq15.blks 43 28]) (idx := [1, 0, 2, 3]) 4 [] h rfl (by decide) rfl)))) (fun xq47 hq48 => ?_)
   refine GL.mv rfl (by decide) ?_
   refine GL.val (Ex.extract rfl rfl) (by decide) ?_
   refine GL.val (Ex.extract rfl rfl) (by decide) ?_
   refine GL.step (Stp.alloc T.zr25 (by decide)) (fun bq49 _ => ?_)
   refine GL.step (Stp.st0 (cs' := [(.int .i64 sp), (.slice xq47.ad n xq47.cp)]) rfl rfl rfl T.sz25 rfl rfl rfl) (fun _ _ => ?_)
   refine GL.sg rfl (by decide) ?_
   refine GL.nil (GE.thenN (GC.seq (GC.region ?_)))
   refine GL.val (v := (.pointer (some ⟨bq1, 0, none⟩))) (Ex.cast (Ex.fieldAddr rfl Try.underlying25 rfl T.sz3 (by decide)) rfl) (by decide) ?_
   refine GL.val (Ex.load rfl T.ag3 (i := 4) rfl rfl) (by decide) ?_
   refine GL.mv rfl (by decide) ?_
   refine GL.mv rfl (by decide) ?_
   refine GL.mv rfl (by decide) ?_
   refine GL.mv rfl (by decide) ?_
   refine GL.step (Stp.call (vs := [(.int .i64 sp), (.int .i64 ((n : Int))), (.int .i64 (((W : Nat) : Int))), (.int .i64 (((H : Nat) : Int))), (.int .u32 hi)]) rfl rfl T.own17 (by decide) (fun wc hw => (Ret.frm (L' := fun x => (⟨bq49, [(.int .i64 sp), (.slice xq47.ad n xq47.cp)], 25, true⟩ :: ⟨bq31, [(.int .i64 ((picS (Kp.mxE n) sp))), (.slice xq29.ad xq29.n xq29.cp)], 25, true⟩ :: ⟨bq17, [(.int .i64 sp), (.slice (some ⟨xq15.b, 0, none⟩) n xq15.cap)], 25, true⟩ :: ⟨bq2, [(.int .i64 sq), (.slice (some ⟨b2, o2, none⟩) m c2)], 25, true⟩ :: ⟨bq1, [(.int .i64 sp), (.slice (some ⟨b, o, none⟩) n cap)], 25, true⟩ :: (x.blks 43 28 ++ (xq47.blks 43 28 ++ (xq29.blks 43 28 ++ (xq15.blks 43 28 ++ ([] : List Blk))))))) hw (new_k sp hi n W H wc ⟨by omega, by omega⟩ hok.ok hsp) (fun x w' _ h => by exact Hp.segsT (T := ([] : List Blk)) (A := [x.blks 43 28, [⟨bq49, [(.int .i64 sp), (.slice xq47.ad n xq47.cp)], 25, true⟩, ⟨bq31, [(.int .i64 ((picS (Kp.mxE n) sp))), (.slice xq29.ad xq29.n xq29.cp)], 25, true⟩, ⟨bq17, [(.int .i64 sp), (.slice (some ⟨xq15.b, 0, none⟩) n xq15.cap)], 25, true⟩, ⟨bq2, [(.int .i64 sq), (.slice (some ⟨b2, o2, none⟩) m c2)], 25, true⟩, ⟨bq1, [(.int .i64 sp), (.slice (some ⟨b, o, none⟩) n cap)], 25, true⟩], xq47.blks 43 28, xq29.blks 43 28, xq15.blks 43 28]) (idx := [1, 0, 2, 3, 4]) 5 [] h rfl (by decide) rfl)))) (fun xq50 hq51 => ?_)
   refine GL.mv rfl (by decide) ?_
   refine GL.val (Ex.extract rfl rfl) (by decide) ?_
   refine GL.val (Ex.extract rfl rfl) (by decide) ?_
   refine GL.step (Stp.alloc T.zr25 (by decide)) (fun bq52 _ => ?_)
   refine GL.step (Stp.st0 (cs' := [(.int .i64 sp), (.slice xq50.ad n xq50.cp)]) rfl rfl rfl T.sz25 rfl rfl rfl) (fun _ _ => ?_)
   refine GL.sg rfl (by decide) ?_
   refine GL.nil (GE.thenN (GC.seq (GC.region ?_)))
   refine GL.val (v := (.agg #[(.int .i64 sp), (.slice (some ⟨b, o, none⟩) n cap)])) (Ex.loadA rfl T.ag25 T.sz25 (i := 5) rfl (vs := [(.int .i64 sp), (.slice (some ⟨b, o, none⟩) n cap)]) rfl rfl) (by decide) ?_
   refine GL.val (v := (.agg #[(.int .i64 sp), (.slice xq47.ad n xq47.cp)])) (Ex.loadA rfl T.ag25 T.sz25 (i := 1) rfl (vs := [(.int .i64 sp), (.slice xq47.ad n xq47.cp)]) rfl rfl) (by decide) ?_
   refine GL.step (Stp.call (vs := [(.int .i64 5), (.agg #[(.int .i64 sp), (.slice (some ⟨b, o, none⟩) n cap)]), (.agg #[(.int .i64 sp), (.slice xq47.ad n xq47.cp)])]) rfl rfl T.own15 (by decide) (fun wc hw => (Ret.frm (L' := fun x => (⟨bq52, [(.int .i64 sp), (.slice xq50.ad n xq50.cp)], 25, true⟩ :: ⟨bq49, [(.int .i64 sp), (.slice xq47.ad n xq47.cp)], 25, true⟩ :: ⟨bq31, [(.int .i64 ((picS (Kp.mxE n) sp))), (.slice xq29.ad xq29.n xq29.cp)], 25, true⟩ :: ⟨bq17, [(.int .i64 sp), (.slice (some ⟨xq15.b, 0, none⟩) n xq15.cap)], 25, true⟩ :: ⟨bq2, [(.int .i64 sq), (.slice (some ⟨b2, o2, none⟩) m c2)], 25, true⟩ :: ⟨bq1, [(.int .i64 sp), (.slice (some ⟨b, o, none⟩) n cap)], 25, true⟩ :: (x.blks 43 28 ++ (xq50.blks 43 28 ++ (xq47.blks 43 28 ++ (xq29.blks 43 28 ++ (xq15.blks 43 28 ++ ([] : List Blk)))))))) hw (two_a 5 sp (some ⟨b, o, none⟩) n cap ps W H xq47.ad xq47.cp xq47.pl 88 Bt.gst wc (hps.later hw.1).a hn hok (Kp.Gd.pa (W := W) (H := H) (Kp.one1_gd hA hlo) hq48.2.1 hAb (Hp.seg (T := ([] : List Blk)) (A := [[_, _, _, _, _, _], xq50.blks 43 28, xq47.blks 43 28, xq29.blks 43 28, xq15.blks 43 28]) hw 2 rfl)) (by rw [Ac.pl_len, ← Ac.ds_len, hq48.2.1]; simp) (Kp.Gd.ok (Kp.one1_gd hA hlo) hq48.2.1 (by omega) (by omega) hok.ok hA hsp) (fun w' => two_f5 w') (fun i hi => ⟨T.own88, fun x hx y hy w' _ => greatest_p x y w' ((hI.as i hi).2.2.2 x hx) (((Kp.one1_gd hA hlo).as hq48.2.1 i hi).2.2.2 y hy)⟩)) (fun x w' _ h => by exact Hp.segsT (T := ([] : List Blk)) (A := [x.blks 43 28, [⟨bq52, [(.int .i64 sp), (.slice xq50.ad n xq50.cp)], 25, true⟩, ⟨bq49, [(.int .i64 sp), (.slice xq47.ad n xq47.cp)], 25, true⟩, ⟨bq31, [(.int .i64 ((picS (Kp.mxE n) sp))), (.slice xq29.ad xq29.n xq29.cp)], 25, true⟩, ⟨bq17, [(.int .i64 sp), (.slice (some ⟨xq15.b, 0, none⟩) n xq15.cap)], 25, true⟩, ⟨bq2, [(.int .i64 sq), (.slice (some ⟨b2, o2, none⟩) m c2)], 25, true⟩, ⟨bq1, [(.int .i64 sp), (.slice (some ⟨b, o, none⟩) n cap)], 25, true⟩], xq50.blks 43 28, xq47.blks 43 28, xq29.blks 43 28, xq15.blks 43 28]) (idx := [1, 0, 2, 3, 4, 5]) 6 [] h rfl (by decide) rfl)))) (fun xq53 hq54 => ?_)
   refine GL.mv rfl (by decide) ?_
   refine GL.val (Ex.extract rfl rfl) (by decide) ?_
   refine GL.val (Ex.extract rfl rfl) (by decide) ?_
   refine GL.step (Stp.alloc T.zr25 (by decide)) (fun bq55 _ => ?_)
   refine GL.step (Stp.st0 (cs' := [(.int .i64 sp), (.slice xq53.ad n xq53.cp)]) rfl rfl rfl T.sz25 rfl rfl rfl) (fun _ _ => ?_)
   refine GL.sg rfl (by decide) ?_
   refine GL.nil (GE.thenN (GC.seq (GC.region ?_)))
   refine GL.val (v := (.agg #[(.int .i64 sp), (.slice xq53.ad n xq53.cp)])) (Ex.loadA rfl T.ag25 T.sz25 (i := 0) rfl (vs := [(.int .i64 sp), (.slice xq53.ad n xq53.cp)]) rfl rfl) (by decide) ?_
   refine GL.val (v := (.agg #[(.int .i64 sp), (.slice xq50.ad n xq50.cp)])) (Ex.loadA rfl T.ag25 T.sz25 (i := 1) rfl (vs := [(.int .i64 sp), (.slice xq50.ad n xq50.cp)]) rfl rfl) (by decide) ?_
   refine GL.step (Stp.call (vs := [(.int .i64 4), (.agg #[(.int .i64 sp), (.slice xq53.ad n xq53.cp)]), (.agg #[(.int .i64 sp), (.slice xq50.ad n xq50.cp)])]) rfl rfl T.own15 (by decide) (fun wc hw => (Ret.frm (L' := fun x => (⟨bq55, [(.int .i64 sp), (.slice xq53.ad n xq53.cp)], 25, true⟩ :: ⟨bq52, [(.int .i64 sp), (.slice xq50.ad n xq50.cp)], 25, true⟩ :: ⟨bq49, [(.int .i64 sp), (.slice xq47.ad n xq47.cp)], 25, true⟩ :: ⟨bq31, [(.int .i64 ((picS (Kp.mxE n) sp))), (.slice xq29.ad xq29.n xq29.cp)], 25, true⟩ :: ⟨bq17, [(.int .i64 sp), (.slice (some ⟨xq15.b, 0, none⟩) n xq15.cap)], 25, true⟩ :: ⟨bq2, [(.int .i64 sq), (.slice (some ⟨b2, o2, none⟩) m c2)], 25, true⟩ :: ⟨bq1, [(.int .i64 sp), (.slice (some ⟨b, o, none⟩) n cap)], 25, true⟩ :: (x.blks 43 28 ++ (xq53.blks 43 28 ++ (xq50.blks 43 28 ++ (xq47.blks 43 28 ++ (xq29.blks 43 28 ++ (xq15.blks 43 28 ++ ([] : List Blk))))))))) hw (two_a 4 sp xq53.ad n xq53.cp xq53.pl W H xq50.ad xq50.cp xq50.pl 87 Bt.lst wc (Kp.Gd.pa (W := W) (H := H) (Kp.Gd.two (f := Bt.gst) hI.as (fun i hi => ((Kp.one1_gd hA hlo).as hq48.2.1 i hi).2.2) (fun x y => Kp.gst_u)) hq54.2.1 hAb (Hp.seg (T := ([] : List Blk)) (A := [[_, _, _, _, _, _, _], xq53.blks 43 28, xq50.blks 43 28, xq47.blks 43 28, xq29.blks 43 28, xq15.blks 43 28]) hw 1 rfl)) (by rw [Ac.pl_len, ← Ac.ds_len, hq54.2.1]; simp) (Kp.Gd.ok (Kp.Gd.two (f := Bt.gst) hI.as (fun i hi => ((Kp.one1_gd hA hlo).as hq48.2.1 i hi).2.2) (fun x y => Kp.gst_u)) hq54.2.1 (by omega) (by omega) hok.ok hA hsp) (Kp.Gd.pa (W := W) (H := H) (Kp.one1_gd hA hhi) hq51.2.1 hAb (Hp.seg (T := ([] : List Blk)) (A := [[_, _, _, _, _, _, _], xq53.blks 43 28, xq50.blks 43 28, xq47.blks 43 28, xq29.blks 43 28, xq15.blks 43 28]) hw 2 rfl)) (by rw [Ac.pl_len, ← Ac.ds_len, hq51.2.1]; simp) (Kp.Gd.ok (Kp.one1_gd hA hhi) hq51.2.1 (by omega) (by omega) hok.ok hA hsp) (fun w' => two_f4 w') (fun i hi => ⟨T.own87, fun x hx y hy w' _ => least_p x y w' ((Kp.Gd.as (Kp.Gd.two (f := Bt.gst) hI.as (fun i hi => ((Kp.one1_gd hA hlo).as hq48.2.1 i hi).2.2) (fun x y => Kp.gst_u)) hq54.2.1 i hi).2.2.2 x hx) (((Kp.one1_gd hA hhi).as hq51.2.1 i hi).2.2.2 y hy)⟩)) (fun x w' _ h => by exact Hp.segsT (T := ([] : List Blk)) (A := [x.blks 43 28, [⟨bq55, [(.int .i64 sp), (.slice xq53.ad n xq53.cp)], 25, true⟩, ⟨bq52, [(.int .i64 sp), (.slice xq50.ad n xq50.cp)], 25, true⟩, ⟨bq49, [(.int .i64 sp), (.slice xq47.ad n xq47.cp)], 25, true⟩, ⟨bq31, [(.int .i64 ((picS (Kp.mxE n) sp))), (.slice xq29.ad xq29.n xq29.cp)], 25, true⟩, ⟨bq17, [(.int .i64 sp), (.slice (some ⟨xq15.b, 0, none⟩) n xq15.cap)], 25, true⟩, ⟨bq2, [(.int .i64 sq), (.slice (some ⟨b2, o2, none⟩) m c2)], 25, true⟩, ⟨bq1, [(.int .i64 sp), (.slice (some ⟨b, o, none⟩) n cap)], 25, true⟩], xq53.blks 43 28, xq50.blks 43 28, xq47.blks 43 28, xq29.blks 43 28, xq15.blks 43 28]) (idx := [1, 0, 2, 3, 4, 5, 6]) 7 [] h rfl (by decide) rfl)))) (fun xq56 hq57 => ?_)
   refine GL.mv rfl (by decide) ?_
   refine GL.val (Ex.extract rfl rfl) (by decide) ?_
   refine GL.val (Ex.extract rfl rfl) (by decide) ?_
   refine GL.step (Stp.alloc T.zr25 (by decide)) (fun bq58 _ => ?_)
   refine GL.step (Stp.st0 (cs' := [(.int .i64 sp), (.slice xq56.ad n xq56.cp)]) rfl rfl rfl T.sz25 rfl rfl rfl) (fun _ _ => ?_)
   refine GL.sg rfl (by decide) ?_
   refine GL.nil (GE.thenN (GC.seq (GC.region ?_)))
   refine GL.val (v := (.agg #[(.int .i64 sp), (.slice (some ⟨b, o, none⟩) n cap)])) (Ex.loadA rfl T.ag25 T.sz25 (i := 7) rfl (vs := [(.int .i64 sp), (.slice (some ⟨b, o, none⟩) n cap)]) rfl rfl) (by decide) ?_
   refine GL.mv rfl (by decide) ?_
   refine GL.mv rfl (by decide) ?_
   refine GL.step (Stp.call (vs := [(.agg #[(.int .i64 sp), (.slice (some ⟨b, o, none⟩) n cap)]), (.int .i64 (-1)), (.int .u32 lo), (.int .u32 hi)]) rfl rfl T.own18 (by decide) (fun wc hw => (Ret.frm (L' := fun x => (⟨bq58, [(.int .i64 sp), (.slice xq56.ad n xq56.cp)], 25, true⟩ :: ⟨bq55, [(.int .i64 sp), (.slice xq53.ad n xq53.cp)], 25, true⟩ :: ⟨bq52, [(.int .i64 sp), (.slice xq50.ad n xq50.cp)], 25, true⟩ :: ⟨bq49, [(.int .i64 sp), (.slice xq47.ad n xq47.cp)], 25, true⟩ :: ⟨bq31, [(.int .i64 ((picS (Kp.mxE n) sp))), (.slice xq29.ad xq29.n xq29.cp)], 25, true⟩ :: ⟨bq17, [(.int .i64 sp), (.slice (some ⟨xq15.b, 0, none⟩) n xq15.cap)], 25, true⟩ :: ⟨bq2, [(.int .i64 sq), (.slice (some ⟨b2, o2, none⟩) m c2)], 25, true⟩ :: ⟨bq1, [(.int .i64 sp), (.slice (some ⟨b, o, none⟩) n cap)], 25, true⟩ :: (x.blks 43 28 ++ (xq56.blks 43 28 ++ (xq53.blks 43 28 ++ (xq50.blks 43 28 ++ (xq47.blks 43 28 ++ (xq29.blks 43 28 ++ (xq15.blks 43 28 ++ ([] : List Blk)))))))))) hw (between_a sp (some ⟨b, o, none⟩) n cap ps W H lo hi (fun x => Bt.btw x lo hi) wc (hps.later hw.1).a hn hok (fun p hp x hx w' _ => btw_p x lo hi w' (hI.u p hp x hx) hlo hhi)) (fun x w' _ h => by exact Hp.segsT (T := ([] : List Blk)) (A := [x.blks 43 28, [⟨bq58, [(.int .i64 sp), (.slice xq56.ad n xq56.cp)], 25, true⟩, ⟨bq55, [(.int .i64 sp), (.slice xq53.ad n xq53.cp)], 25, true⟩, ⟨bq52, [(.int .i64 sp), (.slice xq50.ad n xq50.cp)], 25, true⟩, ⟨bq49, [(.int .i64 sp), (.slice xq47.ad n xq47.cp)], 25, true⟩, ⟨bq31, [(.int .i64 ((picS (Kp.mxE n) sp))), (.slice xq29.ad xq29.n xq29.cp)], 25, true⟩, ⟨bq17, [(.int .i64 sp), (.slice (some ⟨xq15.b, 0, none⟩) n xq15.cap)], 25, true⟩, ⟨bq2, [(.int .i64 sq), (.slice (some ⟨b2, o2, none⟩) m c2)], 25, true⟩, ⟨bq1, [(.int .i64 sp), (.slice (some ⟨b, o, none⟩) n cap)], 25, true⟩], xq56.blks 43 28, xq53.blks 43 28, xq50.blks 43 28, xq47.blks 43 28, xq29.blks 43 28, xq15.blks 43 28]) (idx := [1, 0, 2, 3, 4, 5, 6, 7]) 8 [] h rfl (by decide) rfl)))) (fun xq59 hq60 => ?_)
   refine GL.mv rfl (by decide) ?_
   refine GL.val (Ex.extract rfl rfl) (by decide) ?_
   refine GL.val (Ex.extract rfl rfl) (by decide) ?_
   refine GL.step (Stp.alloc T.zr25 (by decide)) (fun bq61 _ => ?_)
   refine GL.step (Stp.st0 (cs' := [(.int .i64 sp), (.slice xq59.ad n xq59.cp)]) rfl rfl rfl T.sz25 rfl rfl rfl) (fun _ _ => ?_)
   refine GL.sg rfl (by decide) ?_
   refine GL.nil (GE.thenN (GC.seq (GC.region ?_)))
   refine GL.val (v := (.agg #[(.int .i64 sp), (.slice (some ⟨b, o, none⟩) n cap)])) (Ex.loadA rfl T.ag25 T.sz25 (i := 8) rfl (vs := [(.int .i64 sp), (.slice (some ⟨b, o, none⟩) n cap)]) rfl rfl) (by decide) ?_
   refine GL.val (v := (.agg #[(.int .i64 sq), (.slice (some ⟨b2, o2, none⟩) m c2)])) (Ex.loadA rfl T.ag25 T.sz25 (i := 7) rfl (vs := [(.int .i64 sq), (.slice (some ⟨b2, o2, none⟩) m c2)]) rfl rfl) (by decide) ?_
   refine GL.step (Stp.call (vs := [(.int .i64 4), (.agg #[(.int .i64 sp), (.slice (some ⟨b, o, none⟩) n cap)]), (.agg #[(.int .i64 sq), (.slice (some ⟨b2, o2, none⟩) m c2)])]) rfl rfl T.own15 (by decide) (fun wc hw => (Ret.frm (L' := fun x => (⟨bq61, [(.int .i64 sp), (.slice xq59.ad n xq59.cp)], 25, true⟩ :: ⟨bq58, [(.int .i64 sp), (.slice xq56.ad n xq56.cp)], 25, true⟩ :: ⟨bq55, [(.int .i64 sp), (.slice xq53.ad n xq53.cp)], 25, true⟩ :: ⟨bq52, [(.int .i64 sp), (.slice xq50.ad n xq50.cp)], 25, true⟩ :: ⟨bq49, [(.int .i64 sp), (.slice xq47.ad n xq47.cp)], 25, true⟩ :: ⟨bq31, [(.int .i64 ((picS (Kp.mxE n) sp))), (.slice xq29.ad xq29.n xq29.cp)], 25, true⟩ :: ⟨bq17, [(.int .i64 sp), (.slice (some ⟨xq15.b, 0, none⟩) n xq15.cap)], 25, true⟩ :: ⟨bq2, [(.int .i64 sq), (.slice (some ⟨b2, o2, none⟩) m c2)], 25, true⟩ :: ⟨bq1, [(.int .i64 sp), (.slice (some ⟨b, o, none⟩) n cap)], 25, true⟩ :: (x.blks 43 28 ++ (xq59.blks 43 28 ++ (xq56.blks 43 28 ++ (xq53.blks 43 28 ++ (xq50.blks 43 28 ++ (xq47.blks 43 28 ++ (xq29.blks 43 28 ++ (xq15.blks 43 28 ++ ([] : List Blk))))))))))) hw (two_u sp sq b o n cap b2 o2 m c2 ps qs W H W2 H2 A A2 wc (hps.later hw.1) hn hok (hqs.later hw.1) hm hok2 (hI.go hw.1) (hJ.go hw.1)) (fun x w' _ h => by exact Hp.segsT (T := ([] : List Blk)) (A := [x.blks 43 28, [⟨bq61, [(.int .i64 sp), (.slice xq59.ad n xq59.cp)], 25, true⟩, ⟨bq58, [(.int .i64 sp), (.slice xq56.ad n xq56.cp)], 25, true⟩, ⟨bq55, [(.int .i64 sp), (.slice xq53.ad n xq53.cp)], 25, true⟩, ⟨bq52, [(.int .i64 sp), (.slice xq50.ad n xq50.cp)], 25, true⟩, ⟨bq49, [(.int .i64 sp), (.slice xq47.ad n xq47.cp)], 25, true⟩, ⟨bq31, [(.int .i64 ((picS (Kp.mxE n) sp))), (.slice xq29.ad xq29.n xq29.cp)], 25, true⟩, ⟨bq17, [(.int .i64 sp), (.slice (some ⟨xq15.b, 0, none⟩) n xq15.cap)], 25, true⟩, ⟨bq2, [(.int .i64 sq), (.slice (some ⟨b2, o2, none⟩) m c2)], 25, true⟩, ⟨bq1, [(.int .i64 sp), (.slice (some ⟨b, o, none⟩) n cap)], 25, true⟩], xq59.blks 43 28, xq56.blks 43 28, xq53.blks 43 28, xq50.blks 43 28, xq47.blks 43 28, xq29.blks 43 28, xq15.blks 43 28]) (idx := [1, 0, 2, 3, 4, 5, 6, 7, 8]) 9 [] h rfl (by decide) rfl)))) (fun xq62 hq63 => ?_)
   refine GL.mv rfl (by decide) ?_
   refine GL.val (Ex.extract rfl rfl) (by decide) ?_
   refine GL.val (Ex.extract rfl rfl) (by decide) ?_
   refine GL.step (Stp.alloc T.zr25 (by decide)) (fun bq64 _ => ?_)
   refine GL.step (Stp.st0 (cs' := [(.int .i64 ((picS (Kp.twE sp sq n m W W2 H H2) sp))), (.slice xq62.ad xq62.n xq62.cp)]) rfl rfl rfl T.sz25 rfl rfl rfl) (fun _ _ => ?_)
   refine GL.sg rfl (by decide) ?_
   refine GL.nil (GE.thenN (GC.seq (GC.region ?_)))
   refine GL.val (v := (.agg #[(.int .i64 sq), (.slice (some ⟨b2, o2, none⟩) m c2)])) (Ex.loadA rfl T.ag25 T.sz25 (i := 8) rfl (vs := [(.int .i64 sq), (.slice (some ⟨b2, o2, none⟩) m c2)]) rfl rfl) (by decide) ?_
   refine GL.val (v := (.agg #[(.int .i64 sp), (.slice (some ⟨b, o, none⟩) n cap)])) (Ex.loadA rfl T.ag25 T.sz25 (i := 9) rfl (vs := [(.int .i64 sp), (.slice (some ⟨b, o, none⟩) n cap)]) rfl rfl) (by decide) ?_
   refine GL.step (Stp.call (vs := [(.int .i64 4), (.agg #[(.int .i64 sq), (.slice (some ⟨b2, o2, none⟩) m c2)]), (.agg #[(.int .i64 sp), (.slice (some ⟨b, o, none⟩) n cap)])]) rfl rfl T.own15 (by decide) (fun wc hw => (Ret.frm (L' := fun x => (⟨bq64, [(.int .i64 ((picS (Kp.twE sp sq n m W W2 H H2) sp))), (.slice xq62.ad xq62.n xq62.cp)], 25, true⟩ :: ⟨bq61, [(.int .i64 sp), (.slice xq59.ad n xq59.cp)], 25, true⟩ :: ⟨bq58, [(.int .i64 sp), (.slice xq56.ad n xq56.cp)], 25, true⟩ :: ⟨bq55, [(.int .i64 sp), (.slice xq53.ad n xq53.cp)], 25, true⟩ :: ⟨bq52, [(.int .i64 sp), (.slice xq50.ad n xq50.cp)], 25, true⟩ :: ⟨bq49, [(.int .i64 sp), (.slice xq47.ad n xq47.cp)], 25, true⟩ :: ⟨bq31, [(.int .i64 ((picS (Kp.mxE n) sp))), (.slice xq29.ad xq29.n xq29.cp)], 25, true⟩ :: ⟨bq17, [(.int .i64 sp), (.slice (some ⟨xq15.b, 0, none⟩) n xq15.cap)], 25, true⟩ :: ⟨bq2, [(.int .i64 sq), (.slice (some ⟨b2, o2, none⟩) m c2)], 25, true⟩ :: ⟨bq1, [(.int .i64 sp), (.slice (some ⟨b, o, none⟩) n cap)], 25, true⟩ :: (x.blks 43 28 ++ (xq62.blks 43 28 ++ (xq59.blks 43 28 ++ (xq56.blks 43 28 ++ (xq53.blks 43 28 ++ (xq50.blks 43 28 ++ (xq47.blks 43 28 ++ (xq29.blks 43 28 ++ (xq15.blks 43 28 ++ ([] : List Blk)))))))))))) hw (two_u sq sp b2 o2 m c2 b o n cap qs ps W2 H2 W H A2 A wc (hqs.later hw.1) hm hok2 (hps.later hw.1) hn hok (hJ.go hw.1) (hI.go hw.1)) (fun x w' _ h => by exact Hp.segsT (T := ([] : List Blk)) (A := [x.blks 43 28, [⟨bq64, [(.int .i64 ((picS (Kp.twE sp sq n m W W2 H H2) sp))), (.slice xq62.ad xq62.n xq62.cp)], 25, true⟩, ⟨bq61, [(.int .i64 sp), (.slice xq59.ad n xq59.cp)], 25, true⟩, ⟨bq58, [(.int .i64 sp), (.slice xq56.ad n xq56.cp)], 25, true⟩, ⟨bq55, [(.int .i64 sp), (.slice xq53.ad n xq53.cp)], 25, true⟩, ⟨bq52, [(.int .i64 sp), (.slice xq50.ad n xq50.cp)], 25, true⟩, ⟨bq49, [(.int .i64 sp), (.slice xq47.ad n xq47.cp)], 25, true⟩, ⟨bq31, [(.int .i64 ((picS (Kp.mxE n) sp))), (.slice xq29.ad xq29.n xq29.cp)], 25, true⟩, ⟨bq17, [(.int .i64 sp), (.slice (some ⟨xq15.b, 0, none⟩) n xq15.cap)], 25, true⟩, ⟨bq2, [(.int .i64 sq), (.slice (some ⟨b2, o2, none⟩) m c2)], 25, true⟩, ⟨bq1, [(.int .i64 sp), (.slice (some ⟨b, o, none⟩) n cap)], 25, true⟩], xq62.blks 43 28, xq59.blks 43 28, xq56.blks 43 28, xq53.blks 43 28, xq50.blks 43 28, xq47.blks 43 28, xq29.blks 43 28, xq15.blks 43 28]) (idx := [1, 0, 2, 3, 4, 5, 6, 7, 8, 9]) 10 [] h rfl (by decide) rfl)))) (fun xq65 hq66 => ?_)
   refine GL.mv rfl (by decide) ?_
   refine GL.val (Ex.extract rfl rfl) (by decide) ?_
   refine GL.val (Ex.extract rfl rfl) (by decide) ?_
   refine GL.step (Stp.alloc T.zr25 (by decide)) (fun bq67 _ => ?_)
   refine GL.step (Stp.st0 (cs' := [(.int .i64 ((picS (Kp.twE sq sp m n W2 W H2 H) sq))), (.slice xq65.ad xq65.n xq65.cp)]) rfl rfl rfl T.sz25 rfl rfl rfl) (fun _ _ => ?_)
   refine GL.sg rfl (by decide) ?_
   refine GL.nil (GE.thenN (GC.seq (GC.region ?_)))
   refine GL.mv rfl (by decide) ?_
   refine GL.step (Stp.callR (vs := [(.int .i64 0)]) rfl rfl T.own8 (by decide) (fun wc hw => num 0 wc (by decide))) (fun xq68 hq69 => ?_)
   refine GL.mv rfl (by decide) ?_
   refine GL.step (Stp.callR (vs := [(.int .i64 0)]) rfl rfl T.own8 (by decide) (fun wc hw => num 0 wc (by decide))) (fun xq70 hq71 => ?_)
   refine GL.val (v := (.int .i64 0)) (Ex.add rfl rfl (Z := 0) (by decide)) (by decide) ?_
   refine GL.val (v := (.bool true)) (Ex.cast (Ex.eql rfl rfl) rfl) (by decide) ?_
   refine GL.mv rfl (by decide) ?_
   refine GL.stepG (tj := 276) rfl rfl (Ex.wp (v := (.agg #[(.int .i64 sp), (.slice xq56.ad n xq56.cp)])) (Ex.loadA rfl T.ag25 T.sz25 (i := 3) rfl (vs := [(.int .i64 sp), (.slice xq56.ad n xq56.cp)]) rfl rfl) (by decide)) (fun _ _ => ?_)
   refine GL.stepG (tj := 276) rfl rfl (Ex.wp (v := (.agg #[(.int .i64 sp), (.slice xq59.ad n xq59.cp)])) (Ex.loadA rfl T.ag25 T.sz25 (i := 2) rfl (vs := [(.int .i64 sp), (.slice xq59.ad n xq59.cp)]) rfl rfl) (by decide)) (fun _ _ => ?_)
   refine GL.stepG (tj := 276) rfl rfl (Stp.callR (σ := Unit) (p := fun rz => True) (v := fun rz => (.bool true)) (N := fun rz => []) (vs := [(.agg #[(.int .i64 sp), (.slice xq56.ad n xq56.cp)]), (.agg #[(.int .i64 sp), (.slice xq59.ad n xq59.cp)])]) rfl rfl T.own19 (by decide) (fun wc hw => (by exact pic_eq sp xq56.ad xq59.ad n xq56.cp xq59.cp xq56.pl xq59.pl wc (by rw [Ac.pl_len, ← Ac.ds_len, hq57.2.1]; simp) (by omega) (Kp.clamp hI hlo hhi hq48.2.1 hq51.2.1 hq54.2.1 hq57.2.1 hq60.2.1) (Ac.r (Hp.seg (T := ([] : List Blk)) (A := [[_, _, _, _, _, _, _, _, _, _, _], xq65.blks 43 28, xq62.blks 43 28, xq59.blks 43 28, xq56.blks 43 28, xq53.blks 43 28, xq50.blks 43 28, xq47.blks 43 28, xq29.blks 43 28, xq15.blks 43 28]) hw 4 rfl) (Kp.Gd.x (Kp.Gd.two (f := Bt.lst) (Kp.Gd.as (Kp.Gd.two (f := Bt.gst) hI.as (fun i hi => ((Kp.one1_gd hA hlo).as hq48.2.1 i hi).2.2) (fun x y => Kp.gst_u)) hq54.2.1) (fun i hi => ((Kp.one1_gd hA hhi).as hq51.2.1 i hi).2.2) (fun x y => Kp.lst_u)) hq57.2.1 hAb)) (Ac.r (Hp.seg (T := ([] : List Blk)) (A := [[_, _, _, _, _, _, _, _, _, _, _], xq65.blks 43 28, xq62.blks 43 28, xq59.blks 43 28, xq56.blks 43 28, xq53.blks 43 28, xq50.blks 43 28, xq47.blks 43 28, xq29.blks 43 28, xq15.blks 43 28]) hw 3 rfl) (Kp.Gd.x (Kp.In.map (f := fun x => Bt.btw x lo hi) hI (fun x h => Bt.btw_bd h hlo hhi)) hq60.2.1 hAb))))) (fun xq72 hq73 => ?_)
   refine GL.val (v := (.bool true)) (Ex.pickT rfl rfl) (by decide) ?_
   refine GL.mv rfl (by decide) ?_
   refine GL.stepG (tj := 281) rfl rfl (Ex.wp (v := (.int .i64 ((Kp.twE sp sq n m W W2 H H2)))) (Ex.move rfl) (by decide)) (fun _ _ => ?_)
   refine GL.stepG (tj := 281) rfl rfl (Stp.callR (vs := [(.int .i64 ((Kp.twE sp sq n m W W2 H H2)))]) rfl rfl T.own8 (by decide) (fun wc hw => num ((Kp.twE sp sq n m W W2 H H2)) wc (Kp.twE_r _ _ _ _ _ _ _ _))) (fun xq74 hq75 => ?_)
   refine GL.stepG (tj := 281) rfl rfl (Ex.wp (v := (.int .i64 ((Kp.twE sq sp m n W2 W H2 H)))) (Ex.move rfl) (by decide)) (fun _ _ => ?_)
   refine GL.stepG (tj := 281) rfl rfl (Stp.callR (vs := [(.int .i64 ((Kp.twE sq sp m n W2 W H2 H)))]) rfl rfl T.own8 (by decide) (fun wc hw => num ((Kp.twE sq sp m n W2 W H2 H)) wc (Kp.twE_r _ _ _ _ _ _ _ _))) (fun xq76 hq77 => ?_)
   refine GL.stepG (tj := 281) rfl rfl (Ex.wp (v := (.bool true)) (Ex.cast (Ex.eql rfl rfl) (congrArg Value.bool (decide_eq_true (by exact Kp.twE_comm _ _ _ _ _ _ _ _)))) (by decide)) (fun _ _ => ?_)
   refine GL.val (v := (.bool true)) (Ex.pickT rfl rfl) (by decide) ?_
   refine GL.mv rfl (by decide) ?_
   refine GL.stepG (tj := 288) rfl rfl (Ex.wp (v := (.agg #[(.int .i64 ((picS (Kp.twE sp sq n m W W2 H H2) sp))), (.slice xq62.ad xq62.n xq62.cp)])) (Ex.loadA rfl T.ag25 T.sz25 (i := 1) rfl (vs := [(.int .i64 ((picS (Kp.twE sp sq n m W W2 H H2) sp))), (.slice xq62.ad xq62.n xq62.cp)]) rfl rfl) (by decide)) (fun _ _ => ?_)
   refine GL.stepG (tj := 288) rfl rfl (Ex.wp (v := (.agg #[(.int .i64 ((picS (Kp.twE sq sp m n W2 W H2 H) sq))), (.slice xq65.ad xq65.n xq65.cp)])) (Ex.loadA rfl T.ag25 T.sz25 (i := 0) rfl (vs := [(.int .i64 ((picS (Kp.twE sq sp m n W2 W H2 H) sq))), (.slice xq65.ad xq65.n xq65.cp)]) rfl rfl) (by decide)) (fun _ _ => ?_)
   refine GL.stepG (tj := 288) rfl rfl (Stp.callR (vs := [(.agg #[(.int .i64 ((picS (Kp.twE sp sq n m W W2 H H2) sp))), (.slice xq62.ad xq62.n xq62.cp)]), (.agg #[(.int .i64 ((picS (Kp.twE sq sp m n W2 W H2 H) sq))), (.slice xq65.ad xq65.n xq65.cp)])]) rfl rfl T.own19 (by decide) (fun wc hw => pic_same (Kp.twE sp sq n m W W2 H H2) (Kp.twE sq sp m n W2 W H2 H) sp sq xq62 xq65 wc Kp.twS (by rw [Ac.pl_d, Ac.pl_d, hq63.2.2, hq66.2.2]; exact Kp.twD_comm hI hJ) (by have := Kp.twD_n hq63.2.2; omega) (Ac.r (Hp.seg (T := ([] : List Blk)) (A := [[_, _, _, _, _, _, _, _, _, _, _], xq65.blks 43 28, xq62.blks 43 28, xq59.blks 43 28, xq56.blks 43 28, xq53.blks 43 28, xq50.blks 43 28, xq47.blks 43 28, xq29.blks 43 28, xq15.blks 43 28]) hw 2 rfl) (Kp.twD_x hI hAb hq63.2.2)) (Ac.r (Hp.seg (T := ([] : List Blk)) (A := [[_, _, _, _, _, _, _, _, _, _, _], xq65.blks 43 28, xq62.blks 43 28, xq59.blks 43 28, xq56.blks 43 28, xq53.blks 43 28, xq50.blks 43 28, xq47.blks 43 28, xq29.blks 43 28, xq15.blks 43 28]) hw 1 rfl) (Kp.twD_x hJ hAb2 hq66.2.2)))) (fun xq78 hq79 => ?_)
   refine GL.val (v := (.bool true)) (Ex.pickT rfl rfl) (by decide) ?_
   refine GL.sg rfl (by decide) ?_
   refine GL.nil (GE.thenN (GC.ret ?_))
   refine GC.ret1 rfl (Rv.tmp rfl) (fun wN HN => ?_)
   exact HN.ret () trivial rfl (List.nil_sublist _) rfl

theorem keeps_bad1 (sp sq : Int) (ad ad2 : Option Addr) (n cap m c2 : Nat) (ps qs : List Pn) (lo hi : Int) (w : World) (hps : PnsA w ad ps) (hn : n = ps.length) (hnb : n ≤ 35184372087808) (hqs : PnsA w ad2 qs) (hm : m = qs.length) (hmb : m ≤ 35184372087808) (hc : chkP sp ps ≠ 0) :
  Calls Try.prog 5 #[(.agg #[(.int .i64 sp), (.slice ad n cap)]), (.agg #[(.int .i64 sq), (.slice ad2 m c2)]), (.int .u32 lo), (.int .u32 hi)] w (Ret w (fun _ : Unit => True) (fun _ => .bool true) (fun _ => [])) := by
 refine enter (M := None) (L := []) (n := 293) (l := [(0, (.agg #[(.int .i64 sp), (.slice ad n cap)])), (1, (.agg #[(.int .i64 sq), (.slice ad2 m c2)])), (2, (.int .u32 lo)), (3, (.int .u32 hi))]) Try.func5 rfl rfl (Args.cons rfl (Args.cons rfl (Args.cons rfl (Args.cons rfl (Args.nil _))))) (Hp.start _ _) ?_
 refine GC.seq (GC.region ?_)
 refine GL.step (Stp.box (cs := [(.int .i64 sp), (.slice ad n cap)]) rfl rfl (by decide)) (fun bq1 _ => ?_)
 refine GL.step (Stp.box (cs := [(.int .i64 sq), (.slice ad2 m c2)]) rfl rfl (by decide)) (fun bq2 _ => ?_)
 refine GL.sg rfl (by decide) ?_
 refine GL.nil (GE.thenN (GC.seq (GC.seq (GC.region ?_))))
 refine GL.step (Stp.callR (vs := []) rfl rfl T.own7 (by decide) (fun wc hw => known wc)) (fun xq3 hq4 => ?_)
 refine GL.val (v := (.bool false)) (Ex.cast (Ex.not rfl) rfl) (by decide) ?_
 refine GL.nil (GE.thenN ?_)
 refine GC.cond rfl (fun hq5 => by cases hq5) (fun _ => ?_)
 refine GC.skip (GE.thenN (GC.seq (GC.seq (GC.region ?_))))
 refine GL.val (v := (.agg #[(.int .i64 sp), (.slice ad n cap)])) (Ex.loadA rfl T.ag25 T.sz25 (i := 1) rfl (vs := [(.int .i64 sp), (.slice ad n cap)]) rfl rfl) (by decide) ?_
 refine GL.step (Stp.callR (vs := [(.agg #[(.int .i64 sp), (.slice ad n cap)])]) rfl rfl T.own9 (by decide) (fun wc hw => chk_p_a sp ad n cap ps wc (hps.later hw.1) hn hnb)) (fun xq6 hq7 => ?_)
 refine GL.step (Stp.callR (vs := [(.int .i64 ((chkP sp ps)))]) rfl rfl T.own8 (by decide) (fun wc hw => num ((chkP sp ps)) wc (chkP_r _ _))) (fun xq8 hq9 => ?_)
 refine GL.val (v := (.bool true)) (Ex.cast (Ex.neq rfl rfl) (congrArg Value.bool (decide_eq_true (by exact hc)))) (by decide) ?_
 refine GL.mv rfl (by decide) ?_
 refine GL.skipG (tj := 46) rfl rfl rfl (by decide) ?_
 refine GL.skipG (tj := 46) rfl rfl rfl (by decide) ?_
 refine GL.skipG (tj := 46) rfl rfl rfl (by decide) ?_
 refine GL.skipG (tj := 46) rfl rfl rfl (by decide) ?_
 refine GL.val (v := (.bool true)) (Ex.pickT rfl rfl) (by decide) ?_
 refine GL.nil (GE.thenN ?_)
 refine GC.cond rfl (fun _ => ?_) (fun hq10 => by cases hq10)
 refine GC.seq (GC.region ?_)
 refine GL.sg rfl (by decide) ?_
 refine GL.nil (GE.thenN (GC.ret (GE.thenR ?_)))
 refine GC.ret1 rfl (Rv.tmp rfl) (fun wN HN => ?_)
 exact HN.ret () trivial rfl (List.nil_sublist _) rfl

theorem keeps_bad2 (sp sq : Int) (ad ad2 : Option Addr) (n cap m c2 : Nat) (ps qs : List Pn) (lo hi : Int) (w : World) (hps : PnsA w ad ps) (hn : n = ps.length) (hnb : n ≤ 35184372087808) (hqs : PnsA w ad2 qs) (hm : m = qs.length) (hmb : m ≤ 35184372087808) (hc0 : chkP sp ps = 0) (hc : chkP sq qs ≠ 0) :
  Calls Try.prog 5 #[(.agg #[(.int .i64 sp), (.slice ad n cap)]), (.agg #[(.int .i64 sq), (.slice ad2 m c2)]), (.int .u32 lo), (.int .u32 hi)] w (Ret w (fun _ : Unit => True) (fun _ => .bool true) (fun _ => [])) := by
 refine enter (M := None) (L := []) (n := 293) (l := [(0, (.agg #[(.int .i64 sp), (.slice ad n cap)])), (1, (.agg #[(.int .i64 sq), (.slice ad2 m c2)])), (2, (.int .u32 lo)), (3, (.int .u32 hi))]) Try.func5 rfl rfl (Args.cons rfl (Args.cons rfl (Args.cons rfl (Args.cons rfl (Args.nil _))))) (Hp.start _ _) ?_
 refine GC.seq (GC.region ?_)
 refine GL.step (Stp.box (cs := [(.int .i64 sp), (.slice ad n cap)]) rfl rfl (by decide)) (fun bq1 _ => ?_)
 refine GL.step (Stp.box (cs := [(.int .i64 sq), (.slice ad2 m c2)]) rfl rfl (by decide)) (fun bq2 _ => ?_)
 refine GL.sg rfl (by decide) ?_
 refine GL.nil (GE.thenN (GC.seq (GC.seq (GC.region ?_))))
 refine GL.step (Stp.callR (vs := []) rfl rfl T.own7 (by decide) (fun wc hw => known wc)) (fun xq3 hq4 => ?_)
 refine GL.val (v := (.bool false)) (Ex.cast (Ex.not rfl) rfl) (by decide) ?_
 refine GL.nil (GE.thenN ?_)
 refine GC.cond rfl (fun hq5 => by cases hq5) (fun _ => ?_)
 refine GC.skip (GE.thenN (GC.seq (GC.seq (GC.region ?_))))
 refine GL.val (v := (.agg #[(.int .i64 sp), (.slice ad n cap)])) (Ex.loadA rfl T.ag25 T.sz25 (i := 1) rfl (vs := [(.int .i64 sp), (.slice ad n cap)]) rfl rfl) (by decide) ?_
 refine GL.step (Stp.callR (σ := Unit) (p := fun rz => True) (v := fun rz => (.int .i64 0)) (N := fun rz => []) (vs := [(.agg #[(.int .i64 sp), (.slice ad n cap)])]) rfl rfl T.own9 (by decide) (fun wc hw => (by have h := chk_p_a sp ad n cap ps wc (hps.later hw.1) hn hnb; rw [hc0] at h; exact h))) (fun xq6 hq7 => ?_)
 refine GL.step (Stp.callR (vs := [(.int .i64 0)]) rfl rfl T.own8 (by decide) (fun wc hw => num 0 wc (by decide))) (fun xq8 hq9 => ?_)
 refine GL.val (v := (.bool false)) (Ex.cast (Ex.neq rfl rfl) rfl) (by decide) ?_
 refine GL.mv rfl (by decide) ?_
 refine GL.stepG (tj := 46) rfl rfl (Ex.wp (v := (.agg #[(.int .i64 sq), (.slice ad2 m c2)])) (Ex.loadA rfl T.ag25 T.sz25 (i := 0) rfl (vs := [(.int .i64 sq), (.slice ad2 m c2)]) rfl rfl) (by decide)) (fun _ _ => ?_)
 refine GL.stepG (tj := 46) rfl rfl (Stp.callR (vs := [(.agg #[(.int .i64 sq), (.slice ad2 m c2)])]) rfl rfl T.own9 (by decide) (fun wc hw => chk_p_a sq ad2 m c2 qs wc (hqs.later hw.1) hm hmb)) (fun xq10 hq11 => ?_)
 refine GL.stepG (tj := 46) rfl rfl (Stp.callR (vs := [(.int .i64 ((chkP sq qs)))]) rfl rfl T.own8 (by decide) (fun wc hw => num ((chkP sq qs)) wc (chkP_r _ _))) (fun xq12 hq13 => ?_)
 refine GL.stepG (tj := 46) rfl rfl (Ex.wp (v := (.bool true)) (Ex.cast (Ex.neq rfl rfl) (congrArg Value.bool (decide_eq_true (by exact hc)))) (by decide)) (fun _ _ => ?_)
 refine GL.val (v := (.bool true)) (Ex.pickF rfl rfl) (by decide) ?_
 refine GL.nil (GE.thenN ?_)
 refine GC.cond rfl (fun _ => ?_) (fun hq14 => by cases hq14)
 refine GC.seq (GC.region ?_)
 refine GL.sg rfl (by decide) ?_
 refine GL.nil (GE.thenN (GC.ret (GE.thenR ?_)))
 refine GC.ret1 rfl (Rv.tmp rfl) (fun wN HN => ?_)
 exact HN.ret () trivial rfl (List.nil_sublist _) rfl

theorem keeps (sp sq : Int) (ad ad2 : Option Addr) (n cap m c2 : Nat) (ps qs : List Pn) (lo hi : Int) (w : World) (hps : PnsA w ad ps) (hn : n = ps.length) (hnb : n ≤ 35184372087808) (hqs : PnsA w ad2 qs) (hm : m = qs.length) (hmb : m ≤ 35184372087808) (hlo : Kp.U lo) (hhi : Kp.U hi) : Calls Try.prog 5 #[(.agg #[(.int .i64 sp), (.slice ad n cap)]), (.agg #[(.int .i64 sq), (.slice ad2 m c2)]), .int .u32 lo, .int .u32 hi] w (Ret w (fun _ : Unit => True) (fun _ => .bool true) (fun _ => [])) := by
 by_cases h1 : chkP sp ps = 0
 ·by_cases h2 : chkP sq qs = 0
  ·obtain ⟨W, H, hok⟩ := chkP_zero h1
   obtain ⟨W2, H2, hok2⟩ := chkP_zero h2
   obtain ⟨b, o, rfl, hp⟩ := hps.at hok.n0
   obtain ⟨b2, o2, rfl, hq⟩ := hqs.at hok2.n0
   exact keeps_ok sp sq b o n cap b2 o2 m c2 ps qs W H W2 H2 (W * H) (W2 * H2) lo hi w hp hn hok hq hm hok2 rfl (Kp.In.of hp.ok hn hok) (Kp.In.of hq.ok hm hok2) hok.ok.2.2.2.2 hok2.ok.2.2.2.2 hlo hhi
  ·exact keeps_bad2 sp sq ad ad2 n cap m c2 ps qs lo hi w hps hn hnb hqs hm hmb h1 h2
 ·exact keeps_bad1 sp sq ad ad2 n cap m c2 ps qs lo hi w hps hn hnb hqs hm hmb h1

end Go.Proofs.Ytiikkhbmhojbaaa.C
