/- PictureMakes: what its code does, walked. -/
import Derived.Test.YtiikkhbmhojbaaaKMakes1
namespace Go.Proofs.Ytiikkhbmhojbaaa.C
open Go Go.RowKit Sx
set_option linter.unusedVariables false
set_option maxRecDepth 100000
set_option maxHeartbeats 1000000
theorem ref_planep_in (sp : Int) (b o n cap : Nat) (ps : List Pn) (W H : Nat) (j : Nat) (w : World) (hps : Pns w b o ps) (hn : n = ps.length) (hok : OkPic sp ps W H) (hj : j < n) :
  Calls Try.prog 24 #[(.agg #[(.int .i64 sp), (.slice (some ⟨b, o, none⟩) n cap)]), (.int .i64 (((j : Nat) : Int)))] w (RetE w (pAt ps j).d 28) := by
 refine enter (M := None) (L := []) (n := 29) (l := [(0, (.agg #[(.int .i64 sp), (.slice (some ⟨b, o, none⟩) n cap)])), (1, (.int .i64 (((j : Nat) : Int))))]) Try.func24 rfl rfl (Args.cons rfl (Args.cons rfl (Args.nil _))) (Hp.start _ _) ?_
 refine GC.seq (GC.region ?_)
 refine GL.step (Stp.box (cs := [(.int .i64 sp), (.slice (some ⟨b, o, none⟩) n cap)]) rfl rfl (by decide)) (fun bq1 _ => ?_)
 refine GL.step (Stp.alloc T.zr43 (by decide)) (fun bq2 _ => ?_)
 refine GL.sg rfl (by decide) ?_
 refine GL.nil (GE.thenN (GC.seq (GC.region ?_)))
 refine GL.val (v := (.agg #[(.int .i64 sp), (.slice (some ⟨b, o, none⟩) n cap)])) (Ex.loadA rfl T.ag25 T.sz25 (i := 1) rfl (vs := [(.int .i64 sp), (.slice (some ⟨b, o, none⟩) n cap)]) rfl rfl) (by decide) ?_
 refine GL.step (Stp.callR (σ := Unit) (p := fun rz => True) (v := fun rz => (.int .i64 0)) (N := fun rz => []) (vs := [(.agg #[(.int .i64 sp), (.slice (some ⟨b, o, none⟩) n cap)])]) rfl rfl T.own27 (by decide) (fun wc hw => (by have h := ref_chk_p sp b o n cap ps wc (hps.later hw.1) hn (by have := hok.n4; omega); rw [hok.chk] at h; exact h))) (fun xq3 hq4 => ?_)
 refine GL.sg rfl (by decide) ?_
 refine GL.nil (GE.thenN (GC.seq (GC.seq (GC.region ?_))))
 refine GL.mv rfl (by decide) ?_
 refine GL.val (v := (.bool false)) (Ex.cast (Ex.neq rfl rfl) rfl) (by decide) ?_
 refine GL.nil (GE.thenN ?_)
 refine GC.cond rfl (fun hq5 => by cases hq5) (fun _ => ?_)
 refine GC.skip (GE.thenN (GC.seq (GC.seq (GC.region ?_))))
 refine GL.mv rfl (by decide) ?_
 refine GL.val (v := (.bool false)) (Ex.cast (Ex.lss rfl rfl) (congrArg Value.bool (decide_eq_false (by omega)))) (by decide) ?_
 refine GL.mv rfl (by decide) ?_
 refine GL.stepG (tj := 15) rfl rfl (Ex.wp (v := (.int .i64 (((j : Nat) : Int)))) (Ex.move rfl) (by decide)) (fun _ _ => ?_)
 refine GL.stepG (tj := 15) rfl rfl (Ex.wp (v := (.pointer (some ⟨bq1, 1, none⟩))) (Ex.cast (Ex.fieldAddr rfl Try.underlying25 rfl T.sz23 (by decide)) rfl) (by decide)) (fun _ _ => ?_)
 refine GL.stepG (tj := 15) rfl rfl (Ex.wp (v := (.slice (some ⟨b, o, none⟩) n cap)) (Ex.load rfl T.ag23 (i := 1) rfl rfl) (by decide)) (fun _ _ => ?_)
 refine GL.stepG (tj := 15) rfl rfl (Ex.wp (v := (.int .i64 ((n : Int)))) (Ex.len rfl Try.underlying23) (by decide)) (fun _ _ => ?_)
 refine GL.stepG (tj := 15) rfl rfl (Ex.wp (v := (.bool false)) (Ex.cast (Ex.geq rfl rfl) (congrArg Value.bool (decide_eq_false (by omega)))) (by decide)) (fun _ _ => ?_)
 refine GL.val (v := (.bool false)) (Ex.pickF rfl rfl) (by decide) ?_
 refine GL.nil (GE.thenN ?_)
 refine GC.cond rfl (fun hq6 => by cases hq6) (fun _ => ?_)
 refine GC.skip (GE.thenN (GC.seq (GC.region ?_)))
 refine GL.val (v := (.pointer (some ⟨bq1, 1, none⟩))) (Ex.cast (Ex.fieldAddr rfl Try.underlying25 rfl T.sz23 (by decide)) rfl) (by decide) ?_
 refine GL.val (Ex.load rfl T.ag23 (i := 1) rfl rfl) (by decide) ?_
 refine GL.mv rfl (by decide) ?_
 refine GL.val (v := (.pointer (some ⟨b, o + j * 3, none⟩))) (Ex.cast (Ex.indexAddr rfl rfl Try.underlying23 T.sz43 (by omega) (by omega)) (by simp)) (by decide) ?_
 refine GL.val (v := (.agg #[(.int .i64 ((pAt ps j).W)), (.int .i64 ((pAt ps j).H)), (.slice (pAt ps j).ad ((pAt ps j).n) ((pAt ps j).cap))])) (Ex.loadAO rfl T.ag43 T.sz43 (Pns.ld (i := j) hps (by omega)) (fun x => x) rfl) (by decide) ?_
 refine GL.step (Stp.callR (σ := Nat × Nat × List Value) (p := fun rz => ((pAt ps j).d.2.2.map u32 ++ rz.2.2).length = rz.2.1 * 1 ∧ rz.2.1 ≤ 9223372036854775807) (v := fun rz => (.agg #[(.int .i64 ((pAt ps j).d.1)), (.int .i64 ((pAt ps j).d.2.1)), (.slice (some ⟨rz.1, 0, none⟩) ((pAt ps j).d.2.2.length) rz.2.1)])) (N := fun rz => [⟨rz.1, (pAt ps j).d.2.2.map u32 ++ rz.2.2, 28, true⟩]) (vs := [(.agg #[(.int .i64 ((pAt ps j).W)), (.int .i64 ((pAt ps j).H)), (.slice (pAt ps j).ad ((pAt ps j).n) ((pAt ps j).cap))])]) rfl rfl T.own62 (by decide) (fun wc hw => (by exact ref_copy_p (pAt ps j) W H wc hok.ok (hok.at (by omega)) ((hps.ok _ (pAt_mem (by omega))).later hw.1)))) (fun xq7 hq8 => ?_)
 refine GL.step (Stp.st1 (cs' := [(.int .i64 ((pAt ps j).d.1)), (.int .i64 ((pAt ps j).d.2.1)), (.slice (some ⟨xq7.1, 0, none⟩) ((pAt ps j).d.2.2.length) xq7.2.1)]) rfl rfl rfl T.sz43 rfl rfl rfl) (fun _ _ => ?_)
 refine GL.sg rfl (by decide) ?_
 refine GL.nil (GE.thenN (GC.ret ?_))
 refine GC.ret2 rfl (Rv.cellA rfl T.ag43 T.sz43 (L := _) (i := 1) rfl (vs := [(.int .i64 ((pAt ps j).d.1)), (.int .i64 ((pAt ps j).d.2.1)), (.slice (some ⟨xq7.1, 0, none⟩) ((pAt ps j).d.2.2.length) xq7.2.1)]) rfl rfl) (Rv.tmp rfl) (fun wN HN => ?_)
 exact HN.ret xq7 hq8 rfl (ulC (ulS (ulS ulN))) rfl

theorem ref_planep_u (sp : Int) (ad : Option Addr) (n cap : Nat) (ps : List Pn) (k : Int) (w : World) (hps : PnsA w ad ps) (hn : n = ps.length) (hnb : n ≤ 35184372087808) : Calls Try.prog 24 #[(.agg #[(.int .i64 sp), (.slice ad n cap)]), .int .i64 k] w (Ret w (fun r : Option Nq => poOk r ∧ r.map Nq.d = plD sp ps k) (fun r => .tuple #[.agg #[.int .i64 (poW r), .int .i64 (poH r), .slice (poA r) (poN r) (poC r)], .int .i64 (plE sp ps k)]) (fun r => poB 28 r)) := by
 by_cases hc : chkP sp ps = 0
 ·obtain ⟨W, H, hok⟩ := chkP_zero hc
  obtain ⟨b, o, rfl, h⟩ := hps.at hok.n0
  by_cases hk : 0 ≤ k ∧ k < ((n : Nat) : Int)
  ·obtain ⟨j, rfl⟩ := Int.eq_ofNat_of_zero_le hk.1
   have hE : plE sp ps ((j : Nat) : Int) = 0 := plE_in hc (by omega)
   refine (ref_planep_in sp b o n cap ps W H j w h hn hok (by omega)).mono fun e w' hr => Ret.to (fun r => some ⟨(pAt ps j).d.1, (pAt ps j).d.2.1, (pAt ps j).d.2.2, r.1, r.2.1, r.2.2⟩) hr (fun r hr => ⟨(by exact hr), by unfold plD; rw [if_pos hE]; rfl⟩) (fun r _ => by rw [hE]; rfl) (fun r _ => rfl)
  ·have hE : plE sp ps k = 82 := plE_out hc (by omega)
   refine (ref_planep_out sp b o n cap ps W H k w h hn hok hk).mono fun e w' hr => Ret.to (fun _ => none) hr (fun _ _ => ⟨trivial, by unfold plD; rw [if_neg (by rw [hE]; decide)]; rfl⟩) (fun _ _ => by rw [hE]; rfl) (fun _ _ => rfl)
 ·have hE : plE sp ps k = chkP sp ps := plE_bad k hc
  refine (ref_planep_bad sp ad n cap ps k w hps hn hnb hc).mono fun e w' hr => Ret.to (fun _ => none) hr (fun _ _ => ⟨trivial, by unfold plD; rw [if_neg (by rw [hE]; exact hc)]; rfl⟩) (fun _ _ => by rw [hE]; rfl) (fun _ _ => rfl)

theorem with1_eq (i W H bn bq : Nat) (k : Int) (p q : Pn) (w : World) (hh : Has w [⟨bn, [(.int .i64 k)], 3, false⟩, ⟨bq, [(.int .i64 q.W), (.int .i64 q.H), (.slice q.ad q.n q.cap)], 43, false⟩]) (hok : okP W H) (h : q.W = (W : Int) ∧ q.H = (H : Int) ∧ q.n = W * H) (hp : q.Ok w) (hk : ((i : Nat) : Int) = k) :
  Calls Try.prog 67 #[(.int .i64 (((i : Nat) : Int))), (.agg #[(.int .i64 p.W), (.int .i64 p.H), (.slice p.ad p.n p.cap)]), (.pointer (some ⟨bn, 0, none⟩)), (.pointer (some ⟨bq, 0, none⟩))] w (RetE w q.d 28) := by
 refine enter (M := None) (L := [⟨bn, [(.int .i64 k)], 3, false⟩, ⟨bq, [(.int .i64 q.W), (.int .i64 q.H), (.slice q.ad q.n q.cap)], 43, false⟩]) (n := 14) (l := [(0, (.int .i64 (((i : Nat) : Int)))), (1, (.agg #[(.int .i64 p.W), (.int .i64 p.H), (.slice p.ad p.n p.cap)])), (2, (.pointer (some ⟨bn, 0, none⟩))), (3, (.pointer (some ⟨bq, 0, none⟩)))]) Try.func67 rfl rfl (Args.cons rfl (Args.cons rfl (Args.cons rfl (Args.cons rfl (Args.nil _))))) (Hp.reads hh rfl) ?_
 refine GC.seq (GC.region ?_)
 refine GL.step (Stp.box (cs := [(.int .i64 p.W), (.int .i64 p.H), (.slice p.ad p.n p.cap)]) rfl rfl (by decide)) (fun bq1 _ => ?_)
 refine GL.step (Stp.alloc T.zr43 (by decide)) (fun bq2 _ => ?_)
 refine GL.sg rfl (by decide) ?_
 refine GL.nil (GE.thenN (GC.seq (GC.seq (GC.region ?_))))
 refine GL.mv rfl (by decide) ?_
 refine GL.val (Ex.load rfl T.ag3 (i := 2) rfl rfl) (by decide) ?_
 refine GL.val (v := (.bool true)) (Ex.cast (Ex.eql rfl rfl) (congrArg Value.bool (decide_eq_true (by exact hk)))) (by decide) ?_
 refine GL.nil (GE.thenN ?_)
 refine GC.cond rfl (fun _ => ?_) (fun hq3 => by cases hq3)
 refine GC.region ?_
 refine GL.val (v := (.agg #[(.int .i64 q.W), (.int .i64 q.H), (.slice q.ad q.n q.cap)])) (Ex.loadA rfl T.ag43 T.sz43 (i := 3) rfl (vs := [(.int .i64 q.W), (.int .i64 q.H), (.slice q.ad q.n q.cap)]) rfl rfl) (by decide) ?_
 refine GL.step (Stp.st1 (cs' := [(.int .i64 q.W), (.int .i64 q.H), (.slice q.ad q.n q.cap)]) rfl rfl rfl T.sz43 rfl rfl rfl) (fun _ _ => ?_)
 refine GL.nil (GE.thenN (GC.seq (GC.region ?_)))
 refine GL.val (v := (.agg #[(.int .i64 q.W), (.int .i64 q.H), (.slice q.ad q.n q.cap)])) (Ex.loadA rfl T.ag43 T.sz43 (i := 1) rfl (vs := [(.int .i64 q.W), (.int .i64 q.H), (.slice q.ad q.n q.cap)]) rfl rfl) (by decide) ?_
 refine GL.step (Stp.callR (σ := Nat × Nat × List Value) (p := fun rz => (q.d.2.2.map u32 ++ rz.2.2).length = rz.2.1 * 1 ∧ rz.2.1 ≤ 9223372036854775807) (v := fun rz => (.agg #[(.int .i64 q.d.1), (.int .i64 q.d.2.1), (.slice (some ⟨rz.1, 0, none⟩) q.d.2.2.length rz.2.1)])) (N := fun rz => [⟨rz.1, q.d.2.2.map u32 ++ rz.2.2, 28, true⟩]) (vs := [(.agg #[(.int .i64 q.W), (.int .i64 q.H), (.slice q.ad q.n q.cap)])]) rfl rfl T.own41 (by decide) (fun wc hw => (by exact copied_p q W H wc hok h (hp.later hw.1)))) (fun xq4 hq5 => ?_)
 refine GL.step (Stp.st1 (cs' := [(.int .i64 q.d.1), (.int .i64 q.d.2.1), (.slice (some ⟨xq4.1, 0, none⟩) q.d.2.2.length xq4.2.1)]) rfl rfl rfl T.sz43 rfl rfl rfl) (fun _ _ => ?_)
 refine GL.sg rfl (by decide) ?_
 refine GL.nil (GE.thenN (GC.ret ?_))
 refine GC.ret2 rfl (Rv.cellA rfl T.ag43 T.sz43 (L := _) (i := 1) rfl (vs := [(.int .i64 q.d.1), (.int .i64 q.d.2.1), (.slice (some ⟨xq4.1, 0, none⟩) q.d.2.2.length xq4.2.1)]) rfl rfl) (Rv.tmp rfl) (fun wN HN => ?_)
 exact HN.ret xq4 hq5 rfl (ulC (ulS (ulS (ulS (ulS ulN))))) rfl

theorem with1_ne (i W H bn bq : Nat) (k : Int) (p q : Pn) (w : World) (hh : Has w [⟨bn, [(.int .i64 k)], 3, false⟩, ⟨bq, [(.int .i64 q.W), (.int .i64 q.H), (.slice q.ad q.n q.cap)], 43, false⟩]) (hok : okP W H) (h : p.W = (W : Int) ∧ p.H = (H : Int) ∧ p.n = W * H) (hp : p.Ok w) (hk : ¬ ((i : Nat) : Int) = k) :
  Calls Try.prog 67 #[(.int .i64 (((i : Nat) : Int))), (.agg #[(.int .i64 p.W), (.int .i64 p.H), (.slice p.ad p.n p.cap)]), (.pointer (some ⟨bn, 0, none⟩)), (.pointer (some ⟨bq, 0, none⟩))] w (RetE w p.d 28) := by
 refine enter (M := None) (L := [⟨bn, [(.int .i64 k)], 3, false⟩, ⟨bq, [(.int .i64 q.W), (.int .i64 q.H), (.slice q.ad q.n q.cap)], 43, false⟩]) (n := 14) (l := [(0, (.int .i64 (((i : Nat) : Int)))), (1, (.agg #[(.int .i64 p.W), (.int .i64 p.H), (.slice p.ad p.n p.cap)])), (2, (.pointer (some ⟨bn, 0, none⟩))), (3, (.pointer (some ⟨bq, 0, none⟩)))]) Try.func67 rfl rfl (Args.cons rfl (Args.cons rfl (Args.cons rfl (Args.cons rfl (Args.nil _))))) (Hp.reads hh rfl) ?_
 refine GC.seq (GC.region ?_)
 refine GL.step (Stp.box (cs := [(.int .i64 p.W), (.int .i64 p.H), (.slice p.ad p.n p.cap)]) rfl rfl (by decide)) (fun bq1 _ => ?_)
 refine GL.step (Stp.alloc T.zr43 (by decide)) (fun bq2 _ => ?_)
 refine GL.sg rfl (by decide) ?_
 refine GL.nil (GE.thenN (GC.seq (GC.seq (GC.region ?_))))
 refine GL.mv rfl (by decide) ?_
 refine GL.val (Ex.load rfl T.ag3 (i := 2) rfl rfl) (by decide) ?_
 refine GL.val (v := (.bool false)) (Ex.cast (Ex.eql rfl rfl) (congrArg Value.bool (decide_eq_false (by exact hk)))) (by decide) ?_
 refine GL.nil (GE.thenN ?_)
 refine GC.cond rfl (fun hq3 => by cases hq3) (fun _ => ?_)
 refine GC.skip (GE.thenN (GC.seq (GC.region ?_)))
 refine GL.val (v := (.agg #[(.int .i64 p.W), (.int .i64 p.H), (.slice p.ad p.n p.cap)])) (Ex.loadA rfl T.ag43 T.sz43 (i := 1) rfl (vs := [(.int .i64 p.W), (.int .i64 p.H), (.slice p.ad p.n p.cap)]) rfl rfl) (by decide) ?_
 refine GL.step (Stp.callR (σ := Nat × Nat × List Value) (p := fun rz => (p.d.2.2.map u32 ++ rz.2.2).length = rz.2.1 * 1 ∧ rz.2.1 ≤ 9223372036854775807) (v := fun rz => (.agg #[(.int .i64 p.d.1), (.int .i64 p.d.2.1), (.slice (some ⟨rz.1, 0, none⟩) p.d.2.2.length rz.2.1)])) (N := fun rz => [⟨rz.1, p.d.2.2.map u32 ++ rz.2.2, 28, true⟩]) (vs := [(.agg #[(.int .i64 p.W), (.int .i64 p.H), (.slice p.ad p.n p.cap)])]) rfl rfl T.own41 (by decide) (fun wc hw => (by exact copied_p p W H wc hok h (hp.later hw.1)))) (fun xq4 hq5 => ?_)
 refine GL.step (Stp.st1 (cs' := [(.int .i64 p.d.1), (.int .i64 p.d.2.1), (.slice (some ⟨xq4.1, 0, none⟩) p.d.2.2.length xq4.2.1)]) rfl rfl rfl T.sz43 rfl rfl rfl) (fun _ _ => ?_)
 refine GL.sg rfl (by decide) ?_
 refine GL.nil (GE.thenN (GC.ret ?_))
 refine GC.ret2 rfl (Rv.cellA rfl T.ag43 T.sz43 (L := _) (i := 1) rfl (vs := [(.int .i64 p.d.1), (.int .i64 p.d.2.1), (.slice (some ⟨xq4.1, 0, none⟩) p.d.2.2.length xq4.2.1)]) rfl rfl) (Rv.tmp rfl) (fun wN HN => ?_)
 exact HN.ret xq4 hq5 rfl (ulC (ulS (ulS (ulS (ulS ulN))))) rfl

theorem withp_ok (sp : Int) (b o n cap : Nat) (ps : List Pn) (W H : Nat) (j : Nat) (q : Pn) (w : World) (hps : Pns w b o ps) (hn : n = ps.length) (hok : OkPic sp ps W H) (hj : j < n) (hq : q.Ok w) (hqc : q.W = (W : Int) ∧ q.H = (H : Int) ∧ q.n = W * H) :
  Calls Try.prog 29 #[(.agg #[(.int .i64 sp), (.slice (some ⟨b, o, none⟩) n cap)]), (.int .i64 (((j : Nat) : Int))), (.agg #[(.int .i64 q.W), (.int .i64 q.H), (.slice q.ad q.n q.cap)])] w (Ret w (fun r : Ac => r.qs ≠ [] ∧ r.ds = ((List.range n).map (wiG ps ((j : Nat) : Int) q)) ∧ r.Ok ∧ ∀ q ∈ r.qs, q.Ok) (fun r => .tuple #[(.agg #[(.int .i64 sp), (.slice r.ad r.n r.cp)]), .int .i64 0]) (fun r => r.blks 43 28)) := by
 refine enter (M := None) (L := []) (n := 51) (l := [(0, (.agg #[(.int .i64 sp), (.slice (some ⟨b, o, none⟩) n cap)])), (1, (.int .i64 (((j : Nat) : Int)))), (2, (.agg #[(.int .i64 q.W), (.int .i64 q.H), (.slice q.ad q.n q.cap)]))]) Try.func29 rfl rfl (Args.cons rfl (Args.cons rfl (Args.cons rfl (Args.nil _)))) (Hp.start _ _) ?_
 refine GC.seq (GC.region ?_)
 refine GL.step (Stp.box (cs := [(.int .i64 sp), (.slice (some ⟨b, o, none⟩) n cap)]) rfl rfl (by decide)) (fun bq1 _ => ?_)
 refine GL.step (Stp.box (cs := [(.int .i64 (((j : Nat) : Int)))]) rfl rfl (by decide)) (fun bq2 _ => ?_)
 refine GL.step (Stp.box (cs := [(.int .i64 q.W), (.int .i64 q.H), (.slice q.ad q.n q.cap)]) rfl rfl (by decide)) (fun bq3 _ => ?_)
 refine GL.step (Stp.alloc T.zr25 (by decide)) (fun bq4 _ => ?_)
 refine GL.sg rfl (by decide) ?_
 refine GL.nil (GE.thenN (GC.seq (GC.seq (GC.region ?_))))
 refine GL.val (v := (.agg #[(.int .i64 sp), (.slice (some ⟨b, o, none⟩) n cap)])) (Ex.loadA rfl T.ag25 T.sz25 (i := 3) rfl (vs := [(.int .i64 sp), (.slice (some ⟨b, o, none⟩) n cap)]) rfl rfl) (by decide) ?_
 refine GL.step (Stp.callR (σ := Unit) (p := fun rz => True) (v := fun rz => (.int .i64 0)) (N := fun rz => []) (vs := [(.agg #[(.int .i64 sp), (.slice (some ⟨b, o, none⟩) n cap)])]) rfl rfl T.own9 (by decide) (fun wc hw => (by have h := chk_p sp b o n cap ps wc (hps.later hw.1) hn (by have := hok.n4; omega); rw [hok.chk] at h; exact h))) (fun xq5 hq6 => ?_)
 refine GL.sg rfl (by decide) ?_
 refine GL.nil (GE.thenN (GC.seq (GC.region ?_)))
 refine GL.mv rfl (by decide) ?_
 refine GL.val (v := (.bool false)) (Ex.cast (Ex.neq rfl rfl) rfl) (by decide) ?_
 refine GL.nil (GE.thenN ?_)
 refine GC.cond rfl (fun hq7 => by cases hq7) (fun _ => ?_)
 refine GC.skip (GE.thenN (GC.seq (GC.seq (GC.region ?_))))
 refine GL.val (v := (.agg #[(.int .i64 sp), (.slice (some ⟨b, o, none⟩) n cap)])) (Ex.loadA rfl T.ag25 T.sz25 (i := 3) rfl (vs := [(.int .i64 sp), (.slice (some ⟨b, o, none⟩) n cap)]) rfl rfl) (by decide) ?_
 refine GL.val (Ex.load rfl T.ag3 (i := 2) rfl rfl) (by decide) ?_
 refine GL.step (Stp.callR (vs := [(.agg #[(.int .i64 sp), (.slice (some ⟨b, o, none⟩) n cap)]), (.int .i64 (((j : Nat) : Int)))]) rfl rfl T.own61 (by decide) (fun wc hw => has sp (((j : Nat) : Int)) ((some ⟨b, o, none⟩)) n cap wc)) (fun xq8 hq9 => ?_)
 refine GL.val (v := (.bool (!(decide (0 ≤ (((j : Nat) : Int)) ∧ (((j : Nat) : Int)) < ((n : Nat) : Int)))))) (Ex.not rfl) (by decide) ?_
 refine GL.nil (GE.thenN ?_)
 refine GC.cond rfl (fun hq10 => by exfalso; simp at hq10; omega) (fun _ => ?_)
 refine GC.skip (GE.thenN (GC.seq (GC.seq (GC.region ?_))))
 refine GL.val (v := (.agg #[(.int .i64 q.W), (.int .i64 q.H), (.slice q.ad q.n q.cap)])) (Ex.loadA rfl T.ag43 T.sz43 (i := 1) rfl (vs := [(.int .i64 q.W), (.int .i64 q.H), (.slice q.ad q.n q.cap)]) rfl rfl) (by decide) ?_
 refine GL.step (Stp.callR (σ := Unit) (p := fun rz => True) (v := fun rz => (.int .i64 0)) (N := fun rz => []) (vs := [(.agg #[(.int .i64 q.W), (.int .i64 q.H), (.slice q.ad q.n q.cap)])]) rfl rfl T.own34 (by decide) (fun wc hw => (by have h := check q.W q.H q.ad q.n q.cap wc; rw [show Sx.chk q.W q.H q.n = 0 from by rw [hqc.1, hqc.2.1, hqc.2.2]; exact chk_ok hok.ok] at h; exact h))) (fun xq11 hq12 => ?_)
 refine GL.sg rfl (by decide) ?_
 refine GL.nil (GE.thenN (GC.seq (GC.region ?_)))
 refine GL.mv rfl (by decide) ?_
 refine GL.val (v := (.bool false)) (Ex.cast (Ex.neq rfl rfl) rfl) (by decide) ?_
 refine GL.nil (GE.thenN ?_)
 refine GC.cond rfl (fun hq13 => by cases hq13) (fun _ => ?_)
 refine GC.skip (GE.thenN (GC.seq (GC.seq ?_)))
 refine GC.draw [⟨bq4, [(.int .i64 0), (.slice none 0 0)], 25, true⟩, ⟨bq3, [(.int .i64 q.W), (.int .i64 q.H), (.slice q.ad q.n q.cap)], 43, true⟩, ⟨bq2, [(.int .i64 (((j : Nat) : Int)))], 3, true⟩, ⟨bq1, [(.int .i64 sp), (.slice (some ⟨b, o, none⟩) n cap)], 25, true⟩] T.mixed (fuel := 18) rfl rfl ?_
 refine GH.tk 0 (v := (.pointer (some ⟨bq3, 0, none⟩))) rfl (by kernel_rfl) (fun _ _ _ h => h) (Ex.cast (Ex.fieldAddr rfl Try.underlying43 rfl T.sz3 (by decide)) rfl) (ulC (ulC (ulC (ulC ulN)))) (by decide) ?_
 refine GH.tk 1 (v := (.int .i64 q.W)) rfl (by kernel_rfl) (fun _ _ _ h => h) (Ex.load rfl T.ag3 (i := 1) rfl rfl) (ulC (ulC (ulC (ulC ulN)))) (by decide) ?_
 refine GH.tk 2 (v := (.pointer (some ⟨bq1, 1, none⟩))) rfl (by kernel_rfl) (fun _ _ _ h => h) (Ex.cast (Ex.fieldAddr rfl Try.underlying25 rfl T.sz23 (by decide)) rfl) (ulC (ulC (ulC (ulC ulN)))) (by decide) ?_
 refine GH.tk 3 (v := (.slice (some ⟨b, o, none⟩) n cap)) rfl (by kernel_rfl) (fun _ _ _ h => h) (Ex.load rfl T.ag23 (i := 3) rfl rfl) (ulC (ulC (ulC (ulC ulN)))) (by decide) ?_
 refine GH.tk 4 (v := (.pointer (some ⟨b, o, none⟩))) rfl (by kernel_rfl) (fun _ _ _ h => h) (Ex.cast (Ex.indexAddr rfl rfl Try.underlying23 T.sz43 (by omega) (by omega)) rfl) (ulC (ulC (ulC (ulC ulN)))) (by decide) ?_
 refine GH.tk 5 (v := (.pointer (some ⟨b, o, none⟩))) rfl (by kernel_rfl) (fun _ _ _ h => h) (Ex.cast (Ex.fieldAddr rfl Try.underlying43 rfl T.sz3 (by decide)) rfl) (ulC (ulC (ulC (ulC ulN)))) (by decide) ?_
 refine GH.tk 6 (v := (.int .i64 ((pAt ps 0).W))) rfl (by kernel_rfl) (fun _ _ _ h => h) (Ex.loadO rfl T.ag3 (Pns.cell (i := 0) (j := 0) hps (by omega) (by decide) rfl) (fun x => x)) (ulC (ulC (ulC (ulC ulN)))) (by decide) ?_
 refine GH.tk 7 (v := (.bool false)) rfl (by kernel_rfl) (fun _ _ _ h => h) (Ex.cast (Ex.neq rfl rfl) (congrArg Value.bool (decide_eq_false (by have h1 := hok.at hok.n0; exact fun h => h (by first | rw [hqc.1, h1.1] | rw [hqc.2.1, h1.2.1]))))) (ulC (ulC (ulC (ulC ulN)))) (by decide) ?_
 refine GH.tk 8 (v := (.bool false)) rfl (by kernel_rfl) (fun _ _ _ h => h) (Ex.move rfl) (ulC (ulC (ulC (ulC ulN)))) (by decide) ?_
 refine GH.takeG 9 (tj := 35) (v := (.pointer (some ⟨bq3, 1, none⟩))) rfl rfl rfl (by kernel_rfl) (by kernel_rfl) (by kernel_rfl) (fun _ _ _ h => h) (Ex.cast (Ex.fieldAddr rfl Try.underlying43 rfl T.sz3 (by decide)) rfl) (ulC (ulC (ulC (ulC ulN)))) (by decide) ?_
 refine GH.takeG 10 (tj := 35) (v := (.int .i64 q.H)) rfl rfl rfl (by kernel_rfl) (by kernel_rfl) (by kernel_rfl) (fun _ _ _ h => h) (Ex.load rfl T.ag3 (i := 1) rfl rfl) (ulC (ulC (ulC (ulC ulN)))) (by decide) ?_
 refine GH.takeG 11 (tj := 35) (v := (.pointer (some ⟨bq1, 1, none⟩))) rfl rfl rfl (by kernel_rfl) (by kernel_rfl) (by kernel_rfl) (fun _ _ _ h => h) (Ex.cast (Ex.fieldAddr rfl Try.underlying25 rfl T.sz23 (by decide)) rfl) (ulC (ulC (ulC (ulC ulN)))) (by decide) ?_
 refine GH.takeG 12 (tj := 35) (v := (.slice (some ⟨b, o, none⟩) n cap)) rfl rfl rfl (by kernel_rfl) (by kernel_rfl) (by kernel_rfl) (fun _ _ _ h => h) (Ex.load rfl T.ag23 (i := 3) rfl rfl) (ulC (ulC (ulC (ulC ulN)))) (by decide) ?_
 refine GH.takeG 13 (tj := 35) (v := (.pointer (some ⟨b, o, none⟩))) rfl rfl rfl (by kernel_rfl) (by kernel_rfl) (by kernel_rfl) (fun _ _ _ h => h) (Ex.cast (Ex.indexAddr rfl rfl Try.underlying23 T.sz43 (by omega) (by omega)) rfl) (ulC (ulC (ulC (ulC ulN)))) (by decide) ?_
 refine GH.takeG 14 (tj := 35) (v := (.pointer (some ⟨b, o + 1, none⟩))) rfl rfl rfl (by kernel_rfl) (by kernel_rfl) (by kernel_rfl) (fun _ _ _ h => h) (Ex.cast (Ex.fieldAddr rfl Try.underlying43 rfl T.sz3 (by decide)) rfl) (ulC (ulC (ulC (ulC ulN)))) (by decide) ?_
 refine GH.takeG 15 (tj := 35) (v := (.int .i64 ((pAt ps 0).H))) rfl rfl rfl (by kernel_rfl) (by kernel_rfl) (by kernel_rfl) (fun _ _ _ h => h) (Ex.loadO rfl T.ag3 (Pns.cell (i := 0) (j := 1) hps (by omega) (by decide) rfl) (fun x => x)) (ulC (ulC (ulC (ulC ulN)))) (by decide) ?_
 refine GH.takeG 16 (tj := 35) (v := (.bool false)) rfl rfl rfl (by kernel_rfl) (by kernel_rfl) (by kernel_rfl) (fun _ _ _ h => h) (Ex.cast (Ex.neq rfl rfl) (congrArg Value.bool (decide_eq_false (by have h1 := hok.at hok.n0; exact fun h => h (by first | rw [hqc.1, h1.1] | rw [hqc.2.1, h1.2.1]))))) (ulC (ulC (ulC (ulC ulN)))) (by decide) ?_
 refine GH.tk 17 (v := (.bool false)) rfl (by kernel_rfl) (fun _ _ _ h => h) (Ex.pickF rfl rfl) (ulC (ulC (ulC (ulC ulN)))) (by decide) ?_
 refine GH.done (by kernel_rfl) ?_
 refine GE.thenN ?_
 refine GC.cond rfl (fun hq14 => by cases hq14) (fun _ => ?_)
 refine GC.skip (GE.thenN (GC.seq (GC.region ?_)))
 refine GL.val (v := (.agg #[(.int .i64 sp), (.slice (some ⟨b, o, none⟩) n cap)])) (Ex.loadA rfl T.ag25 T.sz25 (i := 3) rfl (vs := [(.int .i64 sp), (.slice (some ⟨b, o, none⟩) n cap)]) rfl rfl) (by decide) ?_
 refine GL.val (v := (.func (.func 67) #[] #[(.pointer (some ⟨bq2, 0, none⟩)), (.pointer (some ⟨bq3, 0, none⟩))])) (Ex.func (cs := [(.pointer (some ⟨bq2, 0, none⟩)), (.pointer (some ⟨bq3, 0, none⟩))]) rfl (fun _ hF => hF.evals _ _ rfl)) (by decide) ?_
 refine GL.step (Stp.call (vs := [(.agg #[(.int .i64 sp), (.slice (some ⟨b, o, none⟩) n cap)]), (.func (.func 67) #[] #[(.pointer (some ⟨bq2, 0, none⟩)), (.pointer (some ⟨bq3, 0, none⟩))])]) rfl rfl T.own36 (by decide) (fun wc hw => (Ret.frm (L' := fun x => (⟨bq4, [(.int .i64 0), (.slice none 0 0)], 25, true⟩ :: ⟨bq3, [(.int .i64 q.W), (.int .i64 q.H), (.slice q.ad q.n q.cap)], 43, true⟩ :: ⟨bq2, [(.int .i64 (((j : Nat) : Int)))], 3, true⟩ :: ⟨bq1, [(.int .i64 sp), (.slice (some ⟨b, o, none⟩) n cap)], 25, true⟩ :: (x.blks 43 28 ++ []))) hw (every_ok sp b o n cap ps W H 67 #[.pointer (some ⟨bq2, 0, none⟩), .pointer (some ⟨bq3, 0, none⟩)] (wiG ps ((j : Nat) : Int) q) wc (hps.later hw.1) hn hok ⟨T.own67, fun i hi w' hk' => by
  have hh := ((Has.cons (hw.hasOf (i := 2) rfl) (Has.cons (hw.hasOf (i := 1) rfl) (Has.nil _)) : Has wc [⟨bq2, [.int .i64 ((j : Nat) : Int)], 3, false⟩, ⟨bq3, [(.int .i64 q.W), (.int .i64 q.H), (.slice q.ad q.n q.cap)], 43, false⟩]).later hk')
  by_cases hik : ((i : Nat) : Int) = ((j : Nat) : Int)
  ·rw [show wiG ps ((j : Nat) : Int) q i = q.d from if_pos hik]; exact with1_eq i W H bq2 bq3 ((j : Nat) : Int) (pAt ps i) q w' hh hok.ok hqc (hq.later (hw.1.trans hk' (fun _ _ h => h))) hik
  ·rw [show wiG ps ((j : Nat) : Int) q i = (pAt ps i).d from if_neg hik]; exact with1_ne i W H bq2 bq3 ((j : Nat) : Int) (pAt ps i) q w' hh hok.ok (hok.at hi) ((hps.ok _ (pAt_mem hi)).later (hw.1.trans hk' (fun _ _ h => h))) hik⟩) (fun x w' _ h => by exact Hp.segsD (A := [x.blks 43 28, [⟨bq4, [(.int .i64 0), (.slice none 0 0)], 25, true⟩, ⟨bq3, [(.int .i64 q.W), (.int .i64 q.H), (.slice q.ad q.n q.cap)], 43, true⟩, ⟨bq2, [(.int .i64 (((j : Nat) : Int)))], 3, true⟩, ⟨bq1, [(.int .i64 sp), (.slice (some ⟨b, o, none⟩) n cap)], 25, true⟩]]) (idx := [1, 0]) 2 [] h rfl (by decide) rfl)))) (fun xq15 hq16 => ?_)
 refine GL.val (Ex.extract rfl rfl) (by decide) ?_
 refine GL.val (Ex.extract rfl rfl) (by decide) ?_
 refine GL.step (Stp.st0 (cs' := [(.int .i64 sp), (.slice xq15.ad xq15.n xq15.cp)]) rfl rfl rfl T.sz25 rfl rfl rfl) (fun _ _ => ?_)
 refine GL.sg rfl (by decide) ?_
 refine GL.nil (GE.thenN (GC.ret ?_))
 refine GC.ret2 rfl (Rv.cellA rfl T.ag25 T.sz25 (L := _) (i := 0) rfl (vs := [(.int .i64 sp), (.slice xq15.ad xq15.n xq15.cp)]) rfl rfl) (Rv.tmp rfl) (fun wN HN => ?_)
 exact HN.ret xq15 hq16 rfl (by rw [List.append_nil]; exact ((ulS (ulS (ulS (ulS ulR)))))) (Ac.blks_own _ _ _)

theorem withp_bad (sp : Int) (ad : Option Addr) (n cap : Nat) (ps : List Pn) (k : Int) (q : Pn) (w : World) (hps : PnsA w ad ps) (hn : n = ps.length) (hnb : n ≤ 35184372087808) (hc : chkP sp ps ≠ 0) :
  Calls Try.prog 29 #[(.agg #[(.int .i64 sp), (.slice ad n cap)]), (.int .i64 k), (.agg #[(.int .i64 q.W), (.int .i64 q.H), (.slice q.ad q.n q.cap)])] w (Ret w (fun _ : Unit => True) (fun _ => .tuple #[(.agg #[(.int .i64 0), (.slice none 0 0)]), .int .i64 ((chkP sp ps))]) (fun _ => [])) := by
 refine enter (M := None) (L := []) (n := 51) (l := [(0, (.agg #[(.int .i64 sp), (.slice ad n cap)])), (1, (.int .i64 k)), (2, (.agg #[(.int .i64 q.W), (.int .i64 q.H), (.slice q.ad q.n q.cap)]))]) Try.func29 rfl rfl (Args.cons rfl (Args.cons rfl (Args.cons rfl (Args.nil _)))) (Hp.start _ _) ?_
 refine GC.seq (GC.region ?_)
 refine GL.step (Stp.box (cs := [(.int .i64 sp), (.slice ad n cap)]) rfl rfl (by decide)) (fun bq1 _ => ?_)
 refine GL.step (Stp.box (cs := [(.int .i64 k)]) rfl rfl (by decide)) (fun bq2 _ => ?_)
 refine GL.step (Stp.box (cs := [(.int .i64 q.W), (.int .i64 q.H), (.slice q.ad q.n q.cap)]) rfl rfl (by decide)) (fun bq3 _ => ?_)
 refine GL.step (Stp.alloc T.zr25 (by decide)) (fun bq4 _ => ?_)
 refine GL.sg rfl (by decide) ?_
 refine GL.nil (GE.thenN (GC.seq (GC.seq (GC.region ?_))))
 refine GL.val (v := (.agg #[(.int .i64 sp), (.slice ad n cap)])) (Ex.loadA rfl T.ag25 T.sz25 (i := 3) rfl (vs := [(.int .i64 sp), (.slice ad n cap)]) rfl rfl) (by decide) ?_
 refine GL.step (Stp.callR (vs := [(.agg #[(.int .i64 sp), (.slice ad n cap)])]) rfl rfl T.own9 (by decide) (fun wc hw => chk_p_a sp ad n cap ps wc (hps.later hw.1) hn hnb)) (fun xq5 hq6 => ?_)
 refine GL.sg rfl (by decide) ?_
 refine GL.nil (GE.thenN (GC.seq (GC.region ?_)))
 refine GL.mv rfl (by decide) ?_
 refine GL.val (v := (.bool true)) (Ex.cast (Ex.neq rfl rfl) (congrArg Value.bool (decide_eq_true (by exact hc)))) (by decide) ?_
 refine GL.nil (GE.thenN ?_)
 refine GC.cond rfl (fun _ => ?_) (fun hq7 => by cases hq7)
 refine GC.seq (GC.region ?_)
 refine GL.val (v := (.agg #[(.int .i64 0), (.slice none 0 0)])) (Ex.build (vs := []) rfl (by first | rfl | kernel_rfl)) (by decide) ?_
 refine GL.mv rfl (by decide) ?_
 refine GL.step (Stp.st0 (cs' := [(.int .i64 0), (.slice none 0 0)]) rfl rfl rfl T.sz25 rfl rfl rfl) (fun _ _ => ?_)
 refine GL.sg rfl (by decide) ?_
 refine GL.nil (GE.thenN (GC.ret (GE.thenR ?_)))
 refine GC.ret2 rfl (Rv.cellA rfl T.ag25 T.sz25 (L := _) (i := 0) rfl (vs := [(.int .i64 0), (.slice none 0 0)]) rfl rfl) (Rv.tmp rfl) (fun wN HN => ?_)
 exact HN.ret () trivial rfl (List.nil_sublist _) rfl

theorem withp_out (sp : Int) (b o n cap : Nat) (ps : List Pn) (W H : Nat) (k : Int) (q : Pn) (w : World) (hps : Pns w b o ps) (hn : n = ps.length) (hok : OkPic sp ps W H) (hk : ¬ (0 ≤ k ∧ k < ((n : Nat) : Int))) :
  Calls Try.prog 29 #[(.agg #[(.int .i64 sp), (.slice (some ⟨b, o, none⟩) n cap)]), (.int .i64 k), (.agg #[(.int .i64 q.W), (.int .i64 q.H), (.slice q.ad q.n q.cap)])] w (Ret w (fun _ : Unit => True) (fun _ => .tuple #[(.agg #[(.int .i64 0), (.slice none 0 0)]), .int .i64 82]) (fun _ => [])) := by
 refine enter (M := None) (L := []) (n := 51) (l := [(0, (.agg #[(.int .i64 sp), (.slice (some ⟨b, o, none⟩) n cap)])), (1, (.int .i64 k)), (2, (.agg #[(.int .i64 q.W), (.int .i64 q.H), (.slice q.ad q.n q.cap)]))]) Try.func29 rfl rfl (Args.cons rfl (Args.cons rfl (Args.cons rfl (Args.nil _)))) (Hp.start _ _) ?_
 refine GC.seq (GC.region ?_)
 refine GL.step (Stp.box (cs := [(.int .i64 sp), (.slice (some ⟨b, o, none⟩) n cap)]) rfl rfl (by decide)) (fun bq1 _ => ?_)
 refine GL.step (Stp.box (cs := [(.int .i64 k)]) rfl rfl (by decide)) (fun bq2 _ => ?_)
 refine GL.step (Stp.box (cs := [(.int .i64 q.W), (.int .i64 q.H), (.slice q.ad q.n q.cap)]) rfl rfl (by decide)) (fun bq3 _ => ?_)
 refine GL.step (Stp.alloc T.zr25 (by decide)) (fun bq4 _ => ?_)
 refine GL.sg rfl (by decide) ?_
 refine GL.nil (GE.thenN (GC.seq (GC.seq (GC.region ?_))))
 refine GL.val (v := (.agg #[(.int .i64 sp), (.slice (some ⟨b, o, none⟩) n cap)])) (Ex.loadA rfl T.ag25 T.sz25 (i := 3) rfl (vs := [(.int .i64 sp), (.slice (some ⟨b, o, none⟩) n cap)]) rfl rfl) (by decide) ?_
 refine GL.step (Stp.callR (σ := Unit) (p := fun rz => True) (v := fun rz => (.int .i64 0)) (N := fun rz => []) (vs := [(.agg #[(.int .i64 sp), (.slice (some ⟨b, o, none⟩) n cap)])]) rfl rfl T.own9 (by decide) (fun wc hw => (by have h := chk_p sp b o n cap ps wc (hps.later hw.1) hn (by have := hok.n4; omega); rw [hok.chk] at h; exact h))) (fun xq5 hq6 => ?_)
 refine GL.sg rfl (by decide) ?_
 refine GL.nil (GE.thenN (GC.seq (GC.region ?_)))
 refine GL.mv rfl (by decide) ?_
 refine GL.val (v := (.bool false)) (Ex.cast (Ex.neq rfl rfl) rfl) (by decide) ?_
 refine GL.nil (GE.thenN ?_)
 refine GC.cond rfl (fun hq7 => by cases hq7) (fun _ => ?_)
 refine GC.skip (GE.thenN (GC.seq (GC.seq (GC.region ?_))))
 refine GL.val (v := (.agg #[(.int .i64 sp), (.slice (some ⟨b, o, none⟩) n cap)])) (Ex.loadA rfl T.ag25 T.sz25 (i := 3) rfl (vs := [(.int .i64 sp), (.slice (some ⟨b, o, none⟩) n cap)]) rfl rfl) (by decide) ?_
 refine GL.val (Ex.load rfl T.ag3 (i := 2) rfl rfl) (by decide) ?_
 refine GL.step (Stp.callR (vs := [(.agg #[(.int .i64 sp), (.slice (some ⟨b, o, none⟩) n cap)]), (.int .i64 k)]) rfl rfl T.own61 (by decide) (fun wc hw => has sp k ((some ⟨b, o, none⟩)) n cap wc)) (fun xq8 hq9 => ?_)
 refine GL.val (v := (.bool (!(decide (0 ≤ k ∧ k < ((n : Nat) : Int)))))) (Ex.not rfl) (by decide) ?_
 refine GL.nil (GE.thenN ?_)
 refine GC.cond rfl (fun _ => ?_) (fun hq10 => by exfalso; simp at hq10; omega)
 refine GC.seq (GC.region ?_)
 refine GL.val (v := (.agg #[(.int .i64 0), (.slice none 0 0)])) (Ex.build (vs := []) rfl (by first | rfl | kernel_rfl)) (by decide) ?_
 refine GL.step (Stp.st0 (cs' := [(.int .i64 0), (.slice none 0 0)]) rfl rfl rfl T.sz25 rfl rfl rfl) (fun _ _ => ?_)
 refine GL.sg rfl (by decide) ?_
 refine GL.nil (GE.thenN (GC.ret (GE.thenR ?_)))
 refine GC.ret2 rfl (Rv.cellA rfl T.ag25 T.sz25 (L := _) (i := 0) rfl (vs := [(.int .i64 0), (.slice none 0 0)]) rfl rfl) (Rv.tmp rfl) (fun wN HN => ?_)
 exact HN.ret () trivial rfl (List.nil_sublist _) rfl

theorem withp_q (sp : Int) (b o n cap : Nat) (ps : List Pn) (W H : Nat) (j : Nat) (q : Pn) (w : World) (hps : Pns w b o ps) (hn : n = ps.length) (hok : OkPic sp ps W H) (hj : j < n) (hqc : Sx.chk q.W q.H q.n ≠ 0) :
  Calls Try.prog 29 #[(.agg #[(.int .i64 sp), (.slice (some ⟨b, o, none⟩) n cap)]), (.int .i64 (((j : Nat) : Int))), (.agg #[(.int .i64 q.W), (.int .i64 q.H), (.slice q.ad q.n q.cap)])] w (Ret w (fun _ : Unit => True) (fun _ => .tuple #[(.agg #[(.int .i64 0), (.slice none 0 0)]), .int .i64 ((Sx.chk q.W q.H q.n))]) (fun _ => [])) := by
 refine enter (M := None) (L := []) (n := 51) (l := [(0, (.agg #[(.int .i64 sp), (.slice (some ⟨b, o, none⟩) n cap)])), (1, (.int .i64 (((j : Nat) : Int)))), (2, (.agg #[(.int .i64 q.W), (.int .i64 q.H), (.slice q.ad q.n q.cap)]))]) Try.func29 rfl rfl (Args.cons rfl (Args.cons rfl (Args.cons rfl (Args.nil _)))) (Hp.start _ _) ?_
 refine GC.seq (GC.region ?_)
 refine GL.step (Stp.box (cs := [(.int .i64 sp), (.slice (some ⟨b, o, none⟩) n cap)]) rfl rfl (by decide)) (fun bq1 _ => ?_)
 refine GL.step (Stp.box (cs := [(.int .i64 (((j : Nat) : Int)))]) rfl rfl (by decide)) (fun bq2 _ => ?_)
 refine GL.step (Stp.box (cs := [(.int .i64 q.W), (.int .i64 q.H), (.slice q.ad q.n q.cap)]) rfl rfl (by decide)) (fun bq3 _ => ?_)
 refine GL.step (Stp.alloc T.zr25 (by decide)) (fun bq4 _ => ?_)
 refine GL.sg rfl (by decide) ?_
 refine GL.nil (GE.thenN (GC.seq (GC.seq (GC.region ?_))))
 refine GL.val (v := (.agg #[(.int .i64 sp), (.slice (some ⟨b, o, none⟩) n cap)])) (Ex.loadA rfl T.ag25 T.sz25 (i := 3) rfl (vs := [(.int .i64 sp), (.slice (some ⟨b, o, none⟩) n cap)]) rfl rfl) (by decide) ?_
 refine GL.step (Stp.callR (σ := Unit) (p := fun rz => True) (v := fun rz => (.int .i64 0)) (N := fun rz => []) (vs := [(.agg #[(.int .i64 sp), (.slice (some ⟨b, o, none⟩) n cap)])]) rfl rfl T.own9 (by decide) (fun wc hw => (by have h := chk_p sp b o n cap ps wc (hps.later hw.1) hn (by have := hok.n4; omega); rw [hok.chk] at h; exact h))) (fun xq5 hq6 => ?_)
 refine GL.sg rfl (by decide) ?_
 refine GL.nil (GE.thenN (GC.seq (GC.region ?_)))
 refine GL.mv rfl (by decide) ?_
 refine GL.val (v := (.bool false)) (Ex.cast (Ex.neq rfl rfl) rfl) (by decide) ?_
 refine GL.nil (GE.thenN ?_)
 refine GC.cond rfl (fun hq7 => by cases hq7) (fun _ => ?_)
 refine GC.skip (GE.thenN (GC.seq (GC.seq (GC.region ?_))))
 refine GL.val (v := (.agg #[(.int .i64 sp), (.slice (some ⟨b, o, none⟩) n cap)])) (Ex.loadA rfl T.ag25 T.sz25 (i := 3) rfl (vs := [(.int .i64 sp), (.slice (some ⟨b, o, none⟩) n cap)]) rfl rfl) (by decide) ?_
 refine GL.val (Ex.load rfl T.ag3 (i := 2) rfl rfl) (by decide) ?_
 refine GL.step (Stp.callR (vs := [(.agg #[(.int .i64 sp), (.slice (some ⟨b, o, none⟩) n cap)]), (.int .i64 (((j : Nat) : Int)))]) rfl rfl T.own61 (by decide) (fun wc hw => has sp (((j : Nat) : Int)) ((some ⟨b, o, none⟩)) n cap wc)) (fun xq8 hq9 => ?_)
 refine GL.val (v := (.bool (!(decide (0 ≤ (((j : Nat) : Int)) ∧ (((j : Nat) : Int)) < ((n : Nat) : Int)))))) (Ex.not rfl) (by decide) ?_
 refine GL.nil (GE.thenN ?_)
 refine GC.cond rfl (fun hq10 => by exfalso; simp at hq10; omega) (fun _ => ?_)
 refine GC.skip (GE.thenN (GC.seq (GC.seq (GC.region ?_))))
 refine GL.val (v := (.agg #[(.int .i64 q.W), (.int .i64 q.H), (.slice q.ad q.n q.cap)])) (Ex.loadA rfl T.ag43 T.sz43 (i := 1) rfl (vs := [(.int .i64 q.W), (.int .i64 q.H), (.slice q.ad q.n q.cap)]) rfl rfl) (by decide) ?_
 refine GL.step (Stp.callR (vs := [(.agg #[(.int .i64 q.W), (.int .i64 q.H), (.slice q.ad q.n q.cap)])]) rfl rfl T.own34 (by decide) (fun wc hw => check q.W q.H q.ad q.n q.cap wc)) (fun xq11 hq12 => ?_)
 refine GL.sg rfl (by decide) ?_
 refine GL.nil (GE.thenN (GC.seq (GC.region ?_)))
 refine GL.mv rfl (by decide) ?_
 refine GL.val (v := (.bool true)) (Ex.cast (Ex.neq rfl rfl) (congrArg Value.bool (decide_eq_true (by exact hqc)))) (by decide) ?_
 refine GL.nil (GE.thenN ?_)
 refine GC.cond rfl (fun _ => ?_) (fun hq13 => by cases hq13)
 refine GC.seq (GC.region ?_)
 refine GL.val (v := (.agg #[(.int .i64 0), (.slice none 0 0)])) (Ex.build (vs := []) rfl (by first | rfl | kernel_rfl)) (by decide) ?_
 refine GL.mv rfl (by decide) ?_
 refine GL.step (Stp.st0 (cs' := [(.int .i64 0), (.slice none 0 0)]) rfl rfl rfl T.sz25 rfl rfl rfl) (fun _ _ => ?_)
 refine GL.sg rfl (by decide) ?_
 refine GL.nil (GE.thenN (GC.ret (GE.thenR ?_)))
 refine GC.ret2 rfl (Rv.cellA rfl T.ag25 T.sz25 (L := _) (i := 0) rfl (vs := [(.int .i64 0), (.slice none 0 0)]) rfl rfl) (Rv.tmp rfl) (fun wN HN => ?_)
 exact HN.ret () trivial rfl (List.nil_sublist _) rfl

theorem withp_s (sp : Int) (b o n cap : Nat) (ps : List Pn) (W H : Nat) (j : Nat) (q : Pn) (w : World) (hps : Pns w b o ps) (hn : n = ps.length) (hok : OkPic sp ps W H) (hj : j < n) (hqc : Sx.chk q.W q.H q.n = 0) (hs : q.W ≠ (pAt ps 0).W ∨ q.H ≠ (pAt ps 0).H) :
  Calls Try.prog 29 #[(.agg #[(.int .i64 sp), (.slice (some ⟨b, o, none⟩) n cap)]), (.int .i64 (((j : Nat) : Int))), (.agg #[(.int .i64 q.W), (.int .i64 q.H), (.slice q.ad q.n q.cap)])] w (Ret w (fun _ : Unit => True) (fun _ => .tuple #[(.agg #[(.int .i64 0), (.slice none 0 0)]), .int .i64 80]) (fun _ => [])) := by
 refine enter (M := None) (L := []) (n := 51) (l := [(0, (.agg #[(.int .i64 sp), (.slice (some ⟨b, o, none⟩) n cap)])), (1, (.int .i64 (((j : Nat) : Int)))), (2, (.agg #[(.int .i64 q.W), (.int .i64 q.H), (.slice q.ad q.n q.cap)]))]) Try.func29 rfl rfl (Args.cons rfl (Args.cons rfl (Args.cons rfl (Args.nil _)))) (Hp.start _ _) ?_
 refine GC.seq (GC.region ?_)
 refine GL.step (Stp.box (cs := [(.int .i64 sp), (.slice (some ⟨b, o, none⟩) n cap)]) rfl rfl (by decide)) (fun bq1 _ => ?_)
 refine GL.step (Stp.box (cs := [(.int .i64 (((j : Nat) : Int)))]) rfl rfl (by decide)) (fun bq2 _ => ?_)
 refine GL.step (Stp.box (cs := [(.int .i64 q.W), (.int .i64 q.H), (.slice q.ad q.n q.cap)]) rfl rfl (by decide)) (fun bq3 _ => ?_)
 refine GL.step (Stp.alloc T.zr25 (by decide)) (fun bq4 _ => ?_)
 refine GL.sg rfl (by decide) ?_
 refine GL.nil (GE.thenN (GC.seq (GC.seq (GC.region ?_))))
 refine GL.val (v := (.agg #[(.int .i64 sp), (.slice (some ⟨b, o, none⟩) n cap)])) (Ex.loadA rfl T.ag25 T.sz25 (i := 3) rfl (vs := [(.int .i64 sp), (.slice (some ⟨b, o, none⟩) n cap)]) rfl rfl) (by decide) ?_
 refine GL.step (Stp.callR (σ := Unit) (p := fun rz => True) (v := fun rz => (.int .i64 0)) (N := fun rz => []) (vs := [(.agg #[(.int .i64 sp), (.slice (some ⟨b, o, none⟩) n cap)])]) rfl rfl T.own9 (by decide) (fun wc hw => (by have h := chk_p sp b o n cap ps wc (hps.later hw.1) hn (by have := hok.n4; omega); rw [hok.chk] at h; exact h))) (fun xq5 hq6 => ?_)
 refine GL.sg rfl (by decide) ?_
 refine GL.nil (GE.thenN (GC.seq (GC.region ?_)))
 refine GL.mv rfl (by decide) ?_
 refine GL.val (v := (.bool false)) (Ex.cast (Ex.neq rfl rfl) rfl) (by decide) ?_
 refine GL.nil (GE.thenN ?_)
 refine GC.cond rfl (fun hq7 => by cases hq7) (fun _ => ?_)
 refine GC.skip (GE.thenN (GC.seq (GC.seq (GC.region ?_))))
 refine GL.val (v := (.agg #[(.int .i64 sp), (.slice (some ⟨b, o, none⟩) n cap)])) (Ex.loadA rfl T.ag25 T.sz25 (i := 3) rfl (vs := [(.int .i64 sp), (.slice (some ⟨b, o, none⟩) n cap)]) rfl rfl) (by decide) ?_
 refine GL.val (Ex.load rfl T.ag3 (i := 2) rfl rfl) (by decide) ?_
 refine GL.step (Stp.callR (vs := [(.agg #[(.int .i64 sp), (.slice (some ⟨b, o, none⟩) n cap)]), (.int .i64 (((j : Nat) : Int)))]) rfl rfl T.own61 (by decide) (fun wc hw => has sp (((j : Nat) : Int)) ((some ⟨b, o, none⟩)) n cap wc)) (fun xq8 hq9 => ?_)
 refine GL.val (v := (.bool (!(decide (0 ≤ (((j : Nat) : Int)) ∧ (((j : Nat) : Int)) < ((n : Nat) : Int)))))) (Ex.not rfl) (by decide) ?_
 refine GL.nil (GE.thenN ?_)
 refine GC.cond rfl (fun hq10 => by exfalso; simp at hq10; omega) (fun _ => ?_)
 refine GC.skip (GE.thenN (GC.seq (GC.seq (GC.region ?_))))
 refine GL.val (v := (.agg #[(.int .i64 q.W), (.int .i64 q.H), (.slice q.ad q.n q.cap)])) (Ex.loadA rfl T.ag43 T.sz43 (i := 1) rfl (vs := [(.int .i64 q.W), (.int .i64 q.H), (.slice q.ad q.n q.cap)]) rfl rfl) (by decide) ?_
 refine GL.step (Stp.callR (σ := Unit) (p := fun rz => True) (v := fun rz => (.int .i64 0)) (N := fun rz => []) (vs := [(.agg #[(.int .i64 q.W), (.int .i64 q.H), (.slice q.ad q.n q.cap)])]) rfl rfl T.own34 (by decide) (fun wc hw => (by have h := check q.W q.H q.ad q.n q.cap wc; rw [hqc] at h; exact h))) (fun xq11 hq12 => ?_)
 refine GL.sg rfl (by decide) ?_
 refine GL.nil (GE.thenN (GC.seq (GC.region ?_)))
 refine GL.mv rfl (by decide) ?_
 refine GL.val (v := (.bool false)) (Ex.cast (Ex.neq rfl rfl) rfl) (by decide) ?_
 refine GL.nil (GE.thenN ?_)
 refine GC.cond rfl (fun hq13 => by cases hq13) (fun _ => ?_)
 refine GC.skip (GE.thenN (GC.seq (GC.seq ?_)))
 by_cases hW : q.W = (pAt ps 0).W
 ·refine GC.draw [⟨bq4, [(.int .i64 0), (.slice none 0 0)], 25, true⟩, ⟨bq3, [(.int .i64 q.W), (.int .i64 q.H), (.slice q.ad q.n q.cap)], 43, true⟩, ⟨bq2, [(.int .i64 (((j : Nat) : Int)))], 3, true⟩, ⟨bq1, [(.int .i64 sp), (.slice (some ⟨b, o, none⟩) n cap)], 25, true⟩] T.mixed (fuel := 18) rfl rfl ?_
  refine GH.tk 0 (v := (.pointer (some ⟨bq3, 0, none⟩))) rfl (by kernel_rfl) (fun _ _ _ h => h) (Ex.cast (Ex.fieldAddr rfl Try.underlying43 rfl T.sz3 (by decide)) rfl) (ulC (ulC (ulC (ulC ulN)))) (by decide) ?_
  refine GH.tk 1 (v := (.int .i64 q.W)) rfl (by kernel_rfl) (fun _ _ _ h => h) (Ex.load rfl T.ag3 (i := 1) rfl rfl) (ulC (ulC (ulC (ulC ulN)))) (by decide) ?_
  refine GH.tk 2 (v := (.pointer (some ⟨bq1, 1, none⟩))) rfl (by kernel_rfl) (fun _ _ _ h => h) (Ex.cast (Ex.fieldAddr rfl Try.underlying25 rfl T.sz23 (by decide)) rfl) (ulC (ulC (ulC (ulC ulN)))) (by decide) ?_
  refine GH.tk 3 (v := (.slice (some ⟨b, o, none⟩) n cap)) rfl (by kernel_rfl) (fun _ _ _ h => h) (Ex.load rfl T.ag23 (i := 3) rfl rfl) (ulC (ulC (ulC (ulC ulN)))) (by decide) ?_
  refine GH.tk 4 (v := (.pointer (some ⟨b, o, none⟩))) rfl (by kernel_rfl) (fun _ _ _ h => h) (Ex.cast (Ex.indexAddr rfl rfl Try.underlying23 T.sz43 (by omega) (by omega)) rfl) (ulC (ulC (ulC (ulC ulN)))) (by decide) ?_
  refine GH.tk 5 (v := (.pointer (some ⟨b, o, none⟩))) rfl (by kernel_rfl) (fun _ _ _ h => h) (Ex.cast (Ex.fieldAddr rfl Try.underlying43 rfl T.sz3 (by decide)) rfl) (ulC (ulC (ulC (ulC ulN)))) (by decide) ?_
  refine GH.tk 6 (v := (.int .i64 ((pAt ps 0).W))) rfl (by kernel_rfl) (fun _ _ _ h => h) (Ex.loadO rfl T.ag3 (Pns.cell (i := 0) (j := 0) hps (by omega) (by decide) rfl) (fun x => x)) (ulC (ulC (ulC (ulC ulN)))) (by decide) ?_
  refine GH.tk 7 (v := (.bool false)) rfl (by kernel_rfl) (fun _ _ _ h => h) (Ex.cast (Ex.neq rfl rfl) (congrArg Value.bool (decide_eq_false (by exact fun h => h hW)))) (ulC (ulC (ulC (ulC ulN)))) (by decide) ?_
  refine GH.tk 8 (v := (.bool false)) rfl (by kernel_rfl) (fun _ _ _ h => h) (Ex.move rfl) (ulC (ulC (ulC (ulC ulN)))) (by decide) ?_
  refine GH.takeG 9 (tj := 35) (v := (.pointer (some ⟨bq3, 1, none⟩))) rfl rfl rfl (by kernel_rfl) (by kernel_rfl) (by kernel_rfl) (fun _ _ _ h => h) (Ex.cast (Ex.fieldAddr rfl Try.underlying43 rfl T.sz3 (by decide)) rfl) (ulC (ulC (ulC (ulC ulN)))) (by decide) ?_
  refine GH.takeG 10 (tj := 35) (v := (.int .i64 q.H)) rfl rfl rfl (by kernel_rfl) (by kernel_rfl) (by kernel_rfl) (fun _ _ _ h => h) (Ex.load rfl T.ag3 (i := 1) rfl rfl) (ulC (ulC (ulC (ulC ulN)))) (by decide) ?_
  refine GH.takeG 11 (tj := 35) (v := (.pointer (some ⟨bq1, 1, none⟩))) rfl rfl rfl (by kernel_rfl) (by kernel_rfl) (by kernel_rfl) (fun _ _ _ h => h) (Ex.cast (Ex.fieldAddr rfl Try.underlying25 rfl T.sz23 (by decide)) rfl) (ulC (ulC (ulC (ulC ulN)))) (by decide) ?_
  refine GH.takeG 12 (tj := 35) (v := (.slice (some ⟨b, o, none⟩) n cap)) rfl rfl rfl (by kernel_rfl) (by kernel_rfl) (by kernel_rfl) (fun _ _ _ h => h) (Ex.load rfl T.ag23 (i := 3) rfl rfl) (ulC (ulC (ulC (ulC ulN)))) (by decide) ?_
  refine GH.takeG 13 (tj := 35) (v := (.pointer (some ⟨b, o, none⟩))) rfl rfl rfl (by kernel_rfl) (by kernel_rfl) (by kernel_rfl) (fun _ _ _ h => h) (Ex.cast (Ex.indexAddr rfl rfl Try.underlying23 T.sz43 (by omega) (by omega)) rfl) (ulC (ulC (ulC (ulC ulN)))) (by decide) ?_
  refine GH.takeG 14 (tj := 35) (v := (.pointer (some ⟨b, o + 1, none⟩))) rfl rfl rfl (by kernel_rfl) (by kernel_rfl) (by kernel_rfl) (fun _ _ _ h => h) (Ex.cast (Ex.fieldAddr rfl Try.underlying43 rfl T.sz3 (by decide)) rfl) (ulC (ulC (ulC (ulC ulN)))) (by decide) ?_
  refine GH.takeG 15 (tj := 35) (v := (.int .i64 ((pAt ps 0).H))) rfl rfl rfl (by kernel_rfl) (by kernel_rfl) (by kernel_rfl) (fun _ _ _ h => h) (Ex.loadO rfl T.ag3 (Pns.cell (i := 0) (j := 1) hps (by omega) (by decide) rfl) (fun x => x)) (ulC (ulC (ulC (ulC ulN)))) (by decide) ?_
  refine GH.takeG 16 (tj := 35) (v := (.bool true)) rfl rfl rfl (by kernel_rfl) (by kernel_rfl) (by kernel_rfl) (fun _ _ _ h => h) (Ex.cast (Ex.neq rfl rfl) (congrArg Value.bool (decide_eq_true (by exact fun h => hs.elim (fun k => k hW) (fun k => k h))))) (ulC (ulC (ulC (ulC ulN)))) (by decide) ?_
  refine GH.tk 17 (v := (.bool true)) rfl (by kernel_rfl) (fun _ _ _ h => h) (Ex.pickF rfl rfl) (ulC (ulC (ulC (ulC ulN)))) (by decide) ?_
  refine GH.done (by kernel_rfl) ?_
  refine GE.thenN ?_
  refine GC.cond rfl (fun _ => ?_) (fun hq14 => by cases hq14)
  refine GC.seq (GC.region ?_)
  refine GL.val (v := (.agg #[(.int .i64 0), (.slice none 0 0)])) (Ex.build (vs := []) rfl (by first | rfl | kernel_rfl)) (by decide) ?_
  refine GL.step (Stp.st0 (cs' := [(.int .i64 0), (.slice none 0 0)]) rfl rfl rfl T.sz25 rfl rfl rfl) (fun _ _ => ?_)
  refine GL.sg rfl (by decide) ?_
  refine GL.nil (GE.thenN (GC.ret (GE.thenR ?_)))
  refine GC.ret2 rfl (Rv.cellA rfl T.ag25 T.sz25 (L := _) (i := 0) rfl (vs := [(.int .i64 0), (.slice none 0 0)]) rfl rfl) (Rv.tmp rfl) (fun wN HN => ?_)
  exact HN.ret () trivial rfl (List.nil_sublist _) rfl
 ·refine GC.draw [⟨bq4, [(.int .i64 0), (.slice none 0 0)], 25, true⟩, ⟨bq3, [(.int .i64 q.W), (.int .i64 q.H), (.slice q.ad q.n q.cap)], 43, true⟩, ⟨bq2, [(.int .i64 (((j : Nat) : Int)))], 3, true⟩, ⟨bq1, [(.int .i64 sp), (.slice (some ⟨b, o, none⟩) n cap)], 25, true⟩] T.mixed (fuel := 18) rfl rfl ?_
  refine GH.tk 0 (v := (.pointer (some ⟨bq3, 0, none⟩))) rfl (by kernel_rfl) (fun _ _ _ h => h) (Ex.cast (Ex.fieldAddr rfl Try.underlying43 rfl T.sz3 (by decide)) rfl) (ulC (ulC (ulC (ulC ulN)))) (by decide) ?_
  refine GH.tk 1 (v := (.int .i64 q.W)) rfl (by kernel_rfl) (fun _ _ _ h => h) (Ex.load rfl T.ag3 (i := 1) rfl rfl) (ulC (ulC (ulC (ulC ulN)))) (by decide) ?_
  refine GH.tk 2 (v := (.pointer (some ⟨bq1, 1, none⟩))) rfl (by kernel_rfl) (fun _ _ _ h => h) (Ex.cast (Ex.fieldAddr rfl Try.underlying25 rfl T.sz23 (by decide)) rfl) (ulC (ulC (ulC (ulC ulN)))) (by decide) ?_
  refine GH.tk 3 (v := (.slice (some ⟨b, o, none⟩) n cap)) rfl (by kernel_rfl) (fun _ _ _ h => h) (Ex.load rfl T.ag23 (i := 3) rfl rfl) (ulC (ulC (ulC (ulC ulN)))) (by decide) ?_
  refine GH.tk 4 (v := (.pointer (some ⟨b, o, none⟩))) rfl (by kernel_rfl) (fun _ _ _ h => h) (Ex.cast (Ex.indexAddr rfl rfl Try.underlying23 T.sz43 (by omega) (by omega)) rfl) (ulC (ulC (ulC (ulC ulN)))) (by decide) ?_
  refine GH.tk 5 (v := (.pointer (some ⟨b, o, none⟩))) rfl (by kernel_rfl) (fun _ _ _ h => h) (Ex.cast (Ex.fieldAddr rfl Try.underlying43 rfl T.sz3 (by decide)) rfl) (ulC (ulC (ulC (ulC ulN)))) (by decide) ?_
  refine GH.tk 6 (v := (.int .i64 ((pAt ps 0).W))) rfl (by kernel_rfl) (fun _ _ _ h => h) (Ex.loadO rfl T.ag3 (Pns.cell (i := 0) (j := 0) hps (by omega) (by decide) rfl) (fun x => x)) (ulC (ulC (ulC (ulC ulN)))) (by decide) ?_
  refine GH.tk 7 (v := (.bool true)) rfl (by kernel_rfl) (fun _ _ _ h => h) (Ex.cast (Ex.neq rfl rfl) (congrArg Value.bool (decide_eq_true (by exact hW)))) (ulC (ulC (ulC (ulC ulN)))) (by decide) ?_
  refine GH.tk 8 (v := (.bool true)) rfl (by kernel_rfl) (fun _ _ _ h => h) (Ex.move rfl) (ulC (ulC (ulC (ulC ulN)))) (by decide) ?_
  refine GH.skipG 9 (tj := 35) rfl rfl rfl rfl (by kernel_rfl) (by kernel_rfl) (by kernel_rfl) (fun _ _ _ h => h) (ulC (ulC (ulC (ulC ulN)))) (by decide) ?_
  refine GH.skipG 10 (tj := 35) rfl rfl rfl rfl (by kernel_rfl) (by kernel_rfl) (by kernel_rfl) (fun _ _ _ h => h) (ulC (ulC (ulC (ulC ulN)))) (by decide) ?_
  refine GH.skipG 11 (tj := 35) rfl rfl rfl rfl (by kernel_rfl) (by kernel_rfl) (by kernel_rfl) (fun _ _ _ h => h) (ulC (ulC (ulC (ulC ulN)))) (by decide) ?_
  refine GH.skipG 12 (tj := 35) rfl rfl rfl rfl (by kernel_rfl) (by kernel_rfl) (by kernel_rfl) (fun _ _ _ h => h) (ulC (ulC (ulC (ulC ulN)))) (by decide) ?_
  refine GH.skipG 13 (tj := 35) rfl rfl rfl rfl (by kernel_rfl) (by kernel_rfl) (by kernel_rfl) (fun _ _ _ h => h) (ulC (ulC (ulC (ulC ulN)))) (by decide) ?_
  refine GH.skipG 14 (tj := 35) rfl rfl rfl rfl (by kernel_rfl) (by kernel_rfl) (by kernel_rfl) (fun _ _ _ h => h) (ulC (ulC (ulC (ulC ulN)))) (by decide) ?_
  refine GH.skipG 15 (tj := 35) rfl rfl rfl rfl (by kernel_rfl) (by kernel_rfl) (by kernel_rfl) (fun _ _ _ h => h) (ulC (ulC (ulC (ulC ulN)))) (by decide) ?_
  refine GH.skipG 16 (tj := 35) rfl rfl rfl rfl (by kernel_rfl) (by kernel_rfl) (by kernel_rfl) (fun _ _ _ h => h) (ulC (ulC (ulC (ulC ulN)))) (by decide) ?_
  refine GH.tk 17 (v := (.bool true)) rfl (by kernel_rfl) (fun _ _ _ h => h) (Ex.pickT rfl rfl) (ulC (ulC (ulC (ulC ulN)))) (by decide) ?_
  refine GH.done (by kernel_rfl) ?_
  refine GE.thenN ?_
  refine GC.cond rfl (fun _ => ?_) (fun hq15 => by cases hq15)
  refine GC.seq (GC.region ?_)
  refine GL.val (v := (.agg #[(.int .i64 0), (.slice none 0 0)])) (Ex.build (vs := []) rfl (by first | rfl | kernel_rfl)) (by decide) ?_
  refine GL.step (Stp.st0 (cs' := [(.int .i64 0), (.slice none 0 0)]) rfl rfl rfl T.sz25 rfl rfl rfl) (fun _ _ => ?_)
  refine GL.sg rfl (by decide) ?_
  refine GL.nil (GE.thenN (GC.ret (GE.thenR ?_)))
  refine GC.ret2 rfl (Rv.cellA rfl T.ag25 T.sz25 (L := _) (i := 0) rfl (vs := [(.int .i64 0), (.slice none 0 0)]) rfl rfl) (Rv.tmp rfl) (fun wN HN => ?_)
  exact HN.ret () trivial rfl (List.nil_sublist _) rfl

theorem withp_u (sp : Int) (ad : Option Addr) (n cap : Nat) (ps : List Pn) (k : Int) (q : Pn) (w : World) (hps : PnsA w ad ps) (hn : n = ps.length) (hnb : n ≤ 35184372087808) (hq : q.Ok w) : Calls Try.prog 29 #[(.agg #[(.int .i64 sp), (.slice ad n cap)]), .int .i64 k, (.agg #[(.int .i64 q.W), (.int .i64 q.H), (.slice q.ad q.n q.cap)])] w (Ret w (fun r : Ac => r.Ok ∧ (∀ q ∈ r.qs, q.Ok) ∧ r.ds = wiD sp ps k q) (fun r => .tuple #[(.agg #[(.int .i64 ((picS (wiE sp ps k q) sp))), (.slice r.ad r.n r.cp)]), .int .i64 (wiE sp ps k q)]) (fun r => r.blks 43 28)) := by
 have no : ∀ {e : Ending} {w' : World} (v : Int), wiE sp ps k q = v → v ≠ 0 → Ret w (fun _ : Unit => True) (fun _ => .tuple #[.agg #[.int .i64 0, .slice none 0 0], .int .i64 v]) (fun _ => []) e w' → Ret w (fun r : Ac => r.Ok ∧ (∀ q ∈ r.qs, q.Ok) ∧ r.ds = wiD sp ps k q) (fun r => .tuple #[(.agg #[(.int .i64 ((picS (wiE sp ps k q) sp))), (.slice r.ad r.n r.cp)]), .int .i64 (wiE sp ps k q)]) (fun r => r.blks 43 28) e w' := fun v hv h0 hr =>
  Ret.to (fun _ => Ac.no) hr (fun _ _ => ⟨Or.inl rfl, fun q hq => (by cases hq), by rw [wiD_bad (by rw [hv]; exact h0)]; rfl⟩) (fun _ _ => by rw [hv]; unfold picS; rw [if_neg h0]; rfl) (fun _ _ => rfl)
 by_cases hc : chkP sp ps = 0
 ·obtain ⟨W, H, hok⟩ := chkP_zero hc
  obtain ⟨b, o, rfl, h⟩ := hps.at hok.n0
  by_cases hk : 0 ≤ k ∧ k < ((n : Nat) : Int)
  ·obtain ⟨j, rfl⟩ := Int.eq_ofNat_of_zero_le hk.1
   have hE := plE_in (sp := sp) (ps := ps) hc (k := ((j : Nat) : Int)) (by omega)
   by_cases hqc : q.chk = 0
   ·by_cases hs : q.W ≠ (pAt ps 0).W ∨ q.H ≠ (pAt ps 0).H
    ·exact (withp_s sp b o n cap ps W H j q w h hn hok (by omega) hqc hs).mono fun e w' hr => no 80 (wiE_s hE hqc hs) (by decide) hr
    ·have h0 := hok.at hok.n0
     have hqs : q.W = (W : Int) ∧ q.H = (H : Int) ∧ q.n = W * H := by
      obtain ⟨W', H', f1, f2, _, hn'⟩ := chk_zero hqc
      have a1 : W' = W := by omega
      have a2 : H' = H := by omega
      subst a1 a2
      exact ⟨f1, f2, hn'⟩
     have hz := wiE_ok hE hqc hs
     refine (withp_ok sp b o n cap ps W H j q w h hn hok (by omega) hq hqs).mono fun e w' hr => Ret.to id hr (fun r hr => ⟨hr.2.2.1, hr.2.2.2, by rw [wiD_ok hz, ← hn]; exact hr.2.1⟩) (fun _ _ => by rw [hz]; rfl) (fun _ _ => rfl)
   ·exact (withp_q sp b o n cap ps W H j q w h hn hok (by omega) hqc).mono fun e w' hr => no _ (wiE_q hE hqc) hqc hr
  ·have hE := plE_out (sp := sp) (ps := ps) hc (k := k) (by omega)
   exact (withp_out sp b o n cap ps W H k q w h hn hok hk).mono fun e w' hr => no 82 (by rw [wiE_pl (by rw [hE]; decide), hE]) (by decide) hr
 ·have hE := plE_bad (sp := sp) (ps := ps) k hc
  exact (withp_bad sp ad n cap ps k q w hps hn hnb hc).mono fun e w' hr => no _ (by rw [wiE_pl (by rw [hE]; exact hc), hE]) hc hr

theorem ref_withp_bad (sp : Int) (ad : Option Addr) (n cap : Nat) (ps : List Pn) (k : Int) (q : Pn) (w : World) (hps : PnsA w ad ps) (hn : n = ps.length) (hnb : n ≤ 35184372087808) (hc : chkP sp ps ≠ 0) :
  Calls Try.prog 30 #[(.agg #[(.int .i64 sp), (.slice ad n cap)]), (.int .i64 k), (.agg #[(.int .i64 q.W), (.int .i64 q.H), (.slice q.ad q.n q.cap)])] w (Ret w (fun _ : Unit => True) (fun _ => .tuple #[(.agg #[(.int .i64 0), (.slice none 0 0)]), .int .i64 ((chkP sp ps))]) (fun _ => [])) := by
 refine enter (M := None) (L := []) (n := 55) (l := [(0, (.agg #[(.int .i64 sp), (.slice ad n cap)])), (1, (.int .i64 k)), (2, (.agg #[(.int .i64 q.W), (.int .i64 q.H), (.slice q.ad q.n q.cap)]))]) Try.func30 rfl rfl (Args.cons rfl (Args.cons rfl (Args.cons rfl (Args.nil _)))) (Hp.start _ _) ?_
 refine GC.seq (GC.region ?_)
 refine GL.step (Stp.box (cs := [(.int .i64 sp), (.slice ad n cap)]) rfl rfl (by decide)) (fun bq1 _ => ?_)
 refine GL.step (Stp.box (cs := [(.int .i64 q.W), (.int .i64 q.H), (.slice q.ad q.n q.cap)]) rfl rfl (by decide)) (fun bq2 _ => ?_)
 refine GL.step (Stp.alloc T.zr25 (by decide)) (fun bq3 _ => ?_)
 refine GL.sg rfl (by decide) ?_
 refine GL.nil (GE.thenN (GC.seq (GC.region ?_)))
 refine GL.val (v := (.agg #[(.int .i64 sp), (.slice ad n cap)])) (Ex.loadA rfl T.ag25 T.sz25 (i := 2) rfl (vs := [(.int .i64 sp), (.slice ad n cap)]) rfl rfl) (by decide) ?_
 refine GL.mv rfl (by decide) ?_
 refine GL.step (Stp.callR (vs := [(.agg #[(.int .i64 sp), (.slice ad n cap)]), (.int .i64 k)]) rfl rfl T.own24 (by decide) (fun wc hw => ref_planep_bad sp ad n cap ps k wc (hps.later hw.1) hn hnb hc)) (fun xq4 hq5 => ?_)
 refine GL.mv rfl (by decide) ?_
 refine GL.val (Ex.extract rfl rfl) (by decide) ?_
 refine GL.val (Ex.extract rfl rfl) (by decide) ?_
 refine GL.step (Stp.alloc T.zr43 (by decide)) (fun bq6 _ => ?_)
 refine GL.step (Stp.st0 (cs' := [(.int .i64 0), (.int .i64 0), (.slice none 0 0)]) rfl rfl rfl T.sz43 rfl rfl rfl) (fun _ _ => ?_)
 refine GL.sg rfl (by decide) ?_
 refine GL.nil (GE.thenN (GC.seq (GC.seq (GC.region ?_))))
 refine GL.mv rfl (by decide) ?_
 refine GL.val (v := (.bool true)) (Ex.cast (Ex.neq rfl rfl) (congrArg Value.bool (decide_eq_true (by exact hc)))) (by decide) ?_
 refine GL.nil (GE.thenN ?_)
 refine GC.cond rfl (fun _ => ?_) (fun hq7 => by cases hq7)
 refine GC.seq (GC.region ?_)
 refine GL.val (v := (.agg #[(.int .i64 0), (.slice none 0 0)])) (Ex.build (vs := []) rfl (by first | rfl | kernel_rfl)) (by decide) ?_
 refine GL.mv rfl (by decide) ?_
 refine GL.step (Stp.st1 (cs' := [(.int .i64 0), (.slice none 0 0)]) rfl rfl rfl T.sz25 rfl rfl rfl) (fun _ _ => ?_)
 refine GL.sg rfl (by decide) ?_
 refine GL.nil (GE.thenN (GC.ret (GE.thenR ?_)))
 refine GC.ret2 rfl (Rv.cellA rfl T.ag25 T.sz25 (L := _) (i := 1) rfl (vs := [(.int .i64 0), (.slice none 0 0)]) rfl rfl) (Rv.tmp rfl) (fun wN HN => ?_)
 exact HN.ret () trivial rfl (List.nil_sublist _) rfl

theorem ref_withp_out (sp : Int) (b o n cap : Nat) (ps : List Pn) (W H : Nat) (k : Int) (q : Pn) (w : World) (hps : Pns w b o ps) (hn : n = ps.length) (hok : OkPic sp ps W H) (hk : ¬ (0 ≤ k ∧ k < ((n : Nat) : Int))) :
  Calls Try.prog 30 #[(.agg #[(.int .i64 sp), (.slice (some ⟨b, o, none⟩) n cap)]), (.int .i64 k), (.agg #[(.int .i64 q.W), (.int .i64 q.H), (.slice q.ad q.n q.cap)])] w (Ret w (fun _ : Unit => True) (fun _ => .tuple #[(.agg #[(.int .i64 0), (.slice none 0 0)]), .int .i64 82]) (fun _ => [])) := by
 refine enter (M := None) (L := []) (n := 55) (l := [(0, (.agg #[(.int .i64 sp), (.slice (some ⟨b, o, none⟩) n cap)])), (1, (.int .i64 k)), (2, (.agg #[(.int .i64 q.W), (.int .i64 q.H), (.slice q.ad q.n q.cap)]))]) Try.func30 rfl rfl (Args.cons rfl (Args.cons rfl (Args.cons rfl (Args.nil _)))) (Hp.start _ _) ?_
 refine GC.seq (GC.region ?_)
 refine GL.step (Stp.box (cs := [(.int .i64 sp), (.slice (some ⟨b, o, none⟩) n cap)]) rfl rfl (by decide)) (fun bq1 _ => ?_)
 refine GL.step (Stp.box (cs := [(.int .i64 q.W), (.int .i64 q.H), (.slice q.ad q.n q.cap)]) rfl rfl (by decide)) (fun bq2 _ => ?_)
 refine GL.step (Stp.alloc T.zr25 (by decide)) (fun bq3 _ => ?_)
 refine GL.sg rfl (by decide) ?_
 refine GL.nil (GE.thenN (GC.seq (GC.region ?_)))
 refine GL.val (v := (.agg #[(.int .i64 sp), (.slice (some ⟨b, o, none⟩) n cap)])) (Ex.loadA rfl T.ag25 T.sz25 (i := 2) rfl (vs := [(.int .i64 sp), (.slice (some ⟨b, o, none⟩) n cap)]) rfl rfl) (by decide) ?_
 refine GL.mv rfl (by decide) ?_
 refine GL.step (Stp.callR (vs := [(.agg #[(.int .i64 sp), (.slice (some ⟨b, o, none⟩) n cap)]), (.int .i64 k)]) rfl rfl T.own24 (by decide) (fun wc hw => ref_planep_out sp b o n cap ps W H k wc (hps.later hw.1) hn hok hk)) (fun xq4 hq5 => ?_)
 refine GL.mv rfl (by decide) ?_
 refine GL.val (Ex.extract rfl rfl) (by decide) ?_
 refine GL.val (Ex.extract rfl rfl) (by decide) ?_
 refine GL.step (Stp.alloc T.zr43 (by decide)) (fun bq6 _ => ?_)
 refine GL.step (Stp.st0 (cs' := [(.int .i64 0), (.int .i64 0), (.slice none 0 0)]) rfl rfl rfl T.sz43 rfl rfl rfl) (fun _ _ => ?_)
 refine GL.sg rfl (by decide) ?_
 refine GL.nil (GE.thenN (GC.seq (GC.seq (GC.region ?_))))
 refine GL.mv rfl (by decide) ?_
 refine GL.val (v := (.bool true)) (Ex.cast (Ex.neq rfl rfl) rfl) (by decide) ?_
 refine GL.nil (GE.thenN ?_)
 refine GC.cond rfl (fun _ => ?_) (fun hq7 => by cases hq7)
 refine GC.seq (GC.region ?_)
 refine GL.val (v := (.agg #[(.int .i64 0), (.slice none 0 0)])) (Ex.build (vs := []) rfl (by first | rfl | kernel_rfl)) (by decide) ?_
 refine GL.mv rfl (by decide) ?_
 refine GL.step (Stp.st1 (cs' := [(.int .i64 0), (.slice none 0 0)]) rfl rfl rfl T.sz25 rfl rfl rfl) (fun _ _ => ?_)
 refine GL.sg rfl (by decide) ?_
 refine GL.nil (GE.thenN (GC.ret (GE.thenR ?_)))
 refine GC.ret2 rfl (Rv.cellA rfl T.ag25 T.sz25 (L := _) (i := 1) rfl (vs := [(.int .i64 0), (.slice none 0 0)]) rfl rfl) (Rv.tmp rfl) (fun wN HN => ?_)
 exact HN.ret () trivial rfl (List.nil_sublist _) rfl

theorem ref_withp_q (sp : Int) (b o n cap : Nat) (ps : List Pn) (W H : Nat) (j : Nat) (q : Pn) (w : World) (hps : Pns w b o ps) (hn : n = ps.length) (hok : OkPic sp ps W H) (hj : j < n) (hqc : Sx.chk q.W q.H q.n ≠ 0) :
  Calls Try.prog 30 #[(.agg #[(.int .i64 sp), (.slice (some ⟨b, o, none⟩) n cap)]), (.int .i64 (((j : Nat) : Int))), (.agg #[(.int .i64 q.W), (.int .i64 q.H), (.slice q.ad q.n q.cap)])] w (Ret w (fun _ : Unit => True) (fun _ => .tuple #[(.agg #[(.int .i64 0), (.slice none 0 0)]), .int .i64 ((Sx.chk q.W q.H q.n))]) (fun _ => [])) := by
 refine enter (M := None) (L := []) (n := 55) (l := [(0, (.agg #[(.int .i64 sp), (.slice (some ⟨b, o, none⟩) n cap)])), (1, (.int .i64 (((j : Nat) : Int)))), (2, (.agg #[(.int .i64 q.W), (.int .i64 q.H), (.slice q.ad q.n q.cap)]))]) Try.func30 rfl rfl (Args.cons rfl (Args.cons rfl (Args.cons rfl (Args.nil _)))) (Hp.start _ _) ?_
 refine GC.seq (GC.region ?_)
 refine GL.step (Stp.box (cs := [(.int .i64 sp), (.slice (some ⟨b, o, none⟩) n cap)]) rfl rfl (by decide)) (fun bq1 _ => ?_)
 refine GL.step (Stp.box (cs := [(.int .i64 q.W), (.int .i64 q.H), (.slice q.ad q.n q.cap)]) rfl rfl (by decide)) (fun bq2 _ => ?_)
 refine GL.step (Stp.alloc T.zr25 (by decide)) (fun bq3 _ => ?_)
 refine GL.sg rfl (by decide) ?_
 refine GL.nil (GE.thenN (GC.seq (GC.region ?_)))
 refine GL.val (v := (.agg #[(.int .i64 sp), (.slice (some ⟨b, o, none⟩) n cap)])) (Ex.loadA rfl T.ag25 T.sz25 (i := 2) rfl (vs := [(.int .i64 sp), (.slice (some ⟨b, o, none⟩) n cap)]) rfl rfl) (by decide) ?_
 refine GL.mv rfl (by decide) ?_
 refine GL.step (Stp.callR (σ := Nat × Nat × List Value) (p := fun rz => ((pAt ps j).d.2.2.map u32 ++ rz.2.2).length = rz.2.1 * 1 ∧ rz.2.1 ≤ 9223372036854775807) (v := fun rz => (.tuple #[(.agg #[(.int .i64 ((pAt ps j).d.1)), (.int .i64 ((pAt ps j).d.2.1)), (.slice (some ⟨rz.1, 0, none⟩) ((pAt ps j).d.2.2.length) rz.2.1)]), (.int .i64 0)])) (N := fun rz => [⟨rz.1, (pAt ps j).d.2.2.map u32 ++ rz.2.2, 28, true⟩]) (vs := [(.agg #[(.int .i64 sp), (.slice (some ⟨b, o, none⟩) n cap)]), (.int .i64 (((j : Nat) : Int)))]) rfl rfl T.own24 (by decide) (fun wc hw => (by exact ref_planep_in sp b o n cap ps W H j wc (hps.later hw.1) hn hok hj))) (fun xq4 hq5 => ?_)
 refine GL.mv rfl (by decide) ?_
 refine GL.val (Ex.extract rfl rfl) (by decide) ?_
 refine GL.val (Ex.extract rfl rfl) (by decide) ?_
 refine GL.step (Stp.alloc T.zr43 (by decide)) (fun bq6 _ => ?_)
 refine GL.step (Stp.st0 (cs' := [(.int .i64 ((pAt ps j).d.1)), (.int .i64 ((pAt ps j).d.2.1)), (.slice (some ⟨xq4.1, 0, none⟩) ((pAt ps j).d.2.2.length) xq4.2.1)]) rfl rfl rfl T.sz43 rfl rfl rfl) (fun _ _ => ?_)
 refine GL.sg rfl (by decide) ?_
 refine GL.nil (GE.thenN (GC.seq (GC.seq (GC.region ?_))))
 refine GL.mv rfl (by decide) ?_
 refine GL.val (v := (.bool false)) (Ex.cast (Ex.neq rfl rfl) rfl) (by decide) ?_
 refine GL.nil (GE.thenN ?_)
 refine GC.cond rfl (fun hq7 => by cases hq7) (fun _ => ?_)
 refine GC.skip (GE.thenN (GC.seq (GC.region ?_)))
 refine GL.val (v := (.agg #[(.int .i64 q.W), (.int .i64 q.H), (.slice q.ad q.n q.cap)])) (Ex.loadA rfl T.ag43 T.sz43 (i := 3) rfl (vs := [(.int .i64 q.W), (.int .i64 q.H), (.slice q.ad q.n q.cap)]) rfl rfl) (by decide) ?_
 refine GL.step (Stp.callR (vs := [(.agg #[(.int .i64 q.W), (.int .i64 q.H), (.slice q.ad q.n q.cap)])]) rfl rfl T.own65 (by decide) (fun wc hw => ref_check q.W q.H q.ad q.n q.cap wc)) (fun xq8 hq9 => ?_)
 refine GL.sg rfl (by decide) ?_
 refine GL.nil (GE.thenN (GC.seq (GC.seq (GC.region ?_))))
 refine GL.mv rfl (by decide) ?_
 refine GL.val (v := (.bool true)) (Ex.cast (Ex.neq rfl rfl) (congrArg Value.bool (decide_eq_true (by exact hqc)))) (by decide) ?_
 refine GL.nil (GE.thenN ?_)
 refine GC.cond rfl (fun _ => ?_) (fun hq10 => by cases hq10)
 refine GC.seq (GC.region ?_)
 refine GL.val (v := (.agg #[(.int .i64 0), (.slice none 0 0)])) (Ex.build (vs := []) rfl (by first | rfl | kernel_rfl)) (by decide) ?_
 refine GL.mv rfl (by decide) ?_
 refine GL.step (Stp.st2 (cs' := [(.int .i64 0), (.slice none 0 0)]) rfl rfl rfl T.sz25 rfl rfl rfl) (fun _ _ => ?_)
 refine GL.sg rfl (by decide) ?_
 refine GL.nil (GE.thenN (GC.ret (GE.thenR ?_)))
 refine GC.ret2 rfl (Rv.cellA rfl T.ag25 T.sz25 (L := _) (i := 2) rfl (vs := [(.int .i64 0), (.slice none 0 0)]) rfl rfl) (Rv.tmp rfl) (fun wN HN => ?_)
 exact HN.ret () trivial rfl (List.nil_sublist _) rfl

theorem ref_withp_s (sp : Int) (b o n cap : Nat) (ps : List Pn) (W H : Nat) (j : Nat) (q : Pn) (w : World) (hps : Pns w b o ps) (hn : n = ps.length) (hok : OkPic sp ps W H) (hj : j < n) (hqc : Sx.chk q.W q.H q.n = 0) (hs : q.W ≠ (pAt ps 0).W ∨ q.H ≠ (pAt ps 0).H) :
  Calls Try.prog 30 #[(.agg #[(.int .i64 sp), (.slice (some ⟨b, o, none⟩) n cap)]), (.int .i64 (((j : Nat) : Int))), (.agg #[(.int .i64 q.W), (.int .i64 q.H), (.slice q.ad q.n q.cap)])] w (Ret w (fun _ : Unit => True) (fun _ => .tuple #[(.agg #[(.int .i64 0), (.slice none 0 0)]), .int .i64 80]) (fun _ => [])) := by
 refine enter (M := None) (L := []) (n := 55) (l := [(0, (.agg #[(.int .i64 sp), (.slice (some ⟨b, o, none⟩) n cap)])), (1, (.int .i64 (((j : Nat) : Int)))), (2, (.agg #[(.int .i64 q.W), (.int .i64 q.H), (.slice q.ad q.n q.cap)]))]) Try.func30 rfl rfl (Args.cons rfl (Args.cons rfl (Args.cons rfl (Args.nil _)))) (Hp.start _ _) ?_
 refine GC.seq (GC.region ?_)
 refine GL.step (Stp.box (cs := [(.int .i64 sp), (.slice (some ⟨b, o, none⟩) n cap)]) rfl rfl (by decide)) (fun bq1 _ => ?_)
 refine GL.step (Stp.box (cs := [(.int .i64 q.W), (.int .i64 q.H), (.slice q.ad q.n q.cap)]) rfl rfl (by decide)) (fun bq2 _ => ?_)
 refine GL.step (Stp.alloc T.zr25 (by decide)) (fun bq3 _ => ?_)
 refine GL.sg rfl (by decide) ?_
 refine GL.nil (GE.thenN (GC.seq (GC.region ?_)))
 refine GL.val (v := (.agg #[(.int .i64 sp), (.slice (some ⟨b, o, none⟩) n cap)])) (Ex.loadA rfl T.ag25 T.sz25 (i := 2) rfl (vs := [(.int .i64 sp), (.slice (some ⟨b, o, none⟩) n cap)]) rfl rfl) (by decide) ?_
 refine GL.mv rfl (by decide) ?_
 refine GL.step (Stp.callR (σ := Nat × Nat × List Value) (p := fun rz => ((pAt ps j).d.2.2.map u32 ++ rz.2.2).length = rz.2.1 * 1 ∧ rz.2.1 ≤ 9223372036854775807) (v := fun rz => (.tuple #[(.agg #[(.int .i64 ((pAt ps j).d.1)), (.int .i64 ((pAt ps j).d.2.1)), (.slice (some ⟨rz.1, 0, none⟩) ((pAt ps j).d.2.2.length) rz.2.1)]), (.int .i64 0)])) (N := fun rz => [⟨rz.1, (pAt ps j).d.2.2.map u32 ++ rz.2.2, 28, true⟩]) (vs := [(.agg #[(.int .i64 sp), (.slice (some ⟨b, o, none⟩) n cap)]), (.int .i64 (((j : Nat) : Int)))]) rfl rfl T.own24 (by decide) (fun wc hw => (by exact ref_planep_in sp b o n cap ps W H j wc (hps.later hw.1) hn hok hj))) (fun xq4 hq5 => ?_)
 refine GL.mv rfl (by decide) ?_
 refine GL.val (Ex.extract rfl rfl) (by decide) ?_
 refine GL.val (Ex.extract rfl rfl) (by decide) ?_
 refine GL.step (Stp.alloc T.zr43 (by decide)) (fun bq6 _ => ?_)
 refine GL.step (Stp.st0 (cs' := [(.int .i64 ((pAt ps j).d.1)), (.int .i64 ((pAt ps j).d.2.1)), (.slice (some ⟨xq4.1, 0, none⟩) ((pAt ps j).d.2.2.length) xq4.2.1)]) rfl rfl rfl T.sz43 rfl rfl rfl) (fun _ _ => ?_)
 refine GL.sg rfl (by decide) ?_
 refine GL.nil (GE.thenN (GC.seq (GC.seq (GC.region ?_))))
 refine GL.mv rfl (by decide) ?_
 refine GL.val (v := (.bool false)) (Ex.cast (Ex.neq rfl rfl) rfl) (by decide) ?_
 refine GL.nil (GE.thenN ?_)
 refine GC.cond rfl (fun hq7 => by cases hq7) (fun _ => ?_)
 refine GC.skip (GE.thenN (GC.seq (GC.region ?_)))
 refine GL.val (v := (.agg #[(.int .i64 q.W), (.int .i64 q.H), (.slice q.ad q.n q.cap)])) (Ex.loadA rfl T.ag43 T.sz43 (i := 3) rfl (vs := [(.int .i64 q.W), (.int .i64 q.H), (.slice q.ad q.n q.cap)]) rfl rfl) (by decide) ?_
 refine GL.step (Stp.callR (σ := Unit) (p := fun rz => True) (v := fun rz => (.int .i64 0)) (N := fun rz => []) (vs := [(.agg #[(.int .i64 q.W), (.int .i64 q.H), (.slice q.ad q.n q.cap)])]) rfl rfl T.own65 (by decide) (fun wc hw => (by have h := ref_check q.W q.H q.ad q.n q.cap wc; rw [hqc] at h; exact h))) (fun xq8 hq9 => ?_)
 refine GL.sg rfl (by decide) ?_
 refine GL.nil (GE.thenN (GC.seq (GC.seq (GC.region ?_))))
 refine GL.mv rfl (by decide) ?_
 refine GL.val (v := (.bool false)) (Ex.cast (Ex.neq rfl rfl) rfl) (by decide) ?_
 refine GL.nil (GE.thenN ?_)
 refine GC.cond rfl (fun hq10 => by cases hq10) (fun _ => ?_)
 refine GC.skip (GE.thenN (GC.seq (GC.seq ?_)))
 by_cases hW : q.W = (pAt ps 0).W
 ·refine GC.draw [⟨bq6, [(.int .i64 ((pAt ps j).d.1)), (.int .i64 ((pAt ps j).d.2.1)), (.slice (some ⟨xq4.1, 0, none⟩) ((pAt ps j).d.2.2.length) xq4.2.1)], 43, true⟩, ⟨xq4.1, (pAt ps j).d.2.2.map u32 ++ xq4.2.2, 28, true⟩, ⟨bq3, [(.int .i64 0), (.slice none 0 0)], 25, true⟩, ⟨bq2, [(.int .i64 q.W), (.int .i64 q.H), (.slice q.ad q.n q.cap)], 43, true⟩, ⟨bq1, [(.int .i64 sp), (.slice (some ⟨b, o, none⟩) n cap)], 25, true⟩] T.mixed (fuel := 18) rfl rfl ?_
  refine GH.tk 0 (v := (.pointer (some ⟨bq2, 0, none⟩))) rfl (by kernel_rfl) (fun _ _ _ h => h) (Ex.cast (Ex.fieldAddr rfl Try.underlying43 rfl T.sz3 (by decide)) rfl) (ulC (ulC (ulC (ulC (ulC ulN))))) (by decide) ?_
  refine GH.tk 1 (v := (.int .i64 q.W)) rfl (by kernel_rfl) (fun _ _ _ h => h) (Ex.load rfl T.ag3 (i := 3) rfl rfl) (ulC (ulC (ulC (ulC (ulC ulN))))) (by decide) ?_
  refine GH.tk 2 (v := (.pointer (some ⟨bq1, 1, none⟩))) rfl (by kernel_rfl) (fun _ _ _ h => h) (Ex.cast (Ex.fieldAddr rfl Try.underlying25 rfl T.sz23 (by decide)) rfl) (ulC (ulC (ulC (ulC (ulC ulN))))) (by decide) ?_
  refine GH.tk 3 (v := (.slice (some ⟨b, o, none⟩) n cap)) rfl (by kernel_rfl) (fun _ _ _ h => h) (Ex.load rfl T.ag23 (i := 4) rfl rfl) (ulC (ulC (ulC (ulC (ulC ulN))))) (by decide) ?_
  refine GH.tk 4 (v := (.pointer (some ⟨b, o, none⟩))) rfl (by kernel_rfl) (fun _ _ _ h => h) (Ex.cast (Ex.indexAddr rfl rfl Try.underlying23 T.sz43 (by omega) (by omega)) rfl) (ulC (ulC (ulC (ulC (ulC ulN))))) (by decide) ?_
  refine GH.tk 5 (v := (.pointer (some ⟨b, o, none⟩))) rfl (by kernel_rfl) (fun _ _ _ h => h) (Ex.cast (Ex.fieldAddr rfl Try.underlying43 rfl T.sz3 (by decide)) rfl) (ulC (ulC (ulC (ulC (ulC ulN))))) (by decide) ?_
  refine GH.tk 6 (v := (.int .i64 ((pAt ps 0).W))) rfl (by kernel_rfl) (fun _ _ _ h => h) (Ex.loadO rfl T.ag3 (Pns.cell (i := 0) (j := 0) hps (by omega) (by decide) rfl) (fun x => x)) (ulC (ulC (ulC (ulC (ulC ulN))))) (by decide) ?_
  refine GH.tk 7 (v := (.bool false)) rfl (by kernel_rfl) (fun _ _ _ h => h) (Ex.cast (Ex.neq rfl rfl) (congrArg Value.bool (decide_eq_false (by exact fun h => h hW)))) (ulC (ulC (ulC (ulC (ulC ulN))))) (by decide) ?_
  refine GH.tk 8 (v := (.bool false)) rfl (by kernel_rfl) (fun _ _ _ h => h) (Ex.move rfl) (ulC (ulC (ulC (ulC (ulC ulN))))) (by decide) ?_
  refine GH.takeG 9 (tj := 35) (v := (.pointer (some ⟨bq2, 1, none⟩))) rfl rfl rfl (by kernel_rfl) (by kernel_rfl) (by kernel_rfl) (fun _ _ _ h => h) (Ex.cast (Ex.fieldAddr rfl Try.underlying43 rfl T.sz3 (by decide)) rfl) (ulC (ulC (ulC (ulC (ulC ulN))))) (by decide) ?_
  refine GH.takeG 10 (tj := 35) (v := (.int .i64 q.H)) rfl rfl rfl (by kernel_rfl) (by kernel_rfl) (by kernel_rfl) (fun _ _ _ h => h) (Ex.load rfl T.ag3 (i := 3) rfl rfl) (ulC (ulC (ulC (ulC (ulC ulN))))) (by decide) ?_
  refine GH.takeG 11 (tj := 35) (v := (.pointer (some ⟨bq1, 1, none⟩))) rfl rfl rfl (by kernel_rfl) (by kernel_rfl) (by kernel_rfl) (fun _ _ _ h => h) (Ex.cast (Ex.fieldAddr rfl Try.underlying25 rfl T.sz23 (by decide)) rfl) (ulC (ulC (ulC (ulC (ulC ulN))))) (by decide) ?_
  refine GH.takeG 12 (tj := 35) (v := (.slice (some ⟨b, o, none⟩) n cap)) rfl rfl rfl (by kernel_rfl) (by kernel_rfl) (by kernel_rfl) (fun _ _ _ h => h) (Ex.load rfl T.ag23 (i := 4) rfl rfl) (ulC (ulC (ulC (ulC (ulC ulN))))) (by decide) ?_
  refine GH.takeG 13 (tj := 35) (v := (.pointer (some ⟨b, o, none⟩))) rfl rfl rfl (by kernel_rfl) (by kernel_rfl) (by kernel_rfl) (fun _ _ _ h => h) (Ex.cast (Ex.indexAddr rfl rfl Try.underlying23 T.sz43 (by omega) (by omega)) rfl) (ulC (ulC (ulC (ulC (ulC ulN))))) (by decide) ?_
  refine GH.takeG 14 (tj := 35) (v := (.pointer (some ⟨b, o + 1, none⟩))) rfl rfl rfl (by kernel_rfl) (by kernel_rfl) (by kernel_rfl) (fun _ _ _ h => h) (Ex.cast (Ex.fieldAddr rfl Try.underlying43 rfl T.sz3 (by decide)) rfl) (ulC (ulC (ulC (ulC (ulC ulN))))) (by decide) ?_
  refine GH.takeG 15 (tj := 35) (v := (.int .i64 ((pAt ps 0).H))) rfl rfl rfl (by kernel_rfl) (by kernel_rfl) (by kernel_rfl) (fun _ _ _ h => h) (Ex.loadO rfl T.ag3 (Pns.cell (i := 0) (j := 1) hps (by omega) (by decide) rfl) (fun x => x)) (ulC (ulC (ulC (ulC (ulC ulN))))) (by decide) ?_
  refine GH.takeG 16 (tj := 35) (v := (.bool true)) rfl rfl rfl (by kernel_rfl) (by kernel_rfl) (by kernel_rfl) (fun _ _ _ h => h) (Ex.cast (Ex.neq rfl rfl) (congrArg Value.bool (decide_eq_true (by exact fun h => hs.elim (fun k => k hW) (fun k => k h))))) (ulC (ulC (ulC (ulC (ulC ulN))))) (by decide) ?_
  refine GH.tk 17 (v := (.bool true)) rfl (by kernel_rfl) (fun _ _ _ h => h) (Ex.pickF rfl rfl) (ulC (ulC (ulC (ulC (ulC ulN))))) (by decide) ?_
  refine GH.done (by kernel_rfl) ?_
  refine GE.thenN ?_
  refine GC.cond rfl (fun _ => ?_) (fun hq11 => by cases hq11)
  refine GC.seq (GC.region ?_)
  refine GL.val (v := (.agg #[(.int .i64 0), (.slice none 0 0)])) (Ex.build (vs := []) rfl (by first | rfl | kernel_rfl)) (by decide) ?_
  refine GL.step (Stp.st2 (cs' := [(.int .i64 0), (.slice none 0 0)]) rfl rfl rfl T.sz25 rfl rfl rfl) (fun _ _ => ?_)
  refine GL.sg rfl (by decide) ?_
  refine GL.nil (GE.thenN (GC.ret (GE.thenR ?_)))
  refine GC.ret2 rfl (Rv.cellA rfl T.ag25 T.sz25 (L := _) (i := 2) rfl (vs := [(.int .i64 0), (.slice none 0 0)]) rfl rfl) (Rv.tmp rfl) (fun wN HN => ?_)
  exact HN.ret () trivial rfl (List.nil_sublist _) rfl
 ·refine GC.draw [⟨bq6, [(.int .i64 ((pAt ps j).d.1)), (.int .i64 ((pAt ps j).d.2.1)), (.slice (some ⟨xq4.1, 0, none⟩) ((pAt ps j).d.2.2.length) xq4.2.1)], 43, true⟩, ⟨xq4.1, (pAt ps j).d.2.2.map u32 ++ xq4.2.2, 28, true⟩, ⟨bq3, [(.int .i64 0), (.slice none 0 0)], 25, true⟩, ⟨bq2, [(.int .i64 q.W), (.int .i64 q.H), (.slice q.ad q.n q.cap)], 43, true⟩, ⟨bq1, [(.int .i64 sp), (.slice (some ⟨b, o, none⟩) n cap)], 25, true⟩] T.mixed (fuel := 18) rfl rfl ?_
  refine GH.tk 0 (v := (.pointer (some ⟨bq2, 0, none⟩))) rfl (by kernel_rfl) (fun _ _ _ h => h) (Ex.cast (Ex.fieldAddr rfl Try.underlying43 rfl T.sz3 (by decide)) rfl) (ulC (ulC (ulC (ulC (ulC ulN))))) (by decide) ?_
  refine GH.tk 1 (v := (.int .i64 q.W)) rfl (by kernel_rfl) (fun _ _ _ h => h) (Ex.load rfl T.ag3 (i := 3) rfl rfl) (ulC (ulC (ulC (ulC (ulC ulN))))) (by decide) ?_
  refine GH.tk 2 (v := (.pointer (some ⟨bq1, 1, none⟩))) rfl (by kernel_rfl) (fun _ _ _ h => h) (Ex.cast (Ex.fieldAddr rfl Try.underlying25 rfl T.sz23 (by decide)) rfl) (ulC (ulC (ulC (ulC (ulC ulN))))) (by decide) ?_
  refine GH.tk 3 (v := (.slice (some ⟨b, o, none⟩) n cap)) rfl (by kernel_rfl) (fun _ _ _ h => h) (Ex.load rfl T.ag23 (i := 4) rfl rfl) (ulC (ulC (ulC (ulC (ulC ulN))))) (by decide) ?_
  refine GH.tk 4 (v := (.pointer (some ⟨b, o, none⟩))) rfl (by kernel_rfl) (fun _ _ _ h => h) (Ex.cast (Ex.indexAddr rfl rfl Try.underlying23 T.sz43 (by omega) (by omega)) rfl) (ulC (ulC (ulC (ulC (ulC ulN))))) (by decide) ?_
  refine GH.tk 5 (v := (.pointer (some ⟨b, o, none⟩))) rfl (by kernel_rfl) (fun _ _ _ h => h) (Ex.cast (Ex.fieldAddr rfl Try.underlying43 rfl T.sz3 (by decide)) rfl) (ulC (ulC (ulC (ulC (ulC ulN))))) (by decide) ?_
  refine GH.tk 6 (v := (.int .i64 ((pAt ps 0).W))) rfl (by kernel_rfl) (fun _ _ _ h => h) (Ex.loadO rfl T.ag3 (Pns.cell (i := 0) (j := 0) hps (by omega) (by decide) rfl) (fun x => x)) (ulC (ulC (ulC (ulC (ulC ulN))))) (by decide) ?_
  refine GH.tk 7 (v := (.bool true)) rfl (by kernel_rfl) (fun _ _ _ h => h) (Ex.cast (Ex.neq rfl rfl) (congrArg Value.bool (decide_eq_true (by exact hW)))) (ulC (ulC (ulC (ulC (ulC ulN))))) (by decide) ?_
  refine GH.tk 8 (v := (.bool true)) rfl (by kernel_rfl) (fun _ _ _ h => h) (Ex.move rfl) (ulC (ulC (ulC (ulC (ulC ulN))))) (by decide) ?_
  refine GH.skipG 9 (tj := 35) rfl rfl rfl rfl (by kernel_rfl) (by kernel_rfl) (by kernel_rfl) (fun _ _ _ h => h) (ulC (ulC (ulC (ulC (ulC ulN))))) (by decide) ?_
  refine GH.skipG 10 (tj := 35) rfl rfl rfl rfl (by kernel_rfl) (by kernel_rfl) (by kernel_rfl) (fun _ _ _ h => h) (ulC (ulC (ulC (ulC (ulC ulN))))) (by decide) ?_
  refine GH.skipG 11 (tj := 35) rfl rfl rfl rfl (by kernel_rfl) (by kernel_rfl) (by kernel_rfl) (fun _ _ _ h => h) (ulC (ulC (ulC (ulC (ulC ulN))))) (by decide) ?_
  refine GH.skipG 12 (tj := 35) rfl rfl rfl rfl (by kernel_rfl) (by kernel_rfl) (by kernel_rfl) (fun _ _ _ h => h) (ulC (ulC (ulC (ulC (ulC ulN))))) (by decide) ?_
  refine GH.skipG 13 (tj := 35) rfl rfl rfl rfl (by kernel_rfl) (by kernel_rfl) (by kernel_rfl) (fun _ _ _ h => h) (ulC (ulC (ulC (ulC (ulC ulN))))) (by decide) ?_
  refine GH.skipG 14 (tj := 35) rfl rfl rfl rfl (by kernel_rfl) (by kernel_rfl) (by kernel_rfl) (fun _ _ _ h => h) (ulC (ulC (ulC (ulC (ulC ulN))))) (by decide) ?_
  refine GH.skipG 15 (tj := 35) rfl rfl rfl rfl (by kernel_rfl) (by kernel_rfl) (by kernel_rfl) (fun _ _ _ h => h) (ulC (ulC (ulC (ulC (ulC ulN))))) (by decide) ?_
  refine GH.skipG 16 (tj := 35) rfl rfl rfl rfl (by kernel_rfl) (by kernel_rfl) (by kernel_rfl) (fun _ _ _ h => h) (ulC (ulC (ulC (ulC (ulC ulN))))) (by decide) ?_
  refine GH.tk 17 (v := (.bool true)) rfl (by kernel_rfl) (fun _ _ _ h => h) (Ex.pickT rfl rfl) (ulC (ulC (ulC (ulC (ulC ulN))))) (by decide) ?_
  refine GH.done (by kernel_rfl) ?_
  refine GE.thenN ?_
  refine GC.cond rfl (fun _ => ?_) (fun hq12 => by cases hq12)
  refine GC.seq (GC.region ?_)
  refine GL.val (v := (.agg #[(.int .i64 0), (.slice none 0 0)])) (Ex.build (vs := []) rfl (by first | rfl | kernel_rfl)) (by decide) ?_
  refine GL.step (Stp.st2 (cs' := [(.int .i64 0), (.slice none 0 0)]) rfl rfl rfl T.sz25 rfl rfl rfl) (fun _ _ => ?_)
  refine GL.sg rfl (by decide) ?_
  refine GL.nil (GE.thenN (GC.ret (GE.thenR ?_)))
  refine GC.ret2 rfl (Rv.cellA rfl T.ag25 T.sz25 (L := _) (i := 2) rfl (vs := [(.int .i64 0), (.slice none 0 0)]) rfl rfl) (Rv.tmp rfl) (fun wN HN => ?_)
  exact HN.ret () trivial rfl (List.nil_sublist _) rfl

theorem ref_withp_ok (sp : Int) (b o n cap : Nat) (ps : List Pn) (W H : Nat) (j : Nat) (q : Pn) (w : World) (hps : Pns w b o ps) (hn : n = ps.length) (hok : OkPic sp ps W H) (hj : j < n) (hq : q.Ok w) (hqc : q.W = (W : Int) ∧ q.H = (H : Int) ∧ q.n = W * H) :
  Calls Try.prog 30 #[(.agg #[(.int .i64 sp), (.slice (some ⟨b, o, none⟩) n cap)]), (.int .i64 (((j : Nat) : Int))), (.agg #[(.int .i64 q.W), (.int .i64 q.H), (.slice q.ad q.n q.cap)])] w (Ret w (fun r : Ac => r.qs ≠ [] ∧ r.ds = ((List.range n).map (wiG ps ((j : Nat) : Int) q)) ∧ r.Ok ∧ ∀ q ∈ r.qs, q.Ok) (fun r => .tuple #[(.agg #[(.int .i64 sp), (.slice r.ad r.n r.cp)]), .int .i64 0]) (fun r => r.blks 43 28)) := by
 refine enter (M := None) (L := []) (n := 55) (l := [(0, (.agg #[(.int .i64 sp), (.slice (some ⟨b, o, none⟩) n cap)])), (1, (.int .i64 (((j : Nat) : Int)))), (2, (.agg #[(.int .i64 q.W), (.int .i64 q.H), (.slice q.ad q.n q.cap)]))]) Try.func30 rfl rfl (Args.cons rfl (Args.cons rfl (Args.cons rfl (Args.nil _)))) (Hp.start _ _) ?_
 refine GC.seq (GC.region ?_)
 refine GL.step (Stp.box (cs := [(.int .i64 sp), (.slice (some ⟨b, o, none⟩) n cap)]) rfl rfl (by decide)) (fun bq1 _ => ?_)
 refine GL.step (Stp.box (cs := [(.int .i64 q.W), (.int .i64 q.H), (.slice q.ad q.n q.cap)]) rfl rfl (by decide)) (fun bq2 _ => ?_)
 refine GL.step (Stp.alloc T.zr25 (by decide)) (fun bq3 _ => ?_)
 refine GL.sg rfl (by decide) ?_
 refine GL.nil (GE.thenN (GC.seq (GC.region ?_)))
 refine GL.val (v := (.agg #[(.int .i64 sp), (.slice (some ⟨b, o, none⟩) n cap)])) (Ex.loadA rfl T.ag25 T.sz25 (i := 2) rfl (vs := [(.int .i64 sp), (.slice (some ⟨b, o, none⟩) n cap)]) rfl rfl) (by decide) ?_
 refine GL.mv rfl (by decide) ?_
 refine GL.step (Stp.callR (σ := Nat × Nat × List Value) (p := fun rz => ((pAt ps j).d.2.2.map u32 ++ rz.2.2).length = rz.2.1 * 1 ∧ rz.2.1 ≤ 9223372036854775807) (v := fun rz => (.tuple #[(.agg #[(.int .i64 ((pAt ps j).d.1)), (.int .i64 ((pAt ps j).d.2.1)), (.slice (some ⟨rz.1, 0, none⟩) ((pAt ps j).d.2.2.length) rz.2.1)]), (.int .i64 0)])) (N := fun rz => [⟨rz.1, (pAt ps j).d.2.2.map u32 ++ rz.2.2, 28, true⟩]) (vs := [(.agg #[(.int .i64 sp), (.slice (some ⟨b, o, none⟩) n cap)]), (.int .i64 (((j : Nat) : Int)))]) rfl rfl T.own24 (by decide) (fun wc hw => (by exact ref_planep_in sp b o n cap ps W H j wc (hps.later hw.1) hn hok hj))) (fun xq4 hq5 => ?_)
 refine GL.mv rfl (by decide) ?_
 refine GL.val (Ex.extract rfl rfl) (by decide) ?_
 refine GL.val (Ex.extract rfl rfl) (by decide) ?_
 refine GL.step (Stp.alloc T.zr43 (by decide)) (fun bq6 _ => ?_)
 refine GL.step (Stp.st0 (cs' := [(.int .i64 ((pAt ps j).d.1)), (.int .i64 ((pAt ps j).d.2.1)), (.slice (some ⟨xq4.1, 0, none⟩) ((pAt ps j).d.2.2.length) xq4.2.1)]) rfl rfl rfl T.sz43 rfl rfl rfl) (fun _ _ => ?_)
 refine GL.sg rfl (by decide) ?_
 refine GL.nil (GE.thenN (GC.seq (GC.seq (GC.region ?_))))
 refine GL.mv rfl (by decide) ?_
 refine GL.val (v := (.bool false)) (Ex.cast (Ex.neq rfl rfl) rfl) (by decide) ?_
 refine GL.nil (GE.thenN ?_)
 refine GC.cond rfl (fun hq7 => by cases hq7) (fun _ => ?_)
 refine GC.skip (GE.thenN (GC.seq (GC.region ?_)))
 refine GL.val (v := (.agg #[(.int .i64 q.W), (.int .i64 q.H), (.slice q.ad q.n q.cap)])) (Ex.loadA rfl T.ag43 T.sz43 (i := 3) rfl (vs := [(.int .i64 q.W), (.int .i64 q.H), (.slice q.ad q.n q.cap)]) rfl rfl) (by decide) ?_
 refine GL.step (Stp.callR (σ := Unit) (p := fun rz => True) (v := fun rz => (.int .i64 0)) (N := fun rz => []) (vs := [(.agg #[(.int .i64 q.W), (.int .i64 q.H), (.slice q.ad q.n q.cap)])]) rfl rfl T.own65 (by decide) (fun wc hw => (by have h := ref_check q.W q.H q.ad q.n q.cap wc; rw [show Sx.chk q.W q.H q.n = 0 from by rw [hqc.1, hqc.2.1, hqc.2.2]; exact chk_ok hok.ok] at h; exact h))) (fun xq8 hq9 => ?_)
 refine GL.sg rfl (by decide) ?_
 refine GL.nil (GE.thenN (GC.seq (GC.seq (GC.region ?_))))
 refine GL.mv rfl (by decide) ?_
 refine GL.val (v := (.bool false)) (Ex.cast (Ex.neq rfl rfl) rfl) (by decide) ?_
 refine GL.nil (GE.thenN ?_)
 refine GC.cond rfl (fun hq10 => by cases hq10) (fun _ => ?_)
 refine GC.skip (GE.thenN (GC.seq (GC.seq ?_)))
 refine GC.draw [⟨bq6, [(.int .i64 ((pAt ps j).d.1)), (.int .i64 ((pAt ps j).d.2.1)), (.slice (some ⟨xq4.1, 0, none⟩) ((pAt ps j).d.2.2.length) xq4.2.1)], 43, true⟩, ⟨xq4.1, (pAt ps j).d.2.2.map u32 ++ xq4.2.2, 28, true⟩, ⟨bq3, [(.int .i64 0), (.slice none 0 0)], 25, true⟩, ⟨bq2, [(.int .i64 q.W), (.int .i64 q.H), (.slice q.ad q.n q.cap)], 43, true⟩, ⟨bq1, [(.int .i64 sp), (.slice (some ⟨b, o, none⟩) n cap)], 25, true⟩] T.mixed (fuel := 18) rfl rfl ?_
 refine GH.tk 0 (v := (.pointer (some ⟨bq2, 0, none⟩))) rfl (by kernel_rfl) (fun _ _ _ h => h) (Ex.cast (Ex.fieldAddr rfl Try.underlying43 rfl T.sz3 (by decide)) rfl) (ulC (ulC (ulC (ulC (ulC ulN))))) (by decide) ?_
 refine GH.tk 1 (v := (.int .i64 q.W)) rfl (by kernel_rfl) (fun _ _ _ h => h) (Ex.load rfl T.ag3 (i := 3) rfl rfl) (ulC (ulC (ulC (ulC (ulC ulN))))) (by decide) ?_
 refine GH.tk 2 (v := (.pointer (some ⟨bq1, 1, none⟩))) rfl (by kernel_rfl) (fun _ _ _ h => h) (Ex.cast (Ex.fieldAddr rfl Try.underlying25 rfl T.sz23 (by decide)) rfl) (ulC (ulC (ulC (ulC (ulC ulN))))) (by decide) ?_
 refine GH.tk 3 (v := (.slice (some ⟨b, o, none⟩) n cap)) rfl (by kernel_rfl) (fun _ _ _ h => h) (Ex.load rfl T.ag23 (i := 4) rfl rfl) (ulC (ulC (ulC (ulC (ulC ulN))))) (by decide) ?_
 refine GH.tk 4 (v := (.pointer (some ⟨b, o, none⟩))) rfl (by kernel_rfl) (fun _ _ _ h => h) (Ex.cast (Ex.indexAddr rfl rfl Try.underlying23 T.sz43 (by omega) (by omega)) rfl) (ulC (ulC (ulC (ulC (ulC ulN))))) (by decide) ?_
 refine GH.tk 5 (v := (.pointer (some ⟨b, o, none⟩))) rfl (by kernel_rfl) (fun _ _ _ h => h) (Ex.cast (Ex.fieldAddr rfl Try.underlying43 rfl T.sz3 (by decide)) rfl) (ulC (ulC (ulC (ulC (ulC ulN))))) (by decide) ?_
 refine GH.tk 6 (v := (.int .i64 ((pAt ps 0).W))) rfl (by kernel_rfl) (fun _ _ _ h => h) (Ex.loadO rfl T.ag3 (Pns.cell (i := 0) (j := 0) hps (by omega) (by decide) rfl) (fun x => x)) (ulC (ulC (ulC (ulC (ulC ulN))))) (by decide) ?_
 refine GH.tk 7 (v := (.bool false)) rfl (by kernel_rfl) (fun _ _ _ h => h) (Ex.cast (Ex.neq rfl rfl) (congrArg Value.bool (decide_eq_false (by have h1 := hok.at hok.n0; exact fun h => h (by first | rw [hqc.1, h1.1] | rw [hqc.2.1, h1.2.1]))))) (ulC (ulC (ulC (ulC (ulC ulN))))) (by decide) ?_
 refine GH.tk 8 (v := (.bool false)) rfl (by kernel_rfl) (fun _ _ _ h => h) (Ex.move rfl) (ulC (ulC (ulC (ulC (ulC ulN))))) (by decide) ?_
 refine GH.takeG 9 (tj := 35) (v := (.pointer (some ⟨bq2, 1, none⟩))) rfl rfl rfl (by kernel_rfl) (by kernel_rfl) (by kernel_rfl) (fun _ _ _ h => h) (Ex.cast (Ex.fieldAddr rfl Try.underlying43 rfl T.sz3 (by decide)) rfl) (ulC (ulC (ulC (ulC (ulC ulN))))) (by decide) ?_
 refine GH.takeG 10 (tj := 35) (v := (.int .i64 q.H)) rfl rfl rfl (by kernel_rfl) (by kernel_rfl) (by kernel_rfl) (fun _ _ _ h => h) (Ex.load rfl T.ag3 (i := 3) rfl rfl) (ulC (ulC (ulC (ulC (ulC ulN))))) (by decide) ?_
 refine GH.takeG 11 (tj := 35) (v := (.pointer (some ⟨bq1, 1, none⟩))) rfl rfl rfl (by kernel_rfl) (by kernel_rfl) (by kernel_rfl) (fun _ _ _ h => h) (Ex.cast (Ex.fieldAddr rfl Try.underlying25 rfl T.sz23 (by decide)) rfl) (ulC (ulC (ulC (ulC (ulC ulN))))) (by decide) ?_
 refine GH.takeG 12 (tj := 35) (v := (.slice (some ⟨b, o, none⟩) n cap)) rfl rfl rfl (by kernel_rfl) (by kernel_rfl) (by kernel_rfl) (fun _ _ _ h => h) (Ex.load rfl T.ag23 (i := 4) rfl rfl) (ulC (ulC (ulC (ulC (ulC ulN))))) (by decide) ?_
 refine GH.takeG 13 (tj := 35) (v := (.pointer (some ⟨b, o, none⟩))) rfl rfl rfl (by kernel_rfl) (by kernel_rfl) (by kernel_rfl) (fun _ _ _ h => h) (Ex.cast (Ex.indexAddr rfl rfl Try.underlying23 T.sz43 (by omega) (by omega)) rfl) (ulC (ulC (ulC (ulC (ulC ulN))))) (by decide) ?_
 refine GH.takeG 14 (tj := 35) (v := (.pointer (some ⟨b, o + 1, none⟩))) rfl rfl rfl (by kernel_rfl) (by kernel_rfl) (by kernel_rfl) (fun _ _ _ h => h) (Ex.cast (Ex.fieldAddr rfl Try.underlying43 rfl T.sz3 (by decide)) rfl) (ulC (ulC (ulC (ulC (ulC ulN))))) (by decide) ?_
 refine GH.takeG 15 (tj := 35) (v := (.int .i64 ((pAt ps 0).H))) rfl rfl rfl (by kernel_rfl) (by kernel_rfl) (by kernel_rfl) (fun _ _ _ h => h) (Ex.loadO rfl T.ag3 (Pns.cell (i := 0) (j := 1) hps (by omega) (by decide) rfl) (fun x => x)) (ulC (ulC (ulC (ulC (ulC ulN))))) (by decide) ?_
 refine GH.takeG 16 (tj := 35) (v := (.bool false)) rfl rfl rfl (by kernel_rfl) (by kernel_rfl) (by kernel_rfl) (fun _ _ _ h => h) (Ex.cast (Ex.neq rfl rfl) (congrArg Value.bool (decide_eq_false (by have h1 := hok.at hok.n0; exact fun h => h (by first | rw [hqc.1, h1.1] | rw [hqc.2.1, h1.2.1]))))) (ulC (ulC (ulC (ulC (ulC ulN))))) (by decide) ?_
 refine GH.tk 17 (v := (.bool false)) rfl (by kernel_rfl) (fun _ _ _ h => h) (Ex.pickF rfl rfl) (ulC (ulC (ulC (ulC (ulC ulN))))) (by decide) ?_
 refine GH.done (by kernel_rfl) ?_
 refine GE.thenN ?_
 refine GC.cond rfl (fun hq11 => by cases hq11) (fun _ => ?_)
 refine GC.skip (GE.thenN (GC.seq (GC.region ?_)))
 refine GL.val (v := (.agg #[(.int .i64 sp), (.slice (some ⟨b, o, none⟩) n cap)])) (Ex.loadA rfl T.ag25 T.sz25 (i := 4) rfl (vs := [(.int .i64 sp), (.slice (some ⟨b, o, none⟩) n cap)]) rfl rfl) (by decide) ?_
 refine GL.step (Stp.call (vs := [(.agg #[(.int .i64 sp), (.slice (some ⟨b, o, none⟩) n cap)])]) rfl rfl T.own68 (by decide) (fun wc hw => (Ret.frm (L' := fun x => (⟨bq6, [(.int .i64 ((pAt ps j).d.1)), (.int .i64 ((pAt ps j).d.2.1)), (.slice (some ⟨xq4.1, 0, none⟩) ((pAt ps j).d.2.2.length) xq4.2.1)], 43, true⟩ :: ⟨xq4.1, (pAt ps j).d.2.2.map u32 ++ xq4.2.2, 28, true⟩ :: ⟨bq3, [(.int .i64 0), (.slice none 0 0)], 25, true⟩ :: ⟨bq2, [(.int .i64 q.W), (.int .i64 q.H), (.slice q.ad q.n q.cap)], 43, true⟩ :: ⟨bq1, [(.int .i64 sp), (.slice (some ⟨b, o, none⟩) n cap)], 25, true⟩ :: (x.blks 43 28 ++ []))) hw (ref_copyp sp b o n cap ps W H wc (hps.later hw.1) hn hok) (fun x w' _ h => by exact Hp.segsD (A := [x.blks 43 28, [⟨bq6, [(.int .i64 ((pAt ps j).d.1)), (.int .i64 ((pAt ps j).d.2.1)), (.slice (some ⟨xq4.1, 0, none⟩) ((pAt ps j).d.2.2.length) xq4.2.1)], 43, true⟩, ⟨xq4.1, (pAt ps j).d.2.2.map u32 ++ xq4.2.2, 28, true⟩, ⟨bq3, [(.int .i64 0), (.slice none 0 0)], 25, true⟩, ⟨bq2, [(.int .i64 q.W), (.int .i64 q.H), (.slice q.ad q.n q.cap)], 43, true⟩, ⟨bq1, [(.int .i64 sp), (.slice (some ⟨b, o, none⟩) n cap)], 25, true⟩]]) (idx := [1, 0]) 2 [] h rfl (by decide) rfl)))) (fun xq12 hq13 => ?_)
 refine GL.step (Stp.alloc T.zr25 (by decide)) (fun bq14 _ => ?_)
 refine GL.step (Stp.st0 (cs' := [(.int .i64 sp), (.slice xq12.ad xq12.n xq12.cp)]) rfl rfl rfl T.sz25 rfl rfl rfl) (fun _ _ => ?_)
 refine GL.nil (GE.thenN (GC.seq ?_))
 have hxs := Ac.sm hq13.1
 have hnx : xq12.n = n := by rw [← Ac.ds_len, hq13.2.1]; simp
 refine GC.hp (L2 := (⟨bq14, [(.int .i64 sp), (.slice xq12.ad xq12.n xq12.cp)], 25, true⟩ :: ⟨bq6, [(.int .i64 ((pAt ps j).d.1)), (.int .i64 ((pAt ps j).d.2.1)), (.slice (some ⟨xq4.1, 0, none⟩) ((pAt ps j).d.2.2.length) xq4.2.1)], 43, true⟩ :: ⟨xq4.1, (pAt ps j).d.2.2.map u32 ++ xq4.2.2, 28, true⟩ :: ⟨bq3, [(.int .i64 0), (.slice none 0 0)], 25, true⟩ :: ⟨bq2, [(.int .i64 q.W), (.int .i64 q.H), (.slice q.ad q.n q.cap)], 43, true⟩ :: ⟨bq1, [(.int .i64 sp), (.slice (some ⟨b, o, none⟩) n cap)], 25, true⟩ :: ⟨xq12.b, pcs xq12.pl ++ xq12.sp, 43, true⟩ :: (xq12.qs.map (Nq.blk 28) ++ []))) (fun w h' => by have h2 := h'; unfold Ac.blks at h2; rw [hxs.2.2] at h2; exact Hp.segsD (A := [[⟨bq14, [(.int .i64 sp), (.slice xq12.ad xq12.n xq12.cp)], 25, true⟩, ⟨bq6, [(.int .i64 ((pAt ps j).d.1)), (.int .i64 ((pAt ps j).d.2.1)), (.slice (some ⟨xq4.1, 0, none⟩) ((pAt ps j).d.2.2.length) xq4.2.1)], 43, true⟩, ⟨xq4.1, (pAt ps j).d.2.2.map u32 ++ xq4.2.2, 28, true⟩, ⟨bq3, [(.int .i64 0), (.slice none 0 0)], 25, true⟩, ⟨bq2, [(.int .i64 q.W), (.int .i64 q.H), (.slice q.ad q.n q.cap)], 43, true⟩, ⟨bq1, [(.int .i64 sp), (.slice (some ⟨b, o, none⟩) n cap)], 25, true⟩], [⟨xq12.b, pcs xq12.pl ++ xq12.sp, 43, true⟩], xq12.qs.map (Nq.blk 28)]) (idx := [0, 1, 2]) 3 [] (by simpa using h2) rfl (by decide) rfl) ?_
 rw [hxs.1, hxs.2.1]
 refine GC.drawP (⟨bq14, [(.int .i64 sp), (.slice (some ⟨xq12.b, 0, none⟩) xq12.n xq12.cap)], 25, true⟩ :: ⟨bq6, [(.int .i64 ((pAt ps j).d.1)), (.int .i64 ((pAt ps j).d.2.1)), (.slice (some ⟨xq4.1, 0, none⟩) ((pAt ps j).d.2.2.length) xq4.2.1)], 43, true⟩ :: ⟨xq4.1, (pAt ps j).d.2.2.map u32 ++ xq4.2.2, 28, true⟩ :: ⟨bq3, [(.int .i64 0), (.slice none 0 0)], 25, true⟩ :: ⟨bq2, [(.int .i64 q.W), (.int .i64 q.H), (.slice q.ad q.n q.cap)], 43, true⟩ :: ⟨bq1, [(.int .i64 sp), (.slice (some ⟨b, o, none⟩) n cap)], 25, true⟩ :: (xq12.qs.map (Nq.blk 28) ++ [])) T.mixed (by kernel_rfl) (by kernel_rfl) (fuel := 6) rfl rfl ?_
 refine GH.tk 0 (v := (.pointer (some ⟨bq14, 1, none⟩))) rfl (by kernel_rfl) (fun _ _ _ h => h) (Ex.cast (Ex.fieldAddr rfl Try.underlying25 rfl T.sz23 (by decide)) rfl) (ulC (ulC (ulC (ulC (ulC (ulC (ulS ulR))))))) (by decide) ?_
 refine GH.tk 1 (v := (.slice (some ⟨xq12.b, 0, none⟩) xq12.n xq12.cap)) rfl (by kernel_rfl) (fun _ _ _ h => h) (Ex.load rfl T.ag23 (i := 0) rfl rfl) (ulC (ulC (ulC (ulC (ulC (ulC (ulS ulR))))))) (by decide) ?_
 refine GH.tk 2 (v := (.int .i64 (((j : Nat) : Int)))) rfl (by kernel_rfl) (fun _ _ _ h => h) (Ex.move rfl) (ulC (ulC (ulC (ulC (ulC (ulC (ulS ulR))))))) (by decide) ?_
 refine GH.tk 3 (v := (.agg #[(.int .i64 q.W), (.int .i64 q.H), (.slice q.ad q.n q.cap)])) rfl (by kernel_rfl) (fun _ _ _ h => h) (Ex.loadA rfl T.ag43 T.sz43 (i := 4) rfl (vs := [(.int .i64 q.W), (.int .i64 q.H), (.slice q.ad q.n q.cap)]) rfl rfl) (ulC (ulC (ulC (ulC (ulC (ulC (ulS ulR))))))) (by decide) ?_
 refine GH.one 4 rfl (by kernel_rfl) (Stp.callR (σ := Nat × Nat × List Value) (p := fun rz => (q.d.2.2.map u32 ++ rz.2.2).length = rz.2.1 * 1 ∧ rz.2.1 ≤ 9223372036854775807) (v := fun rz => (.agg #[(.int .i64 q.d.1), (.int .i64 q.d.2.1), (.slice (some ⟨rz.1, 0, none⟩) q.d.2.2.length rz.2.1)])) (N := fun rz => [⟨rz.1, q.d.2.2.map u32 ++ rz.2.2, 28, true⟩]) (vs := [(.agg #[(.int .i64 q.W), (.int .i64 q.H), (.slice q.ad q.n q.cap)])]) rfl rfl T.own62 (by decide) (fun wc hw => (by exact ref_copy_p q W H wc hok.ok hqc (hq.later hw.1)))) (fun _ => (ulS (ulC (ulC (ulC (ulC (ulC (ulC (ulS ulR))))))))) (fun xq15 hq16 => ?_)
 refine GH.tk 5 (v := (.pointer (some ⟨xq12.b, j * 3, none⟩))) rfl (by kernel_rfl) (fun _ _ _ h => h) (Ex.cast (Ex.indexAddr rfl rfl Try.underlying23 T.sz43 (by omega) (by omega)) (by simp)) (ulS (ulC (ulC (ulC (ulC (ulC (ulC (ulS ulR)))))))) (by decide) ?_
 refine GH.done (by kernel_rfl) ?_
 refine GE.thenN ?_
 refine GE.tail rfl (Stp.storeL (i := 7) (cs := pcs xq12.pl ++ xq12.sp) (vs := (Nq.pn (Nq.mk q.W q.H q.xs xq15.1 xq15.2.1 xq15.2.2)).cs) (o := j * 3) (L1 := (⟨xq15.1, q.d.2.2.map u32 ++ xq15.2.2, 28, true⟩ :: ⟨bq14, [(.int .i64 sp), (.slice (some ⟨xq12.b, 0, none⟩) xq12.n xq12.cap)], 25, true⟩ :: ⟨bq6, [(.int .i64 ((pAt ps j).d.1)), (.int .i64 ((pAt ps j).d.2.1)), (.slice (some ⟨xq4.1, 0, none⟩) ((pAt ps j).d.2.2.length) xq4.2.1)], 43, true⟩ :: ⟨xq4.1, (pAt ps j).d.2.2.map u32 ++ xq4.2.2, 28, true⟩ :: ⟨bq3, [(.int .i64 0), (.slice none 0 0)], 25, true⟩ :: ⟨bq2, [(.int .i64 q.W), (.int .i64 q.H), (.slice q.ad q.n q.cap)], 43, true⟩ :: ⟨bq1, [(.int .i64 sp), (.slice (some ⟨b, o, none⟩) n cap)], 25, true⟩ :: ⟨xq12.b, pcs (xq12.put j (Nq.mk q.W q.H q.xs xq15.1 xq15.2.1 xq15.2.2)).pl ++ xq12.sp, 43, true⟩ :: (xq12.qs.map (Nq.blk 28) ++ []))) rfl rfl rfl T.sz43 rfl (Nat.ble_eq_true_of_le (by rw [List.length_append, pcs_len, Ac.pl_len]; have := hnx; show j * 3 + 3 ≤ _; omega)) rfl (by rw [pcs_set _ _ _ _ (by rw [Ac.pl_len]; have := hnx; omega), ← Ac.put_pl]; rfl)) (fun _ _ => ?_)
 refine GE.thenN (GC.seq (GC.region ?_))
 refine GL.val (v := (.agg #[(.int .i64 sp), (.slice (some ⟨xq12.b, 0, none⟩) xq12.n xq12.cap)])) (Ex.loadA rfl T.ag25 T.sz25 (i := 1) rfl (vs := [(.int .i64 sp), (.slice (some ⟨xq12.b, 0, none⟩) xq12.n xq12.cap)]) rfl rfl) (by decide) ?_
 refine GL.step (Stp.st4 (cs' := [(.int .i64 sp), (.slice (some ⟨xq12.b, 0, none⟩) xq12.n xq12.cap)]) rfl rfl rfl T.sz25 rfl rfl rfl) (fun _ _ => ?_)
 refine GL.sg rfl (by decide) ?_
 refine GL.nil (GE.thenN (GC.ret ?_))
 refine GC.ret2 rfl (Rv.cellA rfl T.ag25 T.sz25 (L := _) (i := 4) rfl (vs := [(.int .i64 sp), (.slice (some ⟨xq12.b, 0, none⟩) xq12.n xq12.cap)]) rfl rfl) (Rv.tmp rfl) (fun wN HN => ?_)
 have H2 := HN.sub (ulC (ulS (ulS (ulS (ulS (ulS (ulS (ulC ulR))))))))
 have H3 := Ac.put_hp (K := []) (Tp := 43) (Tu := 28) (q := (Nq.mk q.W q.H q.xs xq15.1 xq15.2.1 xq15.2.2)) hq13.1 (show j < xq12.n by omega) (by have H4 := Hp.segsD (A := [[⟨xq15.1, q.d.2.2.map u32 ++ xq15.2.2, 28, true⟩], [⟨xq12.b, pcs (xq12.put j (Nq.mk q.W q.H q.xs xq15.1 xq15.2.1 xq15.2.2)).pl ++ xq12.sp, 43, true⟩], xq12.qs.map (Nq.blk 28)]) (idx := [1, 0, 2]) 3 [] H2 rfl (by decide) rfl; simp only [List.flatten_cons, List.flatten_nil, List.append_nil, List.cons_append, List.nil_append] at H4; exact H4)
 exact H3.ret (xq12.put j (Nq.mk q.W q.H q.xs xq15.1 xq15.2.1 xq15.2.2)) ⟨Ac.put_ne _ _ hq13.1, by rw [Ac.put_ds, hq13.2.1]; exact wiG_set, Or.inr (by rw [Ac.put_pl, List.length_append, pcs_len, List.length_set, ← pcs_len, ← List.length_append]; exact (hq13.2.2.1).resolve_left hq13.1), Ac.put_mem hq13.2.2.2 hq16⟩ (by have e := Ac.sm (Ac.put_ne j (Nq.mk q.W q.H q.xs xq15.1 xq15.2.1 xq15.2.2) hq13.1); rw [e.1, e.2.1, Ac.put_n]; rfl) (List.Sublist.refl _) (Ac.blks_own _ _ _)

theorem ref_withp_u (sp : Int) (ad : Option Addr) (n cap : Nat) (ps : List Pn) (k : Int) (q : Pn) (w : World) (hps : PnsA w ad ps) (hn : n = ps.length) (hnb : n ≤ 35184372087808) (hq : q.Ok w) : Calls Try.prog 30 #[(.agg #[(.int .i64 sp), (.slice ad n cap)]), .int .i64 k, (.agg #[(.int .i64 q.W), (.int .i64 q.H), (.slice q.ad q.n q.cap)])] w (Ret w (fun r : Ac => r.Ok ∧ (∀ q ∈ r.qs, q.Ok) ∧ r.ds = wiD sp ps k q) (fun r => .tuple #[(.agg #[(.int .i64 ((picS (wiE sp ps k q) sp))), (.slice r.ad r.n r.cp)]), .int .i64 (wiE sp ps k q)]) (fun r => r.blks 43 28)) := by
 have no : ∀ {e : Ending} {w' : World} (v : Int), wiE sp ps k q = v → v ≠ 0 → Ret w (fun _ : Unit => True) (fun _ => .tuple #[.agg #[.int .i64 0, .slice none 0 0], .int .i64 v]) (fun _ => []) e w' → Ret w (fun r : Ac => r.Ok ∧ (∀ q ∈ r.qs, q.Ok) ∧ r.ds = wiD sp ps k q) (fun r => .tuple #[(.agg #[(.int .i64 ((picS (wiE sp ps k q) sp))), (.slice r.ad r.n r.cp)]), .int .i64 (wiE sp ps k q)]) (fun r => r.blks 43 28) e w' := fun v hv h0 hr =>
  Ret.to (fun _ => Ac.no) hr (fun _ _ => ⟨Or.inl rfl, fun q hq => (by cases hq), by rw [wiD_bad (by rw [hv]; exact h0)]; rfl⟩) (fun _ _ => by rw [hv]; unfold picS; rw [if_neg h0]; rfl) (fun _ _ => rfl)
 by_cases hc : chkP sp ps = 0
 ·obtain ⟨W, H, hok⟩ := chkP_zero hc
  obtain ⟨b, o, rfl, h⟩ := hps.at hok.n0
  by_cases hk : 0 ≤ k ∧ k < ((n : Nat) : Int)
  ·obtain ⟨j, rfl⟩ := Int.eq_ofNat_of_zero_le hk.1
   have hE := plE_in (sp := sp) (ps := ps) hc (k := ((j : Nat) : Int)) (by omega)
   by_cases hqc : q.chk = 0
   ·by_cases hs : q.W ≠ (pAt ps 0).W ∨ q.H ≠ (pAt ps 0).H
    ·exact (ref_withp_s sp b o n cap ps W H j q w h hn hok (by omega) hqc hs).mono fun e w' hr => no 80 (wiE_s hE hqc hs) (by decide) hr
    ·have h0 := hok.at hok.n0
     have hqs : q.W = (W : Int) ∧ q.H = (H : Int) ∧ q.n = W * H := by
      obtain ⟨W', H', f1, f2, _, hn'⟩ := chk_zero hqc
      have a1 : W' = W := by omega
      have a2 : H' = H := by omega
      subst a1 a2
      exact ⟨f1, f2, hn'⟩
     have hz := wiE_ok hE hqc hs
     refine (ref_withp_ok sp b o n cap ps W H j q w h hn hok (by omega) hq hqs).mono fun e w' hr => Ret.to id hr (fun r hr => ⟨hr.2.2.1, hr.2.2.2, by rw [wiD_ok hz, ← hn]; exact hr.2.1⟩) (fun _ _ => by rw [hz]; rfl) (fun _ _ => rfl)
   ·exact (ref_withp_q sp b o n cap ps W H j q w h hn hok (by omega) hqc).mono fun e w' hr => no _ (wiE_q hE hqc) hqc hr
  ·have hE := plE_out (sp := sp) (ps := ps) hc (k := k) (by omega)
   exact (ref_withp_out sp b o n cap ps W H k q w h hn hok hk).mono fun e w' hr => no 82 (by rw [wiE_pl (by rw [hE]; decide), hE]) (by decide) hr
 ·have hE := plE_bad (sp := sp) (ps := ps) k hc
  exact (ref_withp_bad sp ad n cap ps k q w hps hn hnb hc).mono fun e w' hr => no _ (by rw [wiE_pl (by rw [hE]; exact hc), hE]) hc hr

theorem words_b (b1 o1 b2 o2 n c1 c2 : Nat) (xs : List Int) (w : World) (hx : xs.length = n) (hb : n ≤ 35184372087808) (hr1 : Rd w b1 o1 (xs.map u32)) (hr2 : Rd w b2 o2 (xs.map u32)) :
  Calls Try.prog 64 #[(.slice (some ⟨b1, o1, none⟩) n c1), (.slice (some ⟨b2, o2, none⟩) n c2)] w (Ret w (fun _ : Unit => True) (fun _ => .bool true) (fun _ => [])) := by
 refine enter (M := None) (L := []) (n := 26) (l := [(0, (.slice (some ⟨b1, o1, none⟩) n c1)), (1, (.slice (some ⟨b2, o2, none⟩) n c2))]) Try.func64 rfl rfl (Args.cons rfl (Args.cons rfl (Args.nil _))) (Hp.start _ _) ?_
 refine GC.seq (GC.region ?_)
 refine GL.sg rfl (by decide) ?_
 refine GL.nil (GE.thenN (GC.seq (GC.seq (GC.region ?_))))
 refine GL.mv rfl (by decide) ?_
 refine GL.val (v := (.int .i64 ((n : Int)))) (Ex.len rfl Try.underlying41) (by decide) ?_
 refine GL.mv rfl (by decide) ?_
 refine GL.val (v := (.int .i64 ((n : Int)))) (Ex.len rfl Try.underlying41) (by decide) ?_
 refine GL.val (v := (.bool false)) (Ex.cast (Ex.neq rfl rfl) (congrArg Value.bool (decide_eq_false (by simp)))) (by decide) ?_
 refine GL.nil (GE.thenN ?_)
 refine GC.cond rfl (fun hq1 => by cases hq1) (fun _ => ?_)
 refine GC.skip (GE.thenN (GC.seq (GC.seq (GC.region ?_))))
 refine GL.sg rfl (by decide) ?_
 refine GL.nil (GE.thenN (GC.block ?_))
 refine GC.loop (σ := Nat) (fun i => i ≤ n) (fun i => [(0, (.slice (some ⟨b1, o1, none⟩) n c1)), (1, (.slice (some ⟨b2, o2, none⟩) n c2)), (4, (.bool false)), (5, (.int .i64 (((i : Nat) : Int))))]) (fun i => []) (fun i => n - i) (0) (Nat.zero_le _) ((sub_cons rfl ((sub_cons rfl ((sub_cons rfl ((sub_cons rfl ((sub_nil _)))))))))) ulN (fun i hp => ?_)
 refine GC.seq (GC.seq (GC.region ?_))
 refine GL.mv rfl (by decide) ?_
 refine GL.mv rfl (by decide) ?_
 refine GL.val (v := (.int .i64 ((n : Int)))) (Ex.len rfl Try.underlying41) (by decide) ?_
 refine GL.val (v := (.bool (decide ((((i : Nat) : Int)) < ((n : Int)))))) (Ex.lss rfl rfl) (by decide) ?_
 refine GL.nil (GE.thenN ?_)
 refine GC.cond rfl (fun hq2 => ?_) (fun hq2 => ?_)
 ·replace hq2 := of_decide_eq_true hq2
  refine GC.skip (GE.thenN (GC.seq (GC.block (GC.seq ?_))))
  refine GC.draw [] T.mixed (fuel := 9) rfl rfl ?_
  refine GH.tk 0 (v := (.slice (some ⟨b1, o1, none⟩) n c1)) rfl (by kernel_rfl) (fun _ _ _ h => h) (Ex.move rfl) ulN (by decide) ?_
  refine GH.tk 1 (v := (.int .i64 (((i : Nat) : Int)))) rfl (by kernel_rfl) (fun _ _ _ h => h) (Ex.move rfl) ulN (by decide) ?_
  refine GH.tk 2 (v := (.pointer (some ⟨b1, o1 + i, none⟩))) rfl (by kernel_rfl) (fun _ _ _ h => h) (Ex.cast (Ex.indexAddr rfl rfl Try.underlying41 T.sz28 (by omega) (by omega)) (by simp)) ulN (by decide) ?_
  refine GH.tk 3 (v := (.int .u32 ((xs.getD i 0)))) rfl (by kernel_rfl) (fun _ _ _ h => h) (Ex.loadO rfl T.ag28 (Rd.at hr1 (by omega)) (fun x => x)) ulN (by decide) ?_
  refine GH.tk 4 (v := (.slice (some ⟨b2, o2, none⟩) n c2)) rfl (by kernel_rfl) (fun _ _ _ h => h) (Ex.move rfl) ulN (by decide) ?_
  refine GH.tk 5 (v := (.int .i64 (((i : Nat) : Int)))) rfl (by kernel_rfl) (fun _ _ _ h => h) (Ex.move rfl) ulN (by decide) ?_
  refine GH.tk 6 (v := (.pointer (some ⟨b2, o2 + i, none⟩))) rfl (by kernel_rfl) (fun _ _ _ h => h) (Ex.cast (Ex.indexAddr rfl rfl Try.underlying41 T.sz28 (by omega) (by omega)) (by simp)) ulN (by decide) ?_
  refine GH.tk 7 (v := (.int .u32 ((xs.getD i 0)))) rfl (by kernel_rfl) (fun _ _ _ h => h) (Ex.loadO rfl T.ag28 (Rd.at hr2 (by omega)) (fun x => x)) ulN (by decide) ?_
  refine GH.tk 8 (v := (.bool false)) rfl (by kernel_rfl) (fun _ _ _ h => h) (Ex.cast (Ex.neq rfl rfl) (congrArg Value.bool (decide_eq_false (by simp)))) ulN (by decide) ?_
  refine GH.done (by kernel_rfl) ?_
  refine GE.thenN ?_
  refine GC.cond rfl (fun hq3 => by cases hq3) (fun _ => ?_)
  refine GC.skip (GE.blockN (GE.thenN (GC.region ?_)))
  refine GL.mv rfl (by decide) ?_
  refine GL.val (v := (.int .i64 (((i + 1 : Nat) : Int)))) (Ex.add rfl rfl (Z := ((i + 1 : Nat) : Int)) (by rw [w64 (by omega)]; rfl)) (by decide) ?_
  refine GL.sg rfl (by decide) ?_
  refine GL.nil (GE.thenN ?_)
  exact Head.mk (i + 1) (by omega) (by omega) ((sub_cons rfl ((sub_cons rfl ((sub_cons rfl ((sub_cons rfl ((sub_nil _)))))))))) ulN
 ·replace hq2 := of_decide_eq_false hq2
  refine GC.exit (GE.thenE (GE.thenE (GE.blockE (GE.thenN (GC.seq (GC.region ?_))))))
  refine GL.sg rfl (by decide) ?_
  refine GL.nil (GE.thenN (GC.ret ?_))
  refine GC.ret1 rfl (Rv.tmp rfl) (fun wN HN => ?_)
  exact HN.ret () trivial rfl (List.nil_sublist _) rfl

theorem words_0 (ad1 ad2 : Option Addr) (c1 c2 : Nat) (w : World) :
  Calls Try.prog 64 #[(.slice ad1 0 c1), (.slice ad2 0 c2)] w (Ret w (fun _ : Unit => True) (fun _ => .bool true) (fun _ => [])) := by
 refine enter (M := None) (L := []) (n := 26) (l := [(0, (.slice ad1 0 c1)), (1, (.slice ad2 0 c2))]) Try.func64 rfl rfl (Args.cons rfl (Args.cons rfl (Args.nil _))) (Hp.start _ _) ?_
 refine GC.seq (GC.region ?_)
 refine GL.sg rfl (by decide) ?_
 refine GL.nil (GE.thenN (GC.seq (GC.seq (GC.region ?_))))
 refine GL.mv rfl (by decide) ?_
 refine GL.val (v := (.int .i64 0)) (Ex.len rfl Try.underlying41) (by decide) ?_
 refine GL.mv rfl (by decide) ?_
 refine GL.val (v := (.int .i64 0)) (Ex.len rfl Try.underlying41) (by decide) ?_
 refine GL.val (v := (.bool false)) (Ex.cast (Ex.neq rfl rfl) rfl) (by decide) ?_
 refine GL.nil (GE.thenN ?_)
 refine GC.cond rfl (fun hq1 => by cases hq1) (fun _ => ?_)
 refine GC.skip (GE.thenN (GC.seq (GC.seq (GC.region ?_))))
 refine GL.sg rfl (by decide) ?_
 refine GL.nil (GE.thenN (GC.block ?_))
 refine GC.unroll 1 ?_
 refine GE.round (GC.seq (GC.seq (GC.region ?_)))
 refine GL.mv rfl (by decide) ?_
 refine GL.mv rfl (by decide) ?_
 refine GL.val (v := (.int .i64 0)) (Ex.len rfl Try.underlying41) (by decide) ?_
 refine GL.val (v := (.bool false)) (Ex.cast (Ex.lss rfl rfl) rfl) (by decide) ?_
 refine GL.nil (GE.thenN ?_)
 refine GC.cond rfl (fun hq2 => by cases hq2) (fun _ => ?_)
 refine GC.exit (GE.thenE (GE.thenE (GE.blockE (GE.thenN (GC.seq (GC.region ?_))))))
 refine GL.sg rfl (by decide) ?_
 refine GL.nil (GE.thenN (GC.ret ?_))
 refine GC.ret1 rfl (Rv.tmp rfl) (fun wN HN => ?_)
 exact HN.ret () trivial rfl (List.nil_sublist _) rfl

theorem words (ad1 ad2 : Option Addr) (n c1 c2 : Nat) (xs : List Int) (w : World) (h1 : LsR w ad1 n xs) (h2 : LsR w ad2 n xs) (hb : n ≤ 35184372087808) : Calls Try.prog 64 #[.slice ad1 n c1, .slice ad2 n c2] w (Ret w (fun _ : Unit => True) (fun _ => .bool true) (fun _ => [])) := by
 by_cases h0 : n = 0
 ·subst h0; exact words_0 ad1 ad2 c1 c2 w
 ·obtain ⟨b1, o1, rfl, hr1⟩ := h1.2.resolve_left h0
  obtain ⟨b2, o2, rfl, hr2⟩ := h2.2.resolve_left h0
  exact words_b b1 o1 b2 o2 n c1 c2 xs w h1.1 hb hr1 hr2

theorem plane_eq (W H : Int) (ad1 ad2 : Option Addr) (n c1 c2 : Nat) (xs : List Int) (w : World) (h1 : LsR w ad1 n xs) (h2 : LsR w ad2 n xs) (hb : n ≤ 35184372087808) :
  Calls Try.prog 26 #[(.agg #[(.int .i64 W), (.int .i64 H), (.slice ad1 n c1)]), (.agg #[(.int .i64 W), (.int .i64 H), (.slice ad2 n c2)])] w (Ret w (fun _ : Unit => True) (fun _ => .bool true) (fun _ => [])) := by
 refine enter (M := None) (L := []) (n := 24) (l := [(0, (.agg #[(.int .i64 W), (.int .i64 H), (.slice ad1 n c1)])), (1, (.agg #[(.int .i64 W), (.int .i64 H), (.slice ad2 n c2)]))]) Try.func26 rfl rfl (Args.cons rfl (Args.cons rfl (Args.nil _))) (Hp.start _ _) ?_
 refine GC.seq (GC.region ?_)
 refine GL.step (Stp.box (cs := [(.int .i64 W), (.int .i64 H), (.slice ad1 n c1)]) rfl rfl (by decide)) (fun bq1 _ => ?_)
 refine GL.step (Stp.box (cs := [(.int .i64 W), (.int .i64 H), (.slice ad2 n c2)]) rfl rfl (by decide)) (fun bq2 _ => ?_)
 refine GL.sg rfl (by decide) ?_
 refine GL.nil (GE.thenN (GC.seq (GC.region ?_)))
 refine GL.val (v := (.pointer (some ⟨bq1, 0, none⟩))) (Ex.cast (Ex.fieldAddr rfl Try.underlying43 rfl T.sz3 (by decide)) rfl) (by decide) ?_
 refine GL.val (Ex.load rfl T.ag3 (i := 1) rfl rfl) (by decide) ?_
 refine GL.val (v := (.pointer (some ⟨bq2, 0, none⟩))) (Ex.cast (Ex.fieldAddr rfl Try.underlying43 rfl T.sz3 (by decide)) rfl) (by decide) ?_
 refine GL.val (Ex.load rfl T.ag3 (i := 0) rfl rfl) (by decide) ?_
 refine GL.val (v := (.bool true)) (Ex.cast (Ex.eql rfl rfl) (congrArg Value.bool (decide_eq_true (by simp)))) (by decide) ?_
 refine GL.mv rfl (by decide) ?_
 refine GL.stepG (tj := 10) rfl rfl (Ex.wp (v := (.pointer (some ⟨bq1, 1, none⟩))) (Ex.cast (Ex.fieldAddr rfl Try.underlying43 rfl T.sz3 (by decide)) rfl) (by decide)) (fun _ _ => ?_)
 refine GL.stepG (tj := 10) rfl rfl (Ex.wp (v := (.int .i64 H)) (Ex.load rfl T.ag3 (i := 1) rfl rfl) (by decide)) (fun _ _ => ?_)
 refine GL.stepG (tj := 10) rfl rfl (Ex.wp (v := (.pointer (some ⟨bq2, 1, none⟩))) (Ex.cast (Ex.fieldAddr rfl Try.underlying43 rfl T.sz3 (by decide)) rfl) (by decide)) (fun _ _ => ?_)
 refine GL.stepG (tj := 10) rfl rfl (Ex.wp (v := (.int .i64 H)) (Ex.load rfl T.ag3 (i := 0) rfl rfl) (by decide)) (fun _ _ => ?_)
 refine GL.stepG (tj := 10) rfl rfl (Ex.wp (v := (.bool true)) (Ex.cast (Ex.eql rfl rfl) (congrArg Value.bool (decide_eq_true (by simp)))) (by decide)) (fun _ _ => ?_)
 refine GL.val (v := (.bool true)) (Ex.pickT rfl rfl) (by decide) ?_
 refine GL.mv rfl (by decide) ?_
 refine GL.stepG (tj := 17) rfl rfl (Ex.wp (v := (.pointer (some ⟨bq1, 2, none⟩))) (Ex.cast (Ex.fieldAddr rfl Try.underlying43 rfl T.sz41 (by decide)) rfl) (by decide)) (fun _ _ => ?_)
 refine GL.stepG (tj := 17) rfl rfl (Ex.wp (v := (.slice ad1 n c1)) (Ex.load rfl T.ag41 (i := 1) rfl rfl) (by decide)) (fun _ _ => ?_)
 refine GL.stepG (tj := 17) rfl rfl (Ex.wp (v := (.pointer (some ⟨bq2, 2, none⟩))) (Ex.cast (Ex.fieldAddr rfl Try.underlying43 rfl T.sz41 (by decide)) rfl) (by decide)) (fun _ _ => ?_)
 refine GL.stepG (tj := 17) rfl rfl (Ex.wp (v := (.slice ad2 n c2)) (Ex.load rfl T.ag41 (i := 0) rfl rfl) (by decide)) (fun _ _ => ?_)
 refine GL.stepG (tj := 17) rfl rfl (Stp.callR (vs := [(.slice ad1 n c1), (.slice ad2 n c2)]) rfl rfl T.own64 (by decide) (fun wc hw => words ad1 ad2 n c1 c2 xs wc (h1.later hw.1) (h2.later hw.1) hb)) (fun xq3 hq4 => ?_)
 refine GL.val (v := (.bool true)) (Ex.pickT rfl rfl) (by decide) ?_
 refine GL.sg rfl (by decide) ?_
 refine GL.nil (GE.thenN (GC.ret ?_))
 refine GC.ret1 rfl (Rv.tmp rfl) (fun wN HN => ?_)
 exact HN.ret () trivial rfl (List.nil_sublist _) rfl

theorem plane_eq_p (p q : Pn) (w : World) (hd : p.d = q.d) (h1 : LsR w p.ad p.n p.xs) (h2 : LsR w q.ad q.n q.xs) (hb : p.n ≤ 35184372087808) : Calls Try.prog 26 #[(.agg #[(.int .i64 ((p).W)), (.int .i64 ((p).H)), (.slice (p).ad ((p).n) ((p).cap))]), (.agg #[(.int .i64 ((q).W)), (.int .i64 ((q).H)), (.slice (q).ad ((q).n) ((q).cap))])] w (Ret w (fun _ : Unit => True) (fun _ => .bool true) (fun _ => [])) := by
 obtain ⟨W, H, ad1, n1, c1, xs⟩ := p
 obtain ⟨W2, H2, ad2, n2, c2, ys⟩ := q
 unfold Pn.d at hd
 simp only [Prod.mk.injEq] at hd
 obtain ⟨rfl, rfl, rfl⟩ := hd
 have e : n1 = n2 := h1.1.symm.trans h2.1
 subst e
 exact plane_eq W H ad1 ad2 n1 c1 c2 xs w h1 h2 hb

theorem pic_eq_b (sp : Int) (b1 o1 b2 o2 n c1 c2 : Nat) (ps qs : List Pn) (w : World) (hn : n = ps.length) (hn2 : n = qs.length) (hnb : n ≤ 35184372087808) (hd : ps.map Pn.d = qs.map Pn.d) (hr1 : Rd w b1 o1 (pcs ps)) (hr2 : Rd w b2 o2 (pcs qs)) (h1 : ∀ p ∈ ps, LsR w p.ad p.n p.xs ∧ p.n ≤ 35184372087808) (h2 : ∀ p ∈ qs, LsR w p.ad p.n p.xs ∧ p.n ≤ 35184372087808) :
  Calls Try.prog 19 #[(.agg #[(.int .i64 sp), (.slice (some ⟨b1, o1, none⟩) n c1)]), (.agg #[(.int .i64 sp), (.slice (some ⟨b2, o2, none⟩) n c2)])] w (Ret w (fun _ : Unit => True) (fun _ => .bool true) (fun _ => [])) := by
 refine enter (M := None) (L := []) (n := 39) (l := [(0, (.agg #[(.int .i64 sp), (.slice (some ⟨b1, o1, none⟩) n c1)])), (1, (.agg #[(.int .i64 sp), (.slice (some ⟨b2, o2, none⟩) n c2)]))]) Try.func19 rfl rfl (Args.cons rfl (Args.cons rfl (Args.nil _))) (Hp.start _ _) ?_
 refine GC.seq (GC.region ?_)
 refine GL.step (Stp.box (cs := [(.int .i64 sp), (.slice (some ⟨b1, o1, none⟩) n c1)]) rfl rfl (by decide)) (fun bq1 _ => ?_)
 refine GL.step (Stp.box (cs := [(.int .i64 sp), (.slice (some ⟨b2, o2, none⟩) n c2)]) rfl rfl (by decide)) (fun bq2 _ => ?_)
 refine GL.sg rfl (by decide) ?_
 refine GL.nil (GE.thenN (GC.seq (GC.seq (GC.region ?_))))
 refine GL.val (v := (.pointer (some ⟨bq1, 0, none⟩))) (Ex.cast (Ex.fieldAddr rfl Try.underlying25 rfl T.sz3 (by decide)) rfl) (by decide) ?_
 refine GL.val (Ex.load rfl T.ag3 (i := 1) rfl rfl) (by decide) ?_
 refine GL.val (v := (.pointer (some ⟨bq2, 0, none⟩))) (Ex.cast (Ex.fieldAddr rfl Try.underlying25 rfl T.sz3 (by decide)) rfl) (by decide) ?_
 refine GL.val (Ex.load rfl T.ag3 (i := 0) rfl rfl) (by decide) ?_
 refine GL.val (v := (.bool false)) (Ex.cast (Ex.neq rfl rfl) (congrArg Value.bool (decide_eq_false (by simp)))) (by decide) ?_
 refine GL.mv rfl (by decide) ?_
 refine GL.stepG (tj := 11) rfl rfl (Ex.wp (v := (.pointer (some ⟨bq1, 1, none⟩))) (Ex.cast (Ex.fieldAddr rfl Try.underlying25 rfl T.sz23 (by decide)) rfl) (by decide)) (fun _ _ => ?_)
 refine GL.stepG (tj := 11) rfl rfl (Ex.wp (v := (.slice (some ⟨b1, o1, none⟩) n c1)) (Ex.load rfl T.ag23 (i := 1) rfl rfl) (by decide)) (fun _ _ => ?_)
 refine GL.stepG (tj := 11) rfl rfl (Ex.wp (v := (.int .i64 ((n : Int)))) (Ex.len rfl Try.underlying23) (by decide)) (fun _ _ => ?_)
 refine GL.stepG (tj := 11) rfl rfl (Ex.wp (v := (.pointer (some ⟨bq2, 1, none⟩))) (Ex.cast (Ex.fieldAddr rfl Try.underlying25 rfl T.sz23 (by decide)) rfl) (by decide)) (fun _ _ => ?_)
 refine GL.stepG (tj := 11) rfl rfl (Ex.wp (v := (.slice (some ⟨b2, o2, none⟩) n c2)) (Ex.load rfl T.ag23 (i := 0) rfl rfl) (by decide)) (fun _ _ => ?_)
 refine GL.stepG (tj := 11) rfl rfl (Ex.wp (v := (.int .i64 ((n : Int)))) (Ex.len rfl Try.underlying23) (by decide)) (fun _ _ => ?_)
 refine GL.stepG (tj := 11) rfl rfl (Ex.wp (v := (.bool false)) (Ex.cast (Ex.neq rfl rfl) (congrArg Value.bool (decide_eq_false (by simp)))) (by decide)) (fun _ _ => ?_)
 refine GL.val (v := (.bool false)) (Ex.pickF rfl rfl) (by decide) ?_
 refine GL.nil (GE.thenN ?_)
 refine GC.cond rfl (fun hq3 => by cases hq3) (fun _ => ?_)
 refine GC.skip (GE.thenN (GC.seq (GC.seq (GC.region ?_))))
 refine GL.sg rfl (by decide) ?_
 refine GL.nil (GE.thenN (GC.block ?_))
 refine GC.loop (σ := Nat) (fun i => i ≤ n) (fun i => [(2, (.pointer (some ⟨bq1, 0, none⟩))), (3, (.pointer (some ⟨bq2, 0, none⟩))), (4, (.bool false)), (5, (.int .i64 (((i : Nat) : Int))))]) (fun i => [⟨bq2, [(.int .i64 sp), (.slice (some ⟨b2, o2, none⟩) n c2)], 25, true⟩, ⟨bq1, [(.int .i64 sp), (.slice (some ⟨b1, o1, none⟩) n c1)], 25, true⟩]) (fun i => n - i) (0) (Nat.zero_le _) ((sub_cons rfl ((sub_cons rfl ((sub_cons rfl ((sub_cons rfl ((sub_nil _)))))))))) (ulC (ulC ulN)) (fun i hp => ?_)
 refine GC.seq (GC.seq (GC.region ?_))
 refine GL.mv rfl (by decide) ?_
 refine GL.val (v := (.pointer (some ⟨bq1, 1, none⟩))) (Ex.cast (Ex.fieldAddr rfl Try.underlying25 rfl T.sz23 (by decide)) rfl) (by decide) ?_
 refine GL.val (Ex.load rfl T.ag23 (i := 1) rfl rfl) (by decide) ?_
 refine GL.val (v := (.int .i64 ((n : Int)))) (Ex.len rfl Try.underlying23) (by decide) ?_
 refine GL.val (v := (.bool (decide ((((i : Nat) : Int)) < ((n : Int)))))) (Ex.lss rfl rfl) (by decide) ?_
 refine GL.nil (GE.thenN ?_)
 refine GC.cond rfl (fun hq4 => ?_) (fun hq4 => ?_)
 ·replace hq4 := of_decide_eq_true hq4
  refine GC.skip (GE.thenN (GC.seq (GC.block (GC.seq ?_))))
  refine GC.draw [⟨bq2, [(.int .i64 sp), (.slice (some ⟨b2, o2, none⟩) n c2)], 25, true⟩, ⟨bq1, [(.int .i64 sp), (.slice (some ⟨b1, o1, none⟩) n c1)], 25, true⟩] T.mixed (fuel := 12) rfl rfl ?_
  refine GH.tk 0 (v := (.pointer (some ⟨bq1, 1, none⟩))) rfl (by kernel_rfl) (fun _ _ _ h => h) (Ex.cast (Ex.fieldAddr rfl Try.underlying25 rfl T.sz23 (by decide)) rfl) (ulC (ulC ulN)) (by decide) ?_
  refine GH.tk 1 (v := (.slice (some ⟨b1, o1, none⟩) n c1)) rfl (by kernel_rfl) (fun _ _ _ h => h) (Ex.load rfl T.ag23 (i := 1) rfl rfl) (ulC (ulC ulN)) (by decide) ?_
  refine GH.tk 2 (v := (.int .i64 (((i : Nat) : Int)))) rfl (by kernel_rfl) (fun _ _ _ h => h) (Ex.move rfl) (ulC (ulC ulN)) (by decide) ?_
  refine GH.tk 3 (v := (.pointer (some ⟨b1, o1 + i * 3, none⟩))) rfl (by kernel_rfl) (fun _ _ _ h => h) (Ex.cast (Ex.indexAddr rfl rfl Try.underlying23 T.sz43 (by omega) (by omega)) (by simp)) (ulC (ulC ulN)) (by decide) ?_
  refine GH.tk 4 (v := (.agg #[(.int .i64 ((pAt ps i).W)), (.int .i64 ((pAt ps i).H)), (.slice (pAt ps i).ad ((pAt ps i).n) ((pAt ps i).cap))])) rfl (by kernel_rfl) (fun _ _ _ h => h) (Ex.loadAO rfl T.ag43 T.sz43 (Rd.pl (i := i) hr1 (by omega)) (fun x => x) rfl) (ulC (ulC ulN)) (by decide) ?_
  refine GH.tk 5 (v := (.pointer (some ⟨bq2, 1, none⟩))) rfl (by kernel_rfl) (fun _ _ _ h => h) (Ex.cast (Ex.fieldAddr rfl Try.underlying25 rfl T.sz23 (by decide)) rfl) (ulC (ulC ulN)) (by decide) ?_
  refine GH.tk 6 (v := (.slice (some ⟨b2, o2, none⟩) n c2)) rfl (by kernel_rfl) (fun _ _ _ h => h) (Ex.load rfl T.ag23 (i := 0) rfl rfl) (ulC (ulC ulN)) (by decide) ?_
  refine GH.tk 7 (v := (.int .i64 (((i : Nat) : Int)))) rfl (by kernel_rfl) (fun _ _ _ h => h) (Ex.move rfl) (ulC (ulC ulN)) (by decide) ?_
  refine GH.tk 8 (v := (.pointer (some ⟨b2, o2 + i * 3, none⟩))) rfl (by kernel_rfl) (fun _ _ _ h => h) (Ex.cast (Ex.indexAddr rfl rfl Try.underlying23 T.sz43 (by omega) (by omega)) (by simp)) (ulC (ulC ulN)) (by decide) ?_
  refine GH.tk 9 (v := (.agg #[(.int .i64 ((pAt qs i).W)), (.int .i64 ((pAt qs i).H)), (.slice (pAt qs i).ad ((pAt qs i).n) ((pAt qs i).cap))])) rfl (by kernel_rfl) (fun _ _ _ h => h) (Ex.loadAO rfl T.ag43 T.sz43 (Rd.pl (i := i) hr2 (by omega)) (fun x => x) rfl) (ulC (ulC ulN)) (by decide) ?_
  refine GH.one 10 rfl (by kernel_rfl) (Stp.callR (vs := [(.agg #[(.int .i64 ((pAt ps i).W)), (.int .i64 ((pAt ps i).H)), (.slice (pAt ps i).ad ((pAt ps i).n) ((pAt ps i).cap))]), (.agg #[(.int .i64 ((pAt qs i).W)), (.int .i64 ((pAt qs i).H)), (.slice (pAt qs i).ad ((pAt qs i).n) ((pAt qs i).cap))])]) rfl rfl T.own26 (by decide) (fun wc hw => plane_eq_p (pAt ps i) (pAt qs i) wc (pAt_d hd (by omega)) ((h1 _ (pAt_mem (by omega))).1.later hw.1) ((h2 _ (pAt_mem (by omega))).1.later hw.1) (h1 _ (pAt_mem (by omega))).2)) (fun _ => (ulC (ulC ulN))) (fun xq5 hq6 => ?_)
  refine GH.tk 11 (v := (.bool false)) rfl (by kernel_rfl) (fun _ _ _ h => h) (Ex.cast (Ex.not rfl) rfl) (ulC (ulC ulN)) (by decide) ?_
  refine GH.done (by kernel_rfl) ?_
  refine GE.thenN ?_
  refine GC.cond rfl (fun hq7 => by cases hq7) (fun _ => ?_)
  refine GC.skip (GE.blockN (GE.thenN (GC.region ?_)))
  refine GL.mv rfl (by decide) ?_
  refine GL.val (v := (.int .i64 (((i + 1 : Nat) : Int)))) (Ex.add rfl rfl (Z := ((i + 1 : Nat) : Int)) (by rw [w64 (by omega)]; rfl)) (by decide) ?_
  refine GL.sg rfl (by decide) ?_
  refine GL.nil (GE.thenN ?_)
  exact Head.mk (i + 1) (by omega) (by omega) ((sub_cons rfl ((sub_cons rfl ((sub_cons rfl ((sub_cons rfl ((sub_nil _)))))))))) (ulC (ulC ulN))
 ·replace hq4 := of_decide_eq_false hq4
  refine GC.exit (GE.thenE (GE.thenE (GE.blockE (GE.thenN (GC.seq (GC.region ?_))))))
  refine GL.sg rfl (by decide) ?_
  refine GL.nil (GE.thenN (GC.ret ?_))
  refine GC.ret1 rfl (Rv.tmp rfl) (fun wN HN => ?_)
  exact HN.ret () trivial rfl (List.nil_sublist _) rfl

theorem pic_eq_0 (sp : Int) (ad1 ad2 : Option Addr) (c1 c2 : Nat) (w : World) :
  Calls Try.prog 19 #[(.agg #[(.int .i64 sp), (.slice ad1 0 c1)]), (.agg #[(.int .i64 sp), (.slice ad2 0 c2)])] w (Ret w (fun _ : Unit => True) (fun _ => .bool true) (fun _ => [])) := by
 refine enter (M := None) (L := []) (n := 39) (l := [(0, (.agg #[(.int .i64 sp), (.slice ad1 0 c1)])), (1, (.agg #[(.int .i64 sp), (.slice ad2 0 c2)]))]) Try.func19 rfl rfl (Args.cons rfl (Args.cons rfl (Args.nil _))) (Hp.start _ _) ?_
 refine GC.seq (GC.region ?_)
 refine GL.step (Stp.box (cs := [(.int .i64 sp), (.slice ad1 0 c1)]) rfl rfl (by decide)) (fun bq1 _ => ?_)
 refine GL.step (Stp.box (cs := [(.int .i64 sp), (.slice ad2 0 c2)]) rfl rfl (by decide)) (fun bq2 _ => ?_)
 refine GL.sg rfl (by decide) ?_
 refine GL.nil (GE.thenN (GC.seq (GC.seq (GC.region ?_))))
 refine GL.val (v := (.pointer (some ⟨bq1, 0, none⟩))) (Ex.cast (Ex.fieldAddr rfl Try.underlying25 rfl T.sz3 (by decide)) rfl) (by decide) ?_
 refine GL.val (Ex.load rfl T.ag3 (i := 1) rfl rfl) (by decide) ?_
 refine GL.val (v := (.pointer (some ⟨bq2, 0, none⟩))) (Ex.cast (Ex.fieldAddr rfl Try.underlying25 rfl T.sz3 (by decide)) rfl) (by decide) ?_
 refine GL.val (Ex.load rfl T.ag3 (i := 0) rfl rfl) (by decide) ?_
 refine GL.val (v := (.bool false)) (Ex.cast (Ex.neq rfl rfl) (congrArg Value.bool (decide_eq_false (by simp)))) (by decide) ?_
 refine GL.mv rfl (by decide) ?_
 refine GL.stepG (tj := 11) rfl rfl (Ex.wp (v := (.pointer (some ⟨bq1, 1, none⟩))) (Ex.cast (Ex.fieldAddr rfl Try.underlying25 rfl T.sz23 (by decide)) rfl) (by decide)) (fun _ _ => ?_)
 refine GL.stepG (tj := 11) rfl rfl (Ex.wp (v := (.slice ad1 0 c1)) (Ex.load rfl T.ag23 (i := 1) rfl rfl) (by decide)) (fun _ _ => ?_)
 refine GL.stepG (tj := 11) rfl rfl (Ex.wp (v := (.int .i64 0)) (Ex.len rfl Try.underlying23) (by decide)) (fun _ _ => ?_)
 refine GL.stepG (tj := 11) rfl rfl (Ex.wp (v := (.pointer (some ⟨bq2, 1, none⟩))) (Ex.cast (Ex.fieldAddr rfl Try.underlying25 rfl T.sz23 (by decide)) rfl) (by decide)) (fun _ _ => ?_)
 refine GL.stepG (tj := 11) rfl rfl (Ex.wp (v := (.slice ad2 0 c2)) (Ex.load rfl T.ag23 (i := 0) rfl rfl) (by decide)) (fun _ _ => ?_)
 refine GL.stepG (tj := 11) rfl rfl (Ex.wp (v := (.int .i64 0)) (Ex.len rfl Try.underlying23) (by decide)) (fun _ _ => ?_)
 refine GL.stepG (tj := 11) rfl rfl (Ex.wp (v := (.bool false)) (Ex.cast (Ex.neq rfl rfl) rfl) (by decide)) (fun _ _ => ?_)
 refine GL.val (v := (.bool false)) (Ex.pickF rfl rfl) (by decide) ?_
 refine GL.nil (GE.thenN ?_)
 refine GC.cond rfl (fun hq3 => by cases hq3) (fun _ => ?_)
 refine GC.skip (GE.thenN (GC.seq (GC.seq (GC.region ?_))))
 refine GL.sg rfl (by decide) ?_
 refine GL.nil (GE.thenN (GC.block ?_))
 refine GC.unroll 1 ?_
 refine GE.round (GC.seq (GC.seq (GC.region ?_)))
 refine GL.mv rfl (by decide) ?_
 refine GL.val (v := (.pointer (some ⟨bq1, 1, none⟩))) (Ex.cast (Ex.fieldAddr rfl Try.underlying25 rfl T.sz23 (by decide)) rfl) (by decide) ?_
 refine GL.val (Ex.load rfl T.ag23 (i := 1) rfl rfl) (by decide) ?_
 refine GL.val (v := (.int .i64 0)) (Ex.len rfl Try.underlying23) (by decide) ?_
 refine GL.val (v := (.bool false)) (Ex.cast (Ex.lss rfl rfl) rfl) (by decide) ?_
 refine GL.nil (GE.thenN ?_)
 refine GC.cond rfl (fun hq4 => by cases hq4) (fun _ => ?_)
 refine GC.exit (GE.thenE (GE.thenE (GE.blockE (GE.thenN (GC.seq (GC.region ?_))))))
 refine GL.sg rfl (by decide) ?_
 refine GL.nil (GE.thenN (GC.ret ?_))
 refine GC.ret1 rfl (Rv.tmp rfl) (fun wN HN => ?_)
 exact HN.ret () trivial rfl (List.nil_sublist _) rfl

theorem pic_eq (sp : Int) (ad1 ad2 : Option Addr) (n c1 c2 : Nat) (ps qs : List Pn) (w : World) (hn : n = ps.length) (hnb : n ≤ 35184372087808) (hd : ps.map Pn.d = qs.map Pn.d) (h1 : PnR w ad1 ps) (h2 : PnR w ad2 qs) : Calls Try.prog 19 #[(.agg #[(.int .i64 sp), (.slice ad1 n c1)]), (.agg #[(.int .i64 sp), (.slice ad2 n c2)])] w (Ret w (fun _ : Unit => True) (fun _ => .bool true) (fun _ => [])) := by
 have hl : ps.length = qs.length := by have := congrArg List.length hd; simpa using this
 by_cases h0 : n = 0
 ·subst h0; exact pic_eq_0 sp ad1 ad2 c1 c2 w
 ·obtain ⟨b1, o1, rfl, hr1⟩ := h1.1.resolve_left (fun e => h0 (by rw [hn, e]; rfl))
  obtain ⟨b2, o2, rfl, hr2⟩ := h2.1.resolve_left (fun e => h0 (by rw [hn, hl, e]; rfl))
  exact pic_eq_b sp b1 o1 b2 o2 n c1 c2 ps qs w hn (by omega) hnb hd hr1 hr2 h1.2 h2.2

theorem bkmark (m i : Int) (w : World) :
  Calls Try.prog 69 #[(.int .i64 m), (.int .i64 i)] w (Ret w (fun _ : Unit => True) (fun _ => .int .i64 (mkI m i)) (fun _ => [])) := by
 refine enter (M := None) (L := []) (n := 13) (l := [(0, (.int .i64 m)), (1, (.int .i64 i))]) Try.func69 rfl rfl (Args.cons rfl (Args.cons rfl (Args.nil _))) (Hp.start _ _) ?_
 refine GC.seq (GC.region ?_)
 refine GL.sg rfl (by decide) ?_
 refine GL.nil (GE.thenN (GC.seq (GC.region ?_)))
 refine GL.mv rfl (by decide) ?_
 refine GL.val (v := (.int .i64 (IntKind.i64.wrap (m * 31)))) (Ex.mul rfl rfl (Z := IntKind.i64.wrap (m * 31)) rfl) (by decide) ?_
 refine GL.mv rfl (by decide) ?_
 refine GL.val (v := (.int .i64 (IntKind.i64.wrap (i * 7)))) (Ex.mul rfl rfl (Z := IntKind.i64.wrap (i * 7)) rfl) (by decide) ?_
 refine GL.val (v := (.int .i64 (IntKind.i64.wrap ((IntKind.i64.wrap (m * 31)) + (IntKind.i64.wrap (i * 7)))))) (Ex.add rfl rfl (Z := IntKind.i64.wrap ((IntKind.i64.wrap (m * 31)) + (IntKind.i64.wrap (i * 7)))) rfl) (by decide) ?_
 refine GL.val (v := (.int .i64 (IntKind.i64.wrap ((IntKind.i64.wrap ((IntKind.i64.wrap (m * 31)) + (IntKind.i64.wrap (i * 7)))) + 1)))) (Ex.add rfl rfl (Z := IntKind.i64.wrap ((IntKind.i64.wrap ((IntKind.i64.wrap (m * 31)) + (IntKind.i64.wrap (i * 7)))) + 1)) rfl) (by decide) ?_
 refine GL.val (v := (.int .i64 ((IntKind.i64.wrap ((IntKind.i64.wrap ((IntKind.i64.wrap (m * 31)) + (IntKind.i64.wrap (i * 7)))) + 1)).tmod 250))) (Ex.rem rfl rfl (Z := (IntKind.i64.wrap ((IntKind.i64.wrap ((IntKind.i64.wrap (m * 31)) + (IntKind.i64.wrap (i * 7)))) + 1)).tmod 250) (by decide) rfl) (by decide) ?_
 refine GL.val (v := (.int .i64 (IntKind.i64.wrap (((IntKind.i64.wrap ((IntKind.i64.wrap ((IntKind.i64.wrap (m * 31)) + (IntKind.i64.wrap (i * 7)))) + 1)).tmod 250) + 1)))) (Ex.add rfl rfl (Z := IntKind.i64.wrap (((IntKind.i64.wrap ((IntKind.i64.wrap ((IntKind.i64.wrap (m * 31)) + (IntKind.i64.wrap (i * 7)))) + 1)).tmod 250) + 1)) rfl) (by decide) ?_
 refine GL.sg rfl (by decide) ?_
 refine GL.nil (GE.thenN (GC.ret ?_))
 refine GC.ret1 rfl (Rv.tmp rfl) (fun wN HN => ?_)
 exact HN.ret () trivial rfl (List.nil_sublist _) rfl

theorem room_s1 (w0 : World) (R : List Blk) (rb n cap : Nat) (ad : Option Addr) (xs : List Int) (n1 b1 c1 b2 c2 : Nat) (xs1 sp1 xs2 sp2 : List Value) (w : World) (hs : Lst w0 ad n xs) (hb : n ≤ 35184372087808) (hn1 : n1 ≤ 4000000000000) (hx1 : xs1.length = n1) (hx2 : xs2.length = n1) (hc1 : (xs1 ++ sp1).length = c1 * 1) (hc2 : (xs2 ++ sp2).length = c2 * 1) (hp0 : Hp None w0 (⟨rb, [(.slice (some ⟨b1, 0, none⟩) n1 c1), (.slice (some ⟨b2, 0, none⟩) n1 c2), (.slice none 0 0), (.slice none 0 0), (.slice none 0 0), (.slice none 0 0), (.slice none 0 0), (.slice none 0 0)], 60, true⟩ :: ⟨b1, xs1 ++ sp1, 41, true⟩ :: ⟨b2, xs2 ++ sp2, 41, true⟩ :: R) w) :
  Calls Try.prog 58 #[(.pointer (some ⟨rb, 0, none⟩)), (.slice ad n cap)] w (Frm (σ := (Nat × Nat × List Value) × (Nat × Nat × List Value) × (Nat × Nat × List Value) × Nat) None w0 (fun x => (xs1 ++ [(Value.slice (some ⟨x.2.2.2, 0, none⟩) (n + 5) (n + 5))] ++ x.2.2.1.2.2 : List Value).length = x.2.2.1.2.1 * 1 ∧ (xs2 ++ [(Value.slice (some ⟨x.2.1.1, 0, none⟩) (n + 5) x.2.1.2.1)] ++ x.1.2.2 : List Value).length = x.1.2.1 * 1) (fun x => (.slice (some ⟨x.2.2.2, 0, none⟩) n (n + 5))) (fun x => (⟨x.1.1, xs2 ++ [(Value.slice (some ⟨x.2.1.1, 0, none⟩) (n + 5) x.2.1.2.1)] ++ x.1.2.2, 41, true⟩ :: ⟨x.2.1.1, (roomL xs).map u32 ++ x.2.1.2.2, 28, true⟩ :: ⟨x.2.2.1.1, xs1 ++ [(Value.slice (some ⟨x.2.2.2, 0, none⟩) (n + 5) (n + 5))] ++ x.2.2.1.2.2, 41, true⟩ :: ⟨x.2.2.2, (roomL xs).map u32, 28, true⟩ :: ⟨rb, [(.slice (some ⟨x.2.2.1.1, 0, none⟩) (n1 + 1) x.2.2.1.2.1), (.slice (some ⟨x.1.1, 0, none⟩) (n1 + 1) x.1.2.1), (.slice none 0 0), (.slice none 0 0), (.slice none 0 0), (.slice none 0 0), (.slice none 0 0), (.slice none 0 0)], 60, true⟩ :: R))) := by
 have hsl := hs.1
 refine enterF (w0 := w0) (M := None) (L := (⟨rb, [(.slice (some ⟨b1, 0, none⟩) n1 c1), (.slice (some ⟨b2, 0, none⟩) n1 c2), nilS, nilS, nilS, nilS, nilS, nilS], 60, true⟩ :: ⟨b1, xs1 ++ sp1, 41, true⟩ :: ⟨b2, xs2 ++ sp2, 41, true⟩ :: R)) (n := 53) (l := [(0, (.pointer (some ⟨rb, 0, none⟩))), (1, (.slice ad n cap))]) Try.func58 rfl rfl (Args.cons rfl (Args.cons rfl (Args.nil _))) hp0 ?_
 refine GC.seq (GC.region ?_)
 refine GL.sg rfl (by decide) ?_
 refine GL.nil (GE.thenN (GC.seq (GC.region ?_)))
 refine GL.mv rfl (by decide) ?_
 refine GL.val (v := (.int .i64 ((n : Int)))) (Ex.len rfl Try.underlying41) (by decide) ?_
 refine GL.val (v := (.int .i64 (((n + 5 : Nat) : Int)))) (Ex.add rfl rfl (Z := ((n + 5 : Nat) : Int)) (by rw [w64 (by omega)]; rfl)) (by decide) ?_
 refine GL.step (Stp.makeSlice (a1 := n + 5) (c := n + 5) rfl rfl Try.underlying41 T.zr28 T.sz28 T.by28 rfl (Nat.le_refl _) (by omega) (by omega) (by decide)) (fun bq1 _ => ?_)
 rw [madeCells_one]
 refine GL.sg rfl (by decide) ?_
 refine GL.nil (GE.thenN (GC.seq (GC.region ?_)))
 refine GL.mv rfl (by decide) ?_
 refine GL.mv rfl (by decide) ?_
 refine GL.step (Stp.copyO (i := 0) (vs := xs.map u32) (L1 := (⟨bq1, roomC xs 0, 28, true⟩ :: ⟨rb, [(.slice (some ⟨b1, 0, none⟩) n1 c1), (.slice (some ⟨b2, 0, none⟩) n1 c2), nilS, nilS, nilS, nilS, nilS, nilS], 60, true⟩ :: ⟨b1, xs1 ++ sp1, 41, true⟩ :: ⟨b2, xs2 ++ sp2, 41, true⟩ :: R)) rfl rfl Try.underlying41 T.sz28 rfl (hs.2.2.2.imp id (fun ⟨b', o', e, hr⟩ => ⟨b', o', e, fun wz hz => hz.rd hr (fun x => x)⟩)) (by simpa using hs.1) (by omega) (by simp) (u32_one xs) (by rw [roomC_zero xs hs.1]; rfl) (by decide)) (fun _ _ => ?_)
 refine GL.nil (GE.thenN (GC.seq (GC.seq (GC.region ?_))))
 refine GL.mv rfl (by decide) ?_
 refine GL.val (v := (.int .i64 ((n : Int)))) (Ex.len rfl Try.underlying41) (by decide) ?_
 refine GL.sg rfl (by decide) ?_
 refine GL.nil (GE.thenN (GC.block ?_))
 refine GC.loop (σ := Nat) (fun k => k ≤ 5) (fun k => [(0, (.pointer (some ⟨rb, 0, none⟩))), (1, (.slice ad n cap)), (5, (.slice (some ⟨bq1, 0, none⟩) (n + 5) (n + 5))), (6, (.int .i64 (((n + k : Nat) : Int))))]) (fun k => (⟨bq1, roomC xs k, 28, true⟩ :: ⟨rb, [(.slice (some ⟨b1, 0, none⟩) n1 c1), (.slice (some ⟨b2, 0, none⟩) n1 c2), nilS, nilS, nilS, nilS, nilS, nilS], 60, true⟩ :: ⟨b1, xs1 ++ sp1, 41, true⟩ :: ⟨b2, xs2 ++ sp2, 41, true⟩ :: R)) (fun k => 5 - k) (0) (by decide) ((sub_cons rfl ((sub_cons rfl ((sub_cons rfl ((sub_cons rfl ((sub_nil _)))))))))) (ulC (ulC (ulC (ulC ulR)))) (fun k hp => ?_)
 refine GC.seq (GC.seq (GC.region ?_))
 refine GL.mv rfl (by decide) ?_
 refine GL.mv rfl (by decide) ?_
 refine GL.val (v := (.int .i64 (((n + 5) : Int)))) (Ex.len rfl Try.underlying41) (by decide) ?_
 refine GL.val (v := (.bool (decide ((((n + k : Nat) : Int)) < (((n + 5) : Int)))))) (Ex.lss rfl rfl) (by decide) ?_
 refine GL.nil (GE.thenN ?_)
 refine GC.cond rfl (fun hq2 => ?_) (fun hq2 => ?_)
 ·replace hq2 := of_decide_eq_true hq2
  refine GC.skip (GE.thenN (GC.seq (GC.block (GC.region ?_))))
  refine GL.mv rfl (by decide) ?_
  refine GL.mv rfl (by decide) ?_
  refine GL.mv rfl (by decide) ?_
  refine GL.val (v := (.int .i64 (2141192202 + (((n + k : Nat) : Int))))) (Ex.add rfl rfl (Z := 2141192202 + (((n + k : Nat) : Int))) (w64 (by omega))) (by decide) ?_
  refine GL.val (v := (.int .u32 (fil (n + k)))) (Ex.conv rfl Try.underlying3 Try.underlying28 (Z := fil (n + k)) (by rw [wu32]; rfl)) (by decide) ?_
  refine GL.val (v := (.pointer (some ⟨bq1, n + k, none⟩))) (Ex.cast (Ex.indexAddr rfl rfl Try.underlying41 T.sz28 (by omega) (by omega)) (by simp)) (by decide) ?_
  refine GL.step (Stp.storeL (i := 0) (cs := roomC xs k) (vs := [.int .u32 (fil (n + k))]) (o := n + k) (L1 := (⟨bq1, roomC xs (k + 1), 28, true⟩ :: ⟨rb, [(.slice (some ⟨b1, 0, none⟩) n1 c1), (.slice (some ⟨b2, 0, none⟩) n1 c2), nilS, nilS, nilS, nilS, nilS, nilS], 60, true⟩ :: ⟨b1, xs1 ++ sp1, 41, true⟩ :: ⟨b2, xs2 ++ sp2, 41, true⟩ :: R)) rfl rfl rfl T.sz28 rfl (Nat.ble_eq_true_of_le (by rw [roomC_len (by omega)]; simp; omega)) rfl (by rw [roomC_store hs.1 (by omega)]; rfl)) (fun _ _ => ?_)
  refine GL.nil (GE.blockN (GE.thenN (GC.region ?_)))
  refine GL.mv rfl (by decide) ?_
  refine GL.val (v := (.int .i64 (((n + (k + 1) : Nat) : Int)))) (Ex.add rfl rfl (Z := ((n + (k + 1) : Nat) : Int)) (by rw [w64 (by omega)]; simp only [Int.natCast_add]; omega)) (by decide) ?_
  refine GL.sg rfl (by decide) ?_
  refine GL.nil (GE.thenN ?_)
  exact Head.mk (k + 1) (by omega) (by omega) ((sub_cons rfl ((sub_cons rfl ((sub_cons rfl ((sub_cons rfl ((sub_nil _)))))))))) (ulC (ulC (ulC (ulC ulR))))
 ·replace hq2 := of_decide_eq_false hq2
  refine GC.exit (GE.thenE (GE.thenE (GE.blockE (GE.thenN (GC.seq ?_)))))
  obtain rfl : k = 5 := by omega
  rw [roomC_full]
  refine GC.region ?_
  refine GL.mv rfl (by decide) ?_
  refine GL.mv rfl (by decide) ?_
  refine GL.val (v := (.pointer (some ⟨rb, 0, none⟩))) (Ex.nilCheck rfl) (by decide) ?_
  refine GL.val (v := (.pointer (some ⟨rb, 0, none⟩))) (Ex.cast (Ex.fieldAddr rfl Try.underlying60 rfl T.sz50 (by decide)) rfl) (by decide) ?_
  refine GL.val (Ex.load rfl T.ag50 (i := 1) rfl rfl) (by decide) ?_
  refine GL.mv rfl (by decide) ?_
  refine GL.step (Stp.buildSlice (cs := [(.slice (some ⟨bq1, 0, none⟩) (n + 5) (n + 5))]) (vs := [(0, (.slice (some ⟨bq1, 0, none⟩) (n + 5) (n + 5)))]) Try.underlying50 T.zr41 T.sz41 rfl (by decide) (by decide) (by first | rfl | kernel_rfl) (by decide)) (fun bq3 _ => ?_)
  refine GL.step (Stp.appendOwn (i := 3) (xs := xs1) (sp := sp1) (vs := [(.slice (some ⟨bq1, 0, none⟩) (n + 5) (n + 5))]) (L1 := (⟨bq3, [(.slice (some ⟨bq1, 0, none⟩) (n + 5) (n + 5))], 41, true⟩ :: ⟨bq1, (roomL xs).map u32, 28, true⟩ :: ⟨rb, [(.slice (some ⟨b1, 0, none⟩) n1 c1), (.slice (some ⟨b2, 0, none⟩) n1 c2), nilS, nilS, nilS, nilS, nilS, nilS], 60, true⟩ :: ⟨b2, xs2 ++ sp2, 41, true⟩ :: R)) rfl rfl Try.underlying50 T.sz41 T.zr41 rfl T.by41 rfl (by omega) hc1 (fun wz hz => hz.rdOf (i := 0) rfl 0) rfl rfl (by omega) (by omega) rfl (by decide)) (fun xq4 hq5 => ?_)
  refine GL.val (v := (.pointer (some ⟨rb, 0, none⟩))) (Ex.nilCheck rfl) (by decide) ?_
  refine GL.val (v := (.pointer (some ⟨rb, 0, none⟩))) (Ex.cast (Ex.fieldAddr rfl Try.underlying60 rfl T.sz50 (by decide)) rfl) (by decide) ?_
  refine GL.step (Stp.st3 (cs' := [(.slice (some ⟨xq4.1, 0, none⟩) (n1 + 1) xq4.2.1), (.slice (some ⟨b2, 0, none⟩) n1 c2), nilS, nilS, nilS, nilS, nilS, nilS]) rfl rfl rfl T.sz50 rfl rfl rfl) (fun _ _ => ?_)
  refine GL.nil (GE.thenN (GC.seq ?_))
  refine GC.draw (⟨xq4.1, xs1 ++ [(.slice (some ⟨bq1, 0, none⟩) (n + 5) (n + 5))] ++ xq4.2.2, 41, true⟩ :: ⟨bq3, [(.slice (some ⟨bq1, 0, none⟩) (n + 5) (n + 5))], 41, true⟩ :: ⟨bq1, (roomL xs).map u32, 28, true⟩ :: R) T.mixed (fuel := 12) rfl rfl ?_
  refine GH.tk 0 (v := (.pointer (some ⟨rb, 0, none⟩))) rfl (by kernel_rfl) (fun _ _ _ h => h) (Ex.move rfl) (ulC (ulC (ulC (ulS (ulS ulR))))) (by decide) ?_
  refine GH.tk 1 (v := (.pointer (some ⟨rb, 0, none⟩))) rfl (by kernel_rfl) (fun _ _ _ h => h) (Ex.move rfl) (ulC (ulC (ulC (ulS (ulS ulR))))) (by decide) ?_
  refine GH.tk 5 (v := (.slice (some ⟨bq1, 0, none⟩) (n + 5) (n + 5))) rfl (by kernel_rfl) (fun _ _ _ h => h) (Ex.move rfl) (ulC (ulC (ulC (ulS (ulS ulR))))) (by decide) ?_
  refine GH.many (rs := [2, 6]) (by kernel_rfl) (by simp) ?_
  refine GHs.cons rfl (Ex.wp (v := (.pointer (some ⟨rb, 0, none⟩))) (Ex.nilCheck rfl) (by decide)) (fun _ => (ulC (ulC (ulC (ulS (ulS ulR)))))) (fun _ _ => ?_) ?_
  ·refine GH.tk 3 (v := (.pointer (some ⟨rb, 1, none⟩))) rfl (by kernel_rfl) (fun _ _ _ h => h) (Ex.cast (Ex.fieldAddr rfl Try.underlying60 rfl T.sz50 (by decide)) rfl) (ulC (ulC (ulC (ulS (ulS ulR))))) (by decide) ?_
   refine GH.many (rs := [4, 6]) (by kernel_rfl) (by simp) ?_
   refine GHs.cons rfl (Ex.wp (v := (.slice (some ⟨b2, 0, none⟩) n1 c2)) (Ex.load rfl T.ag50 (i := 3) rfl rfl) (by decide)) (fun _ => (ulC (ulC (ulC (ulS (ulS ulR)))))) (fun _ _ => ?_) ?_
   ·refine GH.one 6 rfl (by kernel_rfl) (Stp.appendNil (vs := (roomL xs).map u32) rfl rfl Try.underlying41 T.sz28 T.zr28 rfl T.by28 (fun wz hz => hz.rdOf (i := 2) rfl 0) (by simp [roomL_len, hs.1]) (by omega) (by omega) (by omega) (by decide)) (fun _ => (ulS (ulC (ulC (ulC (ulS (ulS ulR))))))) (fun xq6 hq7 => ?_)
    refine GH.one 7 rfl (by kernel_rfl) (Stp.buildSlice (cs := [(.slice (some ⟨xq6.1, 0, none⟩) (n + 5) xq6.2.1)]) (vs := [(0, (.slice (some ⟨xq6.1, 0, none⟩) (n + 5) xq6.2.1))]) Try.underlying50 T.zr41 T.sz41 rfl (by decide) (by decide) (by first | rfl | kernel_rfl) (by decide)) (fun _ => (ulS (ulS (ulC (ulC (ulC (ulS (ulS ulR)))))))) (fun bq8 _ => ?_)
    refine GH.one 8 rfl (by kernel_rfl) (Stp.appendOwn (i := 6) (xs := xs2) (sp := sp2) (vs := [(.slice (some ⟨xq6.1, 0, none⟩) (n + 5) xq6.2.1)]) (L1 := (⟨bq8, [(.slice (some ⟨xq6.1, 0, none⟩) (n + 5) xq6.2.1)], 41, true⟩ :: ⟨xq6.1, (roomL xs).map u32 ++ xq6.2.2, 28, true⟩ :: ⟨xq4.1, xs1 ++ [(.slice (some ⟨bq1, 0, none⟩) (n + 5) (n + 5))] ++ xq4.2.2, 41, true⟩ :: ⟨bq3, [(.slice (some ⟨bq1, 0, none⟩) (n + 5) (n + 5))], 41, true⟩ :: ⟨bq1, (roomL xs).map u32, 28, true⟩ :: ⟨rb, [(.slice (some ⟨xq4.1, 0, none⟩) (n1 + 1) xq4.2.1), (.slice (some ⟨b2, 0, none⟩) n1 c2), nilS, nilS, nilS, nilS, nilS, nilS], 60, true⟩ :: R)) rfl rfl Try.underlying50 T.sz41 T.zr41 rfl T.by41 rfl (by omega) hc2 (fun wz hz => hz.rdOf (i := 0) rfl 0) rfl rfl (by omega) (by omega) rfl (by decide)) (fun _ => (ulS (ulS (ulS (ulC (ulC (ulC (ulS ulR)))))))) (fun xq9 hq10 => ?_)
    refine GH.one 9 rfl (by kernel_rfl) (Ex.wp (v := (.pointer (some ⟨rb, 0, none⟩))) (Ex.nilCheck rfl) (by decide)) (fun _ => (ulS (ulS (ulS (ulC (ulC (ulC (ulS ulR)))))))) (fun _ _ => ?_)
    refine GH.tk 10 (v := (.pointer (some ⟨rb, 1, none⟩))) rfl (by kernel_rfl) (fun _ _ _ h => h) (Ex.cast (Ex.fieldAddr rfl Try.underlying60 rfl T.sz50 (by decide)) rfl) (ulS (ulS (ulS (ulC (ulC (ulC (ulS ulR))))))) (by decide) ?_
    refine GH.one 11 rfl (by kernel_rfl) (Stp.st6 (cs' := [(.slice (some ⟨xq4.1, 0, none⟩) (n1 + 1) xq4.2.1), (.slice (some ⟨xq9.1, 0, none⟩) (n1 + 1) xq9.2.1), nilS, nilS, nilS, nilS, nilS, nilS]) rfl rfl rfl T.sz50 rfl rfl rfl) (fun _ => (ulS (ulS (ulS (ulC (ulC (ulC (ulS ulR)))))))) (fun _ _ => ?_)
    refine GH.done (by kernel_rfl) ?_
    refine GE.thenN (GC.seq (GC.region ?_))
    refine GL.mv rfl (by decide) ?_
    refine GL.mv rfl (by decide) ?_
    refine GL.val (v := (.int .i64 ((n : Int)))) (Ex.len rfl Try.underlying41) (by decide) ?_
    refine GL.val (v := (.slice (some ⟨bq1, 0, none⟩) n (n + 5))) (Ex.sliceH (m := n) rfl rfl Try.underlying41 T.sz28 rfl (by omega)) (by decide) ?_
    refine GL.sg rfl (by decide) ?_
    refine GL.nil (GE.thenN (GC.ret ?_))
    refine GC.ret1 rfl (Rv.tmp rfl) (fun wN HN => ?_)
    exact HN.frm (xq9, xq6, xq4, bq1) ⟨hq5.1, hq10.1⟩ (by rfl) (ulC (ulS (ulC (ulC (ulS (ulC (ulC ulR)))))))
   refine GHs.cons rfl (Stp.appendNil (vs := (roomL xs).map u32) rfl rfl Try.underlying41 T.sz28 T.zr28 rfl T.by28 (fun wz hz => hz.rdOf (i := 2) rfl 0) (by simp [roomL_len, hs.1]) (by omega) (by omega) (by omega) (by decide)) (fun _ => (ulS (ulC (ulC (ulC (ulS (ulS ulR))))))) (fun xq11 hq12 => ?_) ?_
   ·refine GH.many (rs := [4, 7]) (by kernel_rfl) (by simp) ?_
    refine GHs.cons rfl (Ex.wp (v := (.slice (some ⟨b2, 0, none⟩) n1 c2)) (Ex.load rfl T.ag50 (i := 4) rfl rfl) (by decide)) (fun _ => (ulS (ulC (ulC (ulC (ulS (ulS ulR))))))) (fun _ _ => ?_) ?_
    ·refine GH.one 7 rfl (by kernel_rfl) (Stp.buildSlice (cs := [(.slice (some ⟨xq11.1, 0, none⟩) (n + 5) xq11.2.1)]) (vs := [(0, (.slice (some ⟨xq11.1, 0, none⟩) (n + 5) xq11.2.1))]) Try.underlying50 T.zr41 T.sz41 rfl (by decide) (by decide) (by first | rfl | kernel_rfl) (by decide)) (fun _ => (ulS (ulS (ulC (ulC (ulC (ulS (ulS ulR)))))))) (fun bq13 _ => ?_)
     refine GH.one 8 rfl (by kernel_rfl) (Stp.appendOwn (i := 6) (xs := xs2) (sp := sp2) (vs := [(.slice (some ⟨xq11.1, 0, none⟩) (n + 5) xq11.2.1)]) (L1 := (⟨bq13, [(.slice (some ⟨xq11.1, 0, none⟩) (n + 5) xq11.2.1)], 41, true⟩ :: ⟨xq11.1, (roomL xs).map u32 ++ xq11.2.2, 28, true⟩ :: ⟨xq4.1, xs1 ++ [(.slice (some ⟨bq1, 0, none⟩) (n + 5) (n + 5))] ++ xq4.2.2, 41, true⟩ :: ⟨bq3, [(.slice (some ⟨bq1, 0, none⟩) (n + 5) (n + 5))], 41, true⟩ :: ⟨bq1, (roomL xs).map u32, 28, true⟩ :: ⟨rb, [(.slice (some ⟨xq4.1, 0, none⟩) (n1 + 1) xq4.2.1), (.slice (some ⟨b2, 0, none⟩) n1 c2), nilS, nilS, nilS, nilS, nilS, nilS], 60, true⟩ :: R)) rfl rfl Try.underlying50 T.sz41 T.zr41 rfl T.by41 rfl (by omega) hc2 (fun wz hz => hz.rdOf (i := 0) rfl 0) rfl rfl (by omega) (by omega) rfl (by decide)) (fun _ => (ulS (ulS (ulS (ulC (ulC (ulC (ulS ulR)))))))) (fun xq14 hq15 => ?_)
     refine GH.one 9 rfl (by kernel_rfl) (Ex.wp (v := (.pointer (some ⟨rb, 0, none⟩))) (Ex.nilCheck rfl) (by decide)) (fun _ => (ulS (ulS (ulS (ulC (ulC (ulC (ulS ulR)))))))) (fun _ _ => ?_)
     refine GH.tk 10 (v := (.pointer (some ⟨rb, 1, none⟩))) rfl (by kernel_rfl) (fun _ _ _ h => h) (Ex.cast (Ex.fieldAddr rfl Try.underlying60 rfl T.sz50 (by decide)) rfl) (ulS (ulS (ulS (ulC (ulC (ulC (ulS ulR))))))) (by decide) ?_
     refine GH.one 11 rfl (by kernel_rfl) (Stp.st6 (cs' := [(.slice (some ⟨xq4.1, 0, none⟩) (n1 + 1) xq4.2.1), (.slice (some ⟨xq14.1, 0, none⟩) (n1 + 1) xq14.2.1), nilS, nilS, nilS, nilS, nilS, nilS]) rfl rfl rfl T.sz50 rfl rfl rfl) (fun _ => (ulS (ulS (ulS (ulC (ulC (ulC (ulS ulR)))))))) (fun _ _ => ?_)
     refine GH.done (by kernel_rfl) ?_
     refine GE.thenN (GC.seq (GC.region ?_))
     refine GL.mv rfl (by decide) ?_
     refine GL.mv rfl (by decide) ?_
     refine GL.val (v := (.int .i64 ((n : Int)))) (Ex.len rfl Try.underlying41) (by decide) ?_
     refine GL.val (v := (.slice (some ⟨bq1, 0, none⟩) n (n + 5))) (Ex.sliceH (m := n) rfl rfl Try.underlying41 T.sz28 rfl (by omega)) (by decide) ?_
     refine GL.sg rfl (by decide) ?_
     refine GL.nil (GE.thenN (GC.ret ?_))
     refine GC.ret1 rfl (Rv.tmp rfl) (fun wN HN => ?_)
     exact HN.frm (xq14, xq11, xq4, bq1) ⟨hq5.1, hq15.1⟩ (by rfl) (ulC (ulS (ulC (ulC (ulS (ulC (ulC ulR)))))))
    refine GHs.cons rfl (Stp.buildSlice (cs := [(.slice (some ⟨xq11.1, 0, none⟩) (n + 5) xq11.2.1)]) (vs := [(0, (.slice (some ⟨xq11.1, 0, none⟩) (n + 5) xq11.2.1))]) Try.underlying50 T.zr41 T.sz41 rfl (by decide) (by decide) (by first | rfl | kernel_rfl) (by decide)) (fun _ => (ulS (ulS (ulC (ulC (ulC (ulS (ulS ulR)))))))) (fun bq16 _ => ?_) ?_
    ·refine GH.one 4 rfl (by kernel_rfl) (Ex.wp (v := (.slice (some ⟨b2, 0, none⟩) n1 c2)) (Ex.load rfl T.ag50 (i := 5) rfl rfl) (by decide)) (fun _ => (ulS (ulS (ulC (ulC (ulC (ulS (ulS ulR)))))))) (fun _ _ => ?_)
     refine GH.one 8 rfl (by kernel_rfl) (Stp.appendOwn (i := 6) (xs := xs2) (sp := sp2) (vs := [(.slice (some ⟨xq11.1, 0, none⟩) (n + 5) xq11.2.1)]) (L1 := (⟨bq16, [(.slice (some ⟨xq11.1, 0, none⟩) (n + 5) xq11.2.1)], 41, true⟩ :: ⟨xq11.1, (roomL xs).map u32 ++ xq11.2.2, 28, true⟩ :: ⟨xq4.1, xs1 ++ [(.slice (some ⟨bq1, 0, none⟩) (n + 5) (n + 5))] ++ xq4.2.2, 41, true⟩ :: ⟨bq3, [(.slice (some ⟨bq1, 0, none⟩) (n + 5) (n + 5))], 41, true⟩ :: ⟨bq1, (roomL xs).map u32, 28, true⟩ :: ⟨rb, [(.slice (some ⟨xq4.1, 0, none⟩) (n1 + 1) xq4.2.1), (.slice (some ⟨b2, 0, none⟩) n1 c2), nilS, nilS, nilS, nilS, nilS, nilS], 60, true⟩ :: R)) rfl rfl Try.underlying50 T.sz41 T.zr41 rfl T.by41 rfl (by omega) hc2 (fun wz hz => hz.rdOf (i := 0) rfl 0) rfl rfl (by omega) (by omega) rfl (by decide)) (fun _ => (ulS (ulS (ulS (ulC (ulC (ulC (ulS ulR)))))))) (fun xq17 hq18 => ?_)
     refine GH.one 9 rfl (by kernel_rfl) (Ex.wp (v := (.pointer (some ⟨rb, 0, none⟩))) (Ex.nilCheck rfl) (by decide)) (fun _ => (ulS (ulS (ulS (ulC (ulC (ulC (ulS ulR)))))))) (fun _ _ => ?_)
     refine GH.tk 10 (v := (.pointer (some ⟨rb, 1, none⟩))) rfl (by kernel_rfl) (fun _ _ _ h => h) (Ex.cast (Ex.fieldAddr rfl Try.underlying60 rfl T.sz50 (by decide)) rfl) (ulS (ulS (ulS (ulC (ulC (ulC (ulS ulR))))))) (by decide) ?_
     refine GH.one 11 rfl (by kernel_rfl) (Stp.st6 (cs' := [(.slice (some ⟨xq4.1, 0, none⟩) (n1 + 1) xq4.2.1), (.slice (some ⟨xq17.1, 0, none⟩) (n1 + 1) xq17.2.1), nilS, nilS, nilS, nilS, nilS, nilS]) rfl rfl rfl T.sz50 rfl rfl rfl) (fun _ => (ulS (ulS (ulS (ulC (ulC (ulC (ulS ulR)))))))) (fun _ _ => ?_)
     refine GH.done (by kernel_rfl) ?_
     refine GE.thenN (GC.seq (GC.region ?_))
     refine GL.mv rfl (by decide) ?_
     refine GL.mv rfl (by decide) ?_
     refine GL.val (v := (.int .i64 ((n : Int)))) (Ex.len rfl Try.underlying41) (by decide) ?_
     refine GL.val (v := (.slice (some ⟨bq1, 0, none⟩) n (n + 5))) (Ex.sliceH (m := n) rfl rfl Try.underlying41 T.sz28 rfl (by omega)) (by decide) ?_
     refine GL.sg rfl (by decide) ?_
     refine GL.nil (GE.thenN (GC.ret ?_))
     refine GC.ret1 rfl (Rv.tmp rfl) (fun wN HN => ?_)
     exact HN.frm (xq17, xq11, xq4, bq1) ⟨hq5.1, hq18.1⟩ (by rfl) (ulC (ulS (ulC (ulC (ulS (ulC (ulC ulR)))))))
    exact GHs.nil
   exact GHs.nil
  refine GHs.cons rfl (Stp.appendNil (vs := (roomL xs).map u32) rfl rfl Try.underlying41 T.sz28 T.zr28 rfl T.by28 (fun wz hz => hz.rdOf (i := 2) rfl 0) (by simp [roomL_len, hs.1]) (by omega) (by omega) (by omega) (by decide)) (fun _ => (ulS (ulC (ulC (ulC (ulS (ulS ulR))))))) (fun xq19 hq20 => ?_) ?_
  ·refine GH.many (rs := [2, 7]) (by kernel_rfl) (by simp) ?_
   refine GHs.cons rfl (Ex.wp (v := (.pointer (some ⟨rb, 0, none⟩))) (Ex.nilCheck rfl) (by decide)) (fun _ => (ulS (ulC (ulC (ulC (ulS (ulS ulR))))))) (fun _ _ => ?_) ?_
   ·refine GH.tk 3 (v := (.pointer (some ⟨rb, 1, none⟩))) rfl (by kernel_rfl) (fun _ _ _ h => h) (Ex.cast (Ex.fieldAddr rfl Try.underlying60 rfl T.sz50 (by decide)) rfl) (ulS (ulC (ulC (ulC (ulS (ulS ulR)))))) (by decide) ?_
    refine GH.many (rs := [4, 7]) (by kernel_rfl) (by simp) ?_
    refine GHs.cons rfl (Ex.wp (v := (.slice (some ⟨b2, 0, none⟩) n1 c2)) (Ex.load rfl T.ag50 (i := 4) rfl rfl) (by decide)) (fun _ => (ulS (ulC (ulC (ulC (ulS (ulS ulR))))))) (fun _ _ => ?_) ?_
    ·refine GH.one 7 rfl (by kernel_rfl) (Stp.buildSlice (cs := [(.slice (some ⟨xq19.1, 0, none⟩) (n + 5) xq19.2.1)]) (vs := [(0, (.slice (some ⟨xq19.1, 0, none⟩) (n + 5) xq19.2.1))]) Try.underlying50 T.zr41 T.sz41 rfl (by decide) (by decide) (by first | rfl | kernel_rfl) (by decide)) (fun _ => (ulS (ulS (ulC (ulC (ulC (ulS (ulS ulR)))))))) (fun bq21 _ => ?_)
     refine GH.one 8 rfl (by kernel_rfl) (Stp.appendOwn (i := 6) (xs := xs2) (sp := sp2) (vs := [(.slice (some ⟨xq19.1, 0, none⟩) (n + 5) xq19.2.1)]) (L1 := (⟨bq21, [(.slice (some ⟨xq19.1, 0, none⟩) (n + 5) xq19.2.1)], 41, true⟩ :: ⟨xq19.1, (roomL xs).map u32 ++ xq19.2.2, 28, true⟩ :: ⟨xq4.1, xs1 ++ [(.slice (some ⟨bq1, 0, none⟩) (n + 5) (n + 5))] ++ xq4.2.2, 41, true⟩ :: ⟨bq3, [(.slice (some ⟨bq1, 0, none⟩) (n + 5) (n + 5))], 41, true⟩ :: ⟨bq1, (roomL xs).map u32, 28, true⟩ :: ⟨rb, [(.slice (some ⟨xq4.1, 0, none⟩) (n1 + 1) xq4.2.1), (.slice (some ⟨b2, 0, none⟩) n1 c2), nilS, nilS, nilS, nilS, nilS, nilS], 60, true⟩ :: R)) rfl rfl Try.underlying50 T.sz41 T.zr41 rfl T.by41 rfl (by omega) hc2 (fun wz hz => hz.rdOf (i := 0) rfl 0) rfl rfl (by omega) (by omega) rfl (by decide)) (fun _ => (ulS (ulS (ulS (ulC (ulC (ulC (ulS ulR)))))))) (fun xq22 hq23 => ?_)
     refine GH.one 9 rfl (by kernel_rfl) (Ex.wp (v := (.pointer (some ⟨rb, 0, none⟩))) (Ex.nilCheck rfl) (by decide)) (fun _ => (ulS (ulS (ulS (ulC (ulC (ulC (ulS ulR)))))))) (fun _ _ => ?_)
     refine GH.tk 10 (v := (.pointer (some ⟨rb, 1, none⟩))) rfl (by kernel_rfl) (fun _ _ _ h => h) (Ex.cast (Ex.fieldAddr rfl Try.underlying60 rfl T.sz50 (by decide)) rfl) (ulS (ulS (ulS (ulC (ulC (ulC (ulS ulR))))))) (by decide) ?_
     refine GH.one 11 rfl (by kernel_rfl) (Stp.st6 (cs' := [(.slice (some ⟨xq4.1, 0, none⟩) (n1 + 1) xq4.2.1), (.slice (some ⟨xq22.1, 0, none⟩) (n1 + 1) xq22.2.1), nilS, nilS, nilS, nilS, nilS, nilS]) rfl rfl rfl T.sz50 rfl rfl rfl) (fun _ => (ulS (ulS (ulS (ulC (ulC (ulC (ulS ulR)))))))) (fun _ _ => ?_)
     refine GH.done (by kernel_rfl) ?_
     refine GE.thenN (GC.seq (GC.region ?_))
     refine GL.mv rfl (by decide) ?_
     refine GL.mv rfl (by decide) ?_
     refine GL.val (v := (.int .i64 ((n : Int)))) (Ex.len rfl Try.underlying41) (by decide) ?_
     refine GL.val (v := (.slice (some ⟨bq1, 0, none⟩) n (n + 5))) (Ex.sliceH (m := n) rfl rfl Try.underlying41 T.sz28 rfl (by omega)) (by decide) ?_
     refine GL.sg rfl (by decide) ?_
     refine GL.nil (GE.thenN (GC.ret ?_))
     refine GC.ret1 rfl (Rv.tmp rfl) (fun wN HN => ?_)
     exact HN.frm (xq22, xq19, xq4, bq1) ⟨hq5.1, hq23.1⟩ (by rfl) (ulC (ulS (ulC (ulC (ulS (ulC (ulC ulR)))))))
    refine GHs.cons rfl (Stp.buildSlice (cs := [(.slice (some ⟨xq19.1, 0, none⟩) (n + 5) xq19.2.1)]) (vs := [(0, (.slice (some ⟨xq19.1, 0, none⟩) (n + 5) xq19.2.1))]) Try.underlying50 T.zr41 T.sz41 rfl (by decide) (by decide) (by first | rfl | kernel_rfl) (by decide)) (fun _ => (ulS (ulS (ulC (ulC (ulC (ulS (ulS ulR)))))))) (fun bq24 _ => ?_) ?_
    ·refine GH.one 4 rfl (by kernel_rfl) (Ex.wp (v := (.slice (some ⟨b2, 0, none⟩) n1 c2)) (Ex.load rfl T.ag50 (i := 5) rfl rfl) (by decide)) (fun _ => (ulS (ulS (ulC (ulC (ulC (ulS (ulS ulR)))))))) (fun _ _ => ?_)
     refine GH.one 8 rfl (by kernel_rfl) (Stp.appendOwn (i := 6) (xs := xs2) (sp := sp2) (vs := [(.slice (some ⟨xq19.1, 0, none⟩) (n + 5) xq19.2.1)]) (L1 := (⟨bq24, [(.slice (some ⟨xq19.1, 0, none⟩) (n + 5) xq19.2.1)], 41, true⟩ :: ⟨xq19.1, (roomL xs).map u32 ++ xq19.2.2, 28, true⟩ :: ⟨xq4.1, xs1 ++ [(.slice (some ⟨bq1, 0, none⟩) (n + 5) (n + 5))] ++ xq4.2.2, 41, true⟩ :: ⟨bq3, [(.slice (some ⟨bq1, 0, none⟩) (n + 5) (n + 5))], 41, true⟩ :: ⟨bq1, (roomL xs).map u32, 28, true⟩ :: ⟨rb, [(.slice (some ⟨xq4.1, 0, none⟩) (n1 + 1) xq4.2.1), (.slice (some ⟨b2, 0, none⟩) n1 c2), nilS, nilS, nilS, nilS, nilS, nilS], 60, true⟩ :: R)) rfl rfl Try.underlying50 T.sz41 T.zr41 rfl T.by41 rfl (by omega) hc2 (fun wz hz => hz.rdOf (i := 0) rfl 0) rfl rfl (by omega) (by omega) rfl (by decide)) (fun _ => (ulS (ulS (ulS (ulC (ulC (ulC (ulS ulR)))))))) (fun xq25 hq26 => ?_)
     refine GH.one 9 rfl (by kernel_rfl) (Ex.wp (v := (.pointer (some ⟨rb, 0, none⟩))) (Ex.nilCheck rfl) (by decide)) (fun _ => (ulS (ulS (ulS (ulC (ulC (ulC (ulS ulR)))))))) (fun _ _ => ?_)
     refine GH.tk 10 (v := (.pointer (some ⟨rb, 1, none⟩))) rfl (by kernel_rfl) (fun _ _ _ h => h) (Ex.cast (Ex.fieldAddr rfl Try.underlying60 rfl T.sz50 (by decide)) rfl) (ulS (ulS (ulS (ulC (ulC (ulC (ulS ulR))))))) (by decide) ?_
     refine GH.one 11 rfl (by kernel_rfl) (Stp.st6 (cs' := [(.slice (some ⟨xq4.1, 0, none⟩) (n1 + 1) xq4.2.1), (.slice (some ⟨xq25.1, 0, none⟩) (n1 + 1) xq25.2.1), nilS, nilS, nilS, nilS, nilS, nilS]) rfl rfl rfl T.sz50 rfl rfl rfl) (fun _ => (ulS (ulS (ulS (ulC (ulC (ulC (ulS ulR)))))))) (fun _ _ => ?_)
     refine GH.done (by kernel_rfl) ?_
     refine GE.thenN (GC.seq (GC.region ?_))
     refine GL.mv rfl (by decide) ?_
     refine GL.mv rfl (by decide) ?_
     refine GL.val (v := (.int .i64 ((n : Int)))) (Ex.len rfl Try.underlying41) (by decide) ?_
     refine GL.val (v := (.slice (some ⟨bq1, 0, none⟩) n (n + 5))) (Ex.sliceH (m := n) rfl rfl Try.underlying41 T.sz28 rfl (by omega)) (by decide) ?_
     refine GL.sg rfl (by decide) ?_
     refine GL.nil (GE.thenN (GC.ret ?_))
     refine GC.ret1 rfl (Rv.tmp rfl) (fun wN HN => ?_)
     exact HN.frm (xq25, xq19, xq4, bq1) ⟨hq5.1, hq26.1⟩ (by rfl) (ulC (ulS (ulC (ulC (ulS (ulC (ulC ulR)))))))
    exact GHs.nil
   refine GHs.cons rfl (Stp.buildSlice (cs := [(.slice (some ⟨xq19.1, 0, none⟩) (n + 5) xq19.2.1)]) (vs := [(0, (.slice (some ⟨xq19.1, 0, none⟩) (n + 5) xq19.2.1))]) Try.underlying50 T.zr41 T.sz41 rfl (by decide) (by decide) (by first | rfl | kernel_rfl) (by decide)) (fun _ => (ulS (ulS (ulC (ulC (ulC (ulS (ulS ulR)))))))) (fun bq27 _ => ?_) ?_
   ·refine GH.one 2 rfl (by kernel_rfl) (Ex.wp (v := (.pointer (some ⟨rb, 0, none⟩))) (Ex.nilCheck rfl) (by decide)) (fun _ => (ulS (ulS (ulC (ulC (ulC (ulS (ulS ulR)))))))) (fun _ _ => ?_)
    refine GH.tk 3 (v := (.pointer (some ⟨rb, 1, none⟩))) rfl (by kernel_rfl) (fun _ _ _ h => h) (Ex.cast (Ex.fieldAddr rfl Try.underlying60 rfl T.sz50 (by decide)) rfl) (ulS (ulS (ulC (ulC (ulC (ulS (ulS ulR))))))) (by decide) ?_
    refine GH.one 4 rfl (by kernel_rfl) (Ex.wp (v := (.slice (some ⟨b2, 0, none⟩) n1 c2)) (Ex.load rfl T.ag50 (i := 5) rfl rfl) (by decide)) (fun _ => (ulS (ulS (ulC (ulC (ulC (ulS (ulS ulR)))))))) (fun _ _ => ?_)
    refine GH.one 8 rfl (by kernel_rfl) (Stp.appendOwn (i := 6) (xs := xs2) (sp := sp2) (vs := [(.slice (some ⟨xq19.1, 0, none⟩) (n + 5) xq19.2.1)]) (L1 := (⟨bq27, [(.slice (some ⟨xq19.1, 0, none⟩) (n + 5) xq19.2.1)], 41, true⟩ :: ⟨xq19.1, (roomL xs).map u32 ++ xq19.2.2, 28, true⟩ :: ⟨xq4.1, xs1 ++ [(.slice (some ⟨bq1, 0, none⟩) (n + 5) (n + 5))] ++ xq4.2.2, 41, true⟩ :: ⟨bq3, [(.slice (some ⟨bq1, 0, none⟩) (n + 5) (n + 5))], 41, true⟩ :: ⟨bq1, (roomL xs).map u32, 28, true⟩ :: ⟨rb, [(.slice (some ⟨xq4.1, 0, none⟩) (n1 + 1) xq4.2.1), (.slice (some ⟨b2, 0, none⟩) n1 c2), nilS, nilS, nilS, nilS, nilS, nilS], 60, true⟩ :: R)) rfl rfl Try.underlying50 T.sz41 T.zr41 rfl T.by41 rfl (by omega) hc2 (fun wz hz => hz.rdOf (i := 0) rfl 0) rfl rfl (by omega) (by omega) rfl (by decide)) (fun _ => (ulS (ulS (ulS (ulC (ulC (ulC (ulS ulR)))))))) (fun xq28 hq29 => ?_)
    refine GH.one 9 rfl (by kernel_rfl) (Ex.wp (v := (.pointer (some ⟨rb, 0, none⟩))) (Ex.nilCheck rfl) (by decide)) (fun _ => (ulS (ulS (ulS (ulC (ulC (ulC (ulS ulR)))))))) (fun _ _ => ?_)
    refine GH.tk 10 (v := (.pointer (some ⟨rb, 1, none⟩))) rfl (by kernel_rfl) (fun _ _ _ h => h) (Ex.cast (Ex.fieldAddr rfl Try.underlying60 rfl T.sz50 (by decide)) rfl) (ulS (ulS (ulS (ulC (ulC (ulC (ulS ulR))))))) (by decide) ?_
    refine GH.one 11 rfl (by kernel_rfl) (Stp.st6 (cs' := [(.slice (some ⟨xq4.1, 0, none⟩) (n1 + 1) xq4.2.1), (.slice (some ⟨xq28.1, 0, none⟩) (n1 + 1) xq28.2.1), nilS, nilS, nilS, nilS, nilS, nilS]) rfl rfl rfl T.sz50 rfl rfl rfl) (fun _ => (ulS (ulS (ulS (ulC (ulC (ulC (ulS ulR)))))))) (fun _ _ => ?_)
    refine GH.done (by kernel_rfl) ?_
    refine GE.thenN (GC.seq (GC.region ?_))
    refine GL.mv rfl (by decide) ?_
    refine GL.mv rfl (by decide) ?_
    refine GL.val (v := (.int .i64 ((n : Int)))) (Ex.len rfl Try.underlying41) (by decide) ?_
    refine GL.val (v := (.slice (some ⟨bq1, 0, none⟩) n (n + 5))) (Ex.sliceH (m := n) rfl rfl Try.underlying41 T.sz28 rfl (by omega)) (by decide) ?_
    refine GL.sg rfl (by decide) ?_
    refine GL.nil (GE.thenN (GC.ret ?_))
    refine GC.ret1 rfl (Rv.tmp rfl) (fun wN HN => ?_)
    exact HN.frm (xq28, xq19, xq4, bq1) ⟨hq5.1, hq29.1⟩ (by rfl) (ulC (ulS (ulC (ulC (ulS (ulC (ulC ulR)))))))
   exact GHs.nil
  exact GHs.nil

theorem room_s0 (w0 : World) (R : List Blk) (rb n cap : Nat) (ad : Option Addr) (xs : List Int) (w : World) (hs : Lst w0 ad n xs) (hb : n ≤ 35184372087808) (hp0 : Hp None w0 (⟨rb, [(.slice none 0 0), (.slice none 0 0), (.slice none 0 0), (.slice none 0 0), (.slice none 0 0), (.slice none 0 0), (.slice none 0 0), (.slice none 0 0)], 60, true⟩ :: R) w) :
  Calls Try.prog 58 #[(.pointer (some ⟨rb, 0, none⟩)), (.slice ad n cap)] w (Frm (σ := (Nat × Nat × List Value) × (Nat × Nat × List Value) × (Nat × Nat × List Value) × Nat) None w0 (fun x => ([(Value.slice (some ⟨x.2.2.2, 0, none⟩) (n + 5) (n + 5))] ++ x.2.2.1.2.2 : List Value).length = x.2.2.1.2.1 * 1 ∧ ([(Value.slice (some ⟨x.2.1.1, 0, none⟩) (n + 5) x.2.1.2.1)] ++ x.1.2.2 : List Value).length = x.1.2.1 * 1) (fun x => (.slice (some ⟨x.2.2.2, 0, none⟩) n (n + 5))) (fun x => (⟨x.1.1, [(Value.slice (some ⟨x.2.1.1, 0, none⟩) (n + 5) x.2.1.2.1)] ++ x.1.2.2, 41, true⟩ :: ⟨x.2.1.1, (roomL xs).map u32 ++ x.2.1.2.2, 28, true⟩ :: ⟨x.2.2.1.1, [(Value.slice (some ⟨x.2.2.2, 0, none⟩) (n + 5) (n + 5))] ++ x.2.2.1.2.2, 41, true⟩ :: ⟨x.2.2.2, (roomL xs).map u32, 28, true⟩ :: ⟨rb, [(.slice (some ⟨x.2.2.1.1, 0, none⟩) 1 x.2.2.1.2.1), (.slice (some ⟨x.1.1, 0, none⟩) 1 x.1.2.1), (.slice none 0 0), (.slice none 0 0), (.slice none 0 0), (.slice none 0 0), (.slice none 0 0), (.slice none 0 0)], 60, true⟩ :: R))) := by
 have hsl := hs.1
 refine enterF (w0 := w0) (M := None) (L := (⟨rb, [nilS, nilS, nilS, nilS, nilS, nilS, nilS, nilS], 60, true⟩ :: R)) (n := 53) (l := [(0, (.pointer (some ⟨rb, 0, none⟩))), (1, (.slice ad n cap))]) Try.func58 rfl rfl (Args.cons rfl (Args.cons rfl (Args.nil _))) hp0 ?_
 refine GC.seq (GC.region ?_)
 refine GL.sg rfl (by decide) ?_
 refine GL.nil (GE.thenN (GC.seq (GC.region ?_)))
 refine GL.mv rfl (by decide) ?_
 refine GL.val (v := (.int .i64 ((n : Int)))) (Ex.len rfl Try.underlying41) (by decide) ?_
 refine GL.val (v := (.int .i64 (((n + 5 : Nat) : Int)))) (Ex.add rfl rfl (Z := ((n + 5 : Nat) : Int)) (by rw [w64 (by omega)]; rfl)) (by decide) ?_
 refine GL.step (Stp.makeSlice (a1 := n + 5) (c := n + 5) rfl rfl Try.underlying41 T.zr28 T.sz28 T.by28 rfl (Nat.le_refl _) (by omega) (by omega) (by decide)) (fun bq1 _ => ?_)
 rw [madeCells_one]
 refine GL.sg rfl (by decide) ?_
 refine GL.nil (GE.thenN (GC.seq (GC.region ?_)))
 refine GL.mv rfl (by decide) ?_
 refine GL.mv rfl (by decide) ?_
 refine GL.step (Stp.copyO (i := 0) (vs := xs.map u32) (L1 := (⟨bq1, roomC xs 0, 28, true⟩ :: ⟨rb, [nilS, nilS, nilS, nilS, nilS, nilS, nilS, nilS], 60, true⟩ :: R)) rfl rfl Try.underlying41 T.sz28 rfl (hs.2.2.2.imp id (fun ⟨b', o', e, hr⟩ => ⟨b', o', e, fun wz hz => hz.rd hr (fun x => x)⟩)) (by simpa using hs.1) (by omega) (by simp) (u32_one xs) (by rw [roomC_zero xs hs.1]; rfl) (by decide)) (fun _ _ => ?_)
 refine GL.nil (GE.thenN (GC.seq (GC.seq (GC.region ?_))))
 refine GL.mv rfl (by decide) ?_
 refine GL.val (v := (.int .i64 ((n : Int)))) (Ex.len rfl Try.underlying41) (by decide) ?_
 refine GL.sg rfl (by decide) ?_
 refine GL.nil (GE.thenN (GC.block ?_))
 refine GC.loop (σ := Nat) (fun k => k ≤ 5) (fun k => [(0, (.pointer (some ⟨rb, 0, none⟩))), (1, (.slice ad n cap)), (5, (.slice (some ⟨bq1, 0, none⟩) (n + 5) (n + 5))), (6, (.int .i64 (((n + k : Nat) : Int))))]) (fun k => (⟨bq1, roomC xs k, 28, true⟩ :: ⟨rb, [nilS, nilS, nilS, nilS, nilS, nilS, nilS, nilS], 60, true⟩ :: R)) (fun k => 5 - k) (0) (by decide) ((sub_cons rfl ((sub_cons rfl ((sub_cons rfl ((sub_cons rfl ((sub_nil _)))))))))) (ulC (ulC ulR)) (fun k hp => ?_)
 refine GC.seq (GC.seq (GC.region ?_))
 refine GL.mv rfl (by decide) ?_
 refine GL.mv rfl (by decide) ?_
 refine GL.val (v := (.int .i64 (((n + 5) : Int)))) (Ex.len rfl Try.underlying41) (by decide) ?_
 refine GL.val (v := (.bool (decide ((((n + k : Nat) : Int)) < (((n + 5) : Int)))))) (Ex.lss rfl rfl) (by decide) ?_
 refine GL.nil (GE.thenN ?_)
 refine GC.cond rfl (fun hq2 => ?_) (fun hq2 => ?_)
 ·replace hq2 := of_decide_eq_true hq2
  refine GC.skip (GE.thenN (GC.seq (GC.block (GC.region ?_))))
  refine GL.mv rfl (by decide) ?_
  refine GL.mv rfl (by decide) ?_
  refine GL.mv rfl (by decide) ?_
  refine GL.val (v := (.int .i64 (2141192202 + (((n + k : Nat) : Int))))) (Ex.add rfl rfl (Z := 2141192202 + (((n + k : Nat) : Int))) (w64 (by omega))) (by decide) ?_
  refine GL.val (v := (.int .u32 (fil (n + k)))) (Ex.conv rfl Try.underlying3 Try.underlying28 (Z := fil (n + k)) (by rw [wu32]; rfl)) (by decide) ?_
  refine GL.val (v := (.pointer (some ⟨bq1, n + k, none⟩))) (Ex.cast (Ex.indexAddr rfl rfl Try.underlying41 T.sz28 (by omega) (by omega)) (by simp)) (by decide) ?_
  refine GL.step (Stp.storeL (i := 0) (cs := roomC xs k) (vs := [.int .u32 (fil (n + k))]) (o := n + k) (L1 := (⟨bq1, roomC xs (k + 1), 28, true⟩ :: ⟨rb, [nilS, nilS, nilS, nilS, nilS, nilS, nilS, nilS], 60, true⟩ :: R)) rfl rfl rfl T.sz28 rfl (Nat.ble_eq_true_of_le (by rw [roomC_len (by omega)]; simp; omega)) rfl (by rw [roomC_store hs.1 (by omega)]; rfl)) (fun _ _ => ?_)
  refine GL.nil (GE.blockN (GE.thenN (GC.region ?_)))
  refine GL.mv rfl (by decide) ?_
  refine GL.val (v := (.int .i64 (((n + (k + 1) : Nat) : Int)))) (Ex.add rfl rfl (Z := ((n + (k + 1) : Nat) : Int)) (by rw [w64 (by omega)]; simp only [Int.natCast_add]; omega)) (by decide) ?_
  refine GL.sg rfl (by decide) ?_
  refine GL.nil (GE.thenN ?_)
  exact Head.mk (k + 1) (by omega) (by omega) ((sub_cons rfl ((sub_cons rfl ((sub_cons rfl ((sub_cons rfl ((sub_nil _)))))))))) (ulC (ulC ulR))
 ·replace hq2 := of_decide_eq_false hq2
  refine GC.exit (GE.thenE (GE.thenE (GE.blockE (GE.thenN (GC.seq ?_)))))
  obtain rfl : k = 5 := by omega
  rw [roomC_full]
  refine GC.region ?_
  refine GL.mv rfl (by decide) ?_
  refine GL.mv rfl (by decide) ?_
  refine GL.val (v := (.pointer (some ⟨rb, 0, none⟩))) (Ex.nilCheck rfl) (by decide) ?_
  refine GL.val (v := (.pointer (some ⟨rb, 0, none⟩))) (Ex.cast (Ex.fieldAddr rfl Try.underlying60 rfl T.sz50 (by decide)) rfl) (by decide) ?_
  refine GL.val (Ex.load rfl T.ag50 (i := 1) rfl rfl) (by decide) ?_
  refine GL.mv rfl (by decide) ?_
  refine GL.step (Stp.buildSlice (cs := [(.slice (some ⟨bq1, 0, none⟩) (n + 5) (n + 5))]) (vs := [(0, (.slice (some ⟨bq1, 0, none⟩) (n + 5) (n + 5)))]) Try.underlying50 T.zr41 T.sz41 rfl (by decide) (by decide) (by first | rfl | kernel_rfl) (by decide)) (fun bq3 _ => ?_)
  refine GL.step (Stp.appendNil (vs := [(.slice (some ⟨bq1, 0, none⟩) (n + 5) (n + 5))]) rfl rfl Try.underlying50 T.sz41 T.zr41 rfl T.by41 (fun wz hz => hz.rdOf (i := 0) rfl 0) rfl (by decide) (by decide) (by decide) (by decide)) (fun xq4 hq5 => ?_)
  refine GL.val (v := (.pointer (some ⟨rb, 0, none⟩))) (Ex.nilCheck rfl) (by decide) ?_
  refine GL.val (v := (.pointer (some ⟨rb, 0, none⟩))) (Ex.cast (Ex.fieldAddr rfl Try.underlying60 rfl T.sz50 (by decide)) rfl) (by decide) ?_
  refine GL.step (Stp.st3 (cs' := [(.slice (some ⟨xq4.1, 0, none⟩) 1 xq4.2.1), nilS, nilS, nilS, nilS, nilS, nilS, nilS]) rfl rfl rfl T.sz50 rfl rfl rfl) (fun _ _ => ?_)
  refine GL.nil (GE.thenN (GC.seq ?_))
  refine GC.draw (⟨xq4.1, [(.slice (some ⟨bq1, 0, none⟩) (n + 5) (n + 5))] ++ xq4.2.2, 41, true⟩ :: ⟨bq3, [(.slice (some ⟨bq1, 0, none⟩) (n + 5) (n + 5))], 41, true⟩ :: ⟨bq1, (roomL xs).map u32, 28, true⟩ :: R) T.mixed (fuel := 12) rfl rfl ?_
  refine GH.tk 0 (v := (.pointer (some ⟨rb, 0, none⟩))) rfl (by kernel_rfl) (fun _ _ _ h => h) (Ex.move rfl) (ulC (ulC (ulC (ulS ulR)))) (by decide) ?_
  refine GH.tk 1 (v := (.pointer (some ⟨rb, 0, none⟩))) rfl (by kernel_rfl) (fun _ _ _ h => h) (Ex.move rfl) (ulC (ulC (ulC (ulS ulR)))) (by decide) ?_
  refine GH.tk 5 (v := (.slice (some ⟨bq1, 0, none⟩) (n + 5) (n + 5))) rfl (by kernel_rfl) (fun _ _ _ h => h) (Ex.move rfl) (ulC (ulC (ulC (ulS ulR)))) (by decide) ?_
  refine GH.many (rs := [2, 6]) (by kernel_rfl) (by simp) ?_
  refine GHs.cons rfl (Ex.wp (v := (.pointer (some ⟨rb, 0, none⟩))) (Ex.nilCheck rfl) (by decide)) (fun _ => (ulC (ulC (ulC (ulS ulR))))) (fun _ _ => ?_) ?_
  ·refine GH.tk 3 (v := (.pointer (some ⟨rb, 1, none⟩))) rfl (by kernel_rfl) (fun _ _ _ h => h) (Ex.cast (Ex.fieldAddr rfl Try.underlying60 rfl T.sz50 (by decide)) rfl) (ulC (ulC (ulC (ulS ulR)))) (by decide) ?_
   refine GH.many (rs := [4, 6]) (by kernel_rfl) (by simp) ?_
   refine GHs.cons rfl (Ex.wp (v := nilS) (Ex.load rfl T.ag50 (i := 3) rfl rfl) (by decide)) (fun _ => (ulC (ulC (ulC (ulS ulR))))) (fun _ _ => ?_) ?_
   ·refine GH.one 6 rfl (by kernel_rfl) (Stp.appendNil (vs := (roomL xs).map u32) rfl rfl Try.underlying41 T.sz28 T.zr28 rfl T.by28 (fun wz hz => hz.rdOf (i := 2) rfl 0) (by simp [roomL_len, hs.1]) (by omega) (by omega) (by omega) (by decide)) (fun _ => (ulS (ulC (ulC (ulC (ulS ulR)))))) (fun xq6 hq7 => ?_)
    refine GH.one 7 rfl (by kernel_rfl) (Stp.buildSlice (cs := [(.slice (some ⟨xq6.1, 0, none⟩) (n + 5) xq6.2.1)]) (vs := [(0, (.slice (some ⟨xq6.1, 0, none⟩) (n + 5) xq6.2.1))]) Try.underlying50 T.zr41 T.sz41 rfl (by decide) (by decide) (by first | rfl | kernel_rfl) (by decide)) (fun _ => (ulS (ulS (ulC (ulC (ulC (ulS ulR))))))) (fun bq8 _ => ?_)
    refine GH.one 8 rfl (by kernel_rfl) (Stp.appendNil (vs := [(.slice (some ⟨xq6.1, 0, none⟩) (n + 5) xq6.2.1)]) rfl rfl Try.underlying50 T.sz41 T.zr41 rfl T.by41 (fun wz hz => hz.rdOf (i := 0) rfl 0) rfl (by decide) (by decide) (by decide) (by decide)) (fun _ => (ulS (ulS (ulS (ulC (ulC (ulC (ulS ulR)))))))) (fun xq9 hq10 => ?_)
    refine GH.one 9 rfl (by kernel_rfl) (Ex.wp (v := (.pointer (some ⟨rb, 0, none⟩))) (Ex.nilCheck rfl) (by decide)) (fun _ => (ulS (ulS (ulS (ulC (ulC (ulC (ulS ulR)))))))) (fun _ _ => ?_)
    refine GH.tk 10 (v := (.pointer (some ⟨rb, 1, none⟩))) rfl (by kernel_rfl) (fun _ _ _ h => h) (Ex.cast (Ex.fieldAddr rfl Try.underlying60 rfl T.sz50 (by decide)) rfl) (ulS (ulS (ulS (ulC (ulC (ulC (ulS ulR))))))) (by decide) ?_
    refine GH.one 11 rfl (by kernel_rfl) (Stp.st6 (cs' := [(.slice (some ⟨xq4.1, 0, none⟩) 1 xq4.2.1), (.slice (some ⟨xq9.1, 0, none⟩) 1 xq9.2.1), nilS, nilS, nilS, nilS, nilS, nilS]) rfl rfl rfl T.sz50 rfl rfl rfl) (fun _ => (ulS (ulS (ulS (ulC (ulC (ulC (ulS ulR)))))))) (fun _ _ => ?_)
    refine GH.done (by kernel_rfl) ?_
    refine GE.thenN (GC.seq (GC.region ?_))
    refine GL.mv rfl (by decide) ?_
    refine GL.mv rfl (by decide) ?_
    refine GL.val (v := (.int .i64 ((n : Int)))) (Ex.len rfl Try.underlying41) (by decide) ?_
    refine GL.val (v := (.slice (some ⟨bq1, 0, none⟩) n (n + 5))) (Ex.sliceH (m := n) rfl rfl Try.underlying41 T.sz28 rfl (by omega)) (by decide) ?_
    refine GL.sg rfl (by decide) ?_
    refine GL.nil (GE.thenN (GC.ret ?_))
    refine GC.ret1 rfl (Rv.tmp rfl) (fun wN HN => ?_)
    exact HN.frm (xq9, xq6, xq4, bq1) ⟨hq5.1, hq10.1⟩ (by rfl) (ulC (ulS (ulC (ulC (ulS (ulC (ulC ulR)))))))
   refine GHs.cons rfl (Stp.appendNil (vs := (roomL xs).map u32) rfl rfl Try.underlying41 T.sz28 T.zr28 rfl T.by28 (fun wz hz => hz.rdOf (i := 2) rfl 0) (by simp [roomL_len, hs.1]) (by omega) (by omega) (by omega) (by decide)) (fun _ => (ulS (ulC (ulC (ulC (ulS ulR)))))) (fun xq11 hq12 => ?_) ?_
   ·refine GH.many (rs := [4, 7]) (by kernel_rfl) (by simp) ?_
    refine GHs.cons rfl (Ex.wp (v := nilS) (Ex.load rfl T.ag50 (i := 4) rfl rfl) (by decide)) (fun _ => (ulS (ulC (ulC (ulC (ulS ulR)))))) (fun _ _ => ?_) ?_
    ·refine GH.one 7 rfl (by kernel_rfl) (Stp.buildSlice (cs := [(.slice (some ⟨xq11.1, 0, none⟩) (n + 5) xq11.2.1)]) (vs := [(0, (.slice (some ⟨xq11.1, 0, none⟩) (n + 5) xq11.2.1))]) Try.underlying50 T.zr41 T.sz41 rfl (by decide) (by decide) (by first | rfl | kernel_rfl) (by decide)) (fun _ => (ulS (ulS (ulC (ulC (ulC (ulS ulR))))))) (fun bq13 _ => ?_)
     refine GH.one 8 rfl (by kernel_rfl) (Stp.appendNil (vs := [(.slice (some ⟨xq11.1, 0, none⟩) (n + 5) xq11.2.1)]) rfl rfl Try.underlying50 T.sz41 T.zr41 rfl T.by41 (fun wz hz => hz.rdOf (i := 0) rfl 0) rfl (by decide) (by decide) (by decide) (by decide)) (fun _ => (ulS (ulS (ulS (ulC (ulC (ulC (ulS ulR)))))))) (fun xq14 hq15 => ?_)
     refine GH.one 9 rfl (by kernel_rfl) (Ex.wp (v := (.pointer (some ⟨rb, 0, none⟩))) (Ex.nilCheck rfl) (by decide)) (fun _ => (ulS (ulS (ulS (ulC (ulC (ulC (ulS ulR)))))))) (fun _ _ => ?_)
     refine GH.tk 10 (v := (.pointer (some ⟨rb, 1, none⟩))) rfl (by kernel_rfl) (fun _ _ _ h => h) (Ex.cast (Ex.fieldAddr rfl Try.underlying60 rfl T.sz50 (by decide)) rfl) (ulS (ulS (ulS (ulC (ulC (ulC (ulS ulR))))))) (by decide) ?_
     refine GH.one 11 rfl (by kernel_rfl) (Stp.st6 (cs' := [(.slice (some ⟨xq4.1, 0, none⟩) 1 xq4.2.1), (.slice (some ⟨xq14.1, 0, none⟩) 1 xq14.2.1), nilS, nilS, nilS, nilS, nilS, nilS]) rfl rfl rfl T.sz50 rfl rfl rfl) (fun _ => (ulS (ulS (ulS (ulC (ulC (ulC (ulS ulR)))))))) (fun _ _ => ?_)
     refine GH.done (by kernel_rfl) ?_
     refine GE.thenN (GC.seq (GC.region ?_))
     refine GL.mv rfl (by decide) ?_
     refine GL.mv rfl (by decide) ?_
     refine GL.val (v := (.int .i64 ((n : Int)))) (Ex.len rfl Try.underlying41) (by decide) ?_
     refine GL.val (v := (.slice (some ⟨bq1, 0, none⟩) n (n + 5))) (Ex.sliceH (m := n) rfl rfl Try.underlying41 T.sz28 rfl (by omega)) (by decide) ?_
     refine GL.sg rfl (by decide) ?_
     refine GL.nil (GE.thenN (GC.ret ?_))
     refine GC.ret1 rfl (Rv.tmp rfl) (fun wN HN => ?_)
     exact HN.frm (xq14, xq11, xq4, bq1) ⟨hq5.1, hq15.1⟩ (by rfl) (ulC (ulS (ulC (ulC (ulS (ulC (ulC ulR)))))))
    refine GHs.cons rfl (Stp.buildSlice (cs := [(.slice (some ⟨xq11.1, 0, none⟩) (n + 5) xq11.2.1)]) (vs := [(0, (.slice (some ⟨xq11.1, 0, none⟩) (n + 5) xq11.2.1))]) Try.underlying50 T.zr41 T.sz41 rfl (by decide) (by decide) (by first | rfl | kernel_rfl) (by decide)) (fun _ => (ulS (ulS (ulC (ulC (ulC (ulS ulR))))))) (fun bq16 _ => ?_) ?_
    ·refine GH.one 4 rfl (by kernel_rfl) (Ex.wp (v := nilS) (Ex.load rfl T.ag50 (i := 5) rfl rfl) (by decide)) (fun _ => (ulS (ulS (ulC (ulC (ulC (ulS ulR))))))) (fun _ _ => ?_)
     refine GH.one 8 rfl (by kernel_rfl) (Stp.appendNil (vs := [(.slice (some ⟨xq11.1, 0, none⟩) (n + 5) xq11.2.1)]) rfl rfl Try.underlying50 T.sz41 T.zr41 rfl T.by41 (fun wz hz => hz.rdOf (i := 0) rfl 0) rfl (by decide) (by decide) (by decide) (by decide)) (fun _ => (ulS (ulS (ulS (ulC (ulC (ulC (ulS ulR)))))))) (fun xq17 hq18 => ?_)
     refine GH.one 9 rfl (by kernel_rfl) (Ex.wp (v := (.pointer (some ⟨rb, 0, none⟩))) (Ex.nilCheck rfl) (by decide)) (fun _ => (ulS (ulS (ulS (ulC (ulC (ulC (ulS ulR)))))))) (fun _ _ => ?_)
     refine GH.tk 10 (v := (.pointer (some ⟨rb, 1, none⟩))) rfl (by kernel_rfl) (fun _ _ _ h => h) (Ex.cast (Ex.fieldAddr rfl Try.underlying60 rfl T.sz50 (by decide)) rfl) (ulS (ulS (ulS (ulC (ulC (ulC (ulS ulR))))))) (by decide) ?_
     refine GH.one 11 rfl (by kernel_rfl) (Stp.st6 (cs' := [(.slice (some ⟨xq4.1, 0, none⟩) 1 xq4.2.1), (.slice (some ⟨xq17.1, 0, none⟩) 1 xq17.2.1), nilS, nilS, nilS, nilS, nilS, nilS]) rfl rfl rfl T.sz50 rfl rfl rfl) (fun _ => (ulS (ulS (ulS (ulC (ulC (ulC (ulS ulR)))))))) (fun _ _ => ?_)
     refine GH.done (by kernel_rfl) ?_
     refine GE.thenN (GC.seq (GC.region ?_))
     refine GL.mv rfl (by decide) ?_
     refine GL.mv rfl (by decide) ?_
     refine GL.val (v := (.int .i64 ((n : Int)))) (Ex.len rfl Try.underlying41) (by decide) ?_
     refine GL.val (v := (.slice (some ⟨bq1, 0, none⟩) n (n + 5))) (Ex.sliceH (m := n) rfl rfl Try.underlying41 T.sz28 rfl (by omega)) (by decide) ?_
     refine GL.sg rfl (by decide) ?_
     refine GL.nil (GE.thenN (GC.ret ?_))
     refine GC.ret1 rfl (Rv.tmp rfl) (fun wN HN => ?_)
     exact HN.frm (xq17, xq11, xq4, bq1) ⟨hq5.1, hq18.1⟩ (by rfl) (ulC (ulS (ulC (ulC (ulS (ulC (ulC ulR)))))))
    exact GHs.nil
   exact GHs.nil
  refine GHs.cons rfl (Stp.appendNil (vs := (roomL xs).map u32) rfl rfl Try.underlying41 T.sz28 T.zr28 rfl T.by28 (fun wz hz => hz.rdOf (i := 2) rfl 0) (by simp [roomL_len, hs.1]) (by omega) (by omega) (by omega) (by decide)) (fun _ => (ulS (ulC (ulC (ulC (ulS ulR)))))) (fun xq19 hq20 => ?_) ?_
  ·refine GH.many (rs := [2, 7]) (by kernel_rfl) (by simp) ?_
   refine GHs.cons rfl (Ex.wp (v := (.pointer (some ⟨rb, 0, none⟩))) (Ex.nilCheck rfl) (by decide)) (fun _ => (ulS (ulC (ulC (ulC (ulS ulR)))))) (fun _ _ => ?_) ?_
   ·refine GH.tk 3 (v := (.pointer (some ⟨rb, 1, none⟩))) rfl (by kernel_rfl) (fun _ _ _ h => h) (Ex.cast (Ex.fieldAddr rfl Try.underlying60 rfl T.sz50 (by decide)) rfl) (ulS (ulC (ulC (ulC (ulS ulR))))) (by decide) ?_
    refine GH.many (rs := [4, 7]) (by kernel_rfl) (by simp) ?_
    refine GHs.cons rfl (Ex.wp (v := nilS) (Ex.load rfl T.ag50 (i := 4) rfl rfl) (by decide)) (fun _ => (ulS (ulC (ulC (ulC (ulS ulR)))))) (fun _ _ => ?_) ?_
    ·refine GH.one 7 rfl (by kernel_rfl) (Stp.buildSlice (cs := [(.slice (some ⟨xq19.1, 0, none⟩) (n + 5) xq19.2.1)]) (vs := [(0, (.slice (some ⟨xq19.1, 0, none⟩) (n + 5) xq19.2.1))]) Try.underlying50 T.zr41 T.sz41 rfl (by decide) (by decide) (by first | rfl | kernel_rfl) (by decide)) (fun _ => (ulS (ulS (ulC (ulC (ulC (ulS ulR))))))) (fun bq21 _ => ?_)
     refine GH.one 8 rfl (by kernel_rfl) (Stp.appendNil (vs := [(.slice (some ⟨xq19.1, 0, none⟩) (n + 5) xq19.2.1)]) rfl rfl Try.underlying50 T.sz41 T.zr41 rfl T.by41 (fun wz hz => hz.rdOf (i := 0) rfl 0) rfl (by decide) (by decide) (by decide) (by decide)) (fun _ => (ulS (ulS (ulS (ulC (ulC (ulC (ulS ulR)))))))) (fun xq22 hq23 => ?_)
     refine GH.one 9 rfl (by kernel_rfl) (Ex.wp (v := (.pointer (some ⟨rb, 0, none⟩))) (Ex.nilCheck rfl) (by decide)) (fun _ => (ulS (ulS (ulS (ulC (ulC (ulC (ulS ulR)))))))) (fun _ _ => ?_)
     refine GH.tk 10 (v := (.pointer (some ⟨rb, 1, none⟩))) rfl (by kernel_rfl) (fun _ _ _ h => h) (Ex.cast (Ex.fieldAddr rfl Try.underlying60 rfl T.sz50 (by decide)) rfl) (ulS (ulS (ulS (ulC (ulC (ulC (ulS ulR))))))) (by decide) ?_
     refine GH.one 11 rfl (by kernel_rfl) (Stp.st6 (cs' := [(.slice (some ⟨xq4.1, 0, none⟩) 1 xq4.2.1), (.slice (some ⟨xq22.1, 0, none⟩) 1 xq22.2.1), nilS, nilS, nilS, nilS, nilS, nilS]) rfl rfl rfl T.sz50 rfl rfl rfl) (fun _ => (ulS (ulS (ulS (ulC (ulC (ulC (ulS ulR)))))))) (fun _ _ => ?_)
     refine GH.done (by kernel_rfl) ?_
     refine GE.thenN (GC.seq (GC.region ?_))
     refine GL.mv rfl (by decide) ?_
     refine GL.mv rfl (by decide) ?_
     refine GL.val (v := (.int .i64 ((n : Int)))) (Ex.len rfl Try.underlying41) (by decide) ?_
     refine GL.val (v := (.slice (some ⟨bq1, 0, none⟩) n (n + 5))) (Ex.sliceH (m := n) rfl rfl Try.underlying41 T.sz28 rfl (by omega)) (by decide) ?_
     refine GL.sg rfl (by decide) ?_
     refine GL.nil (GE.thenN (GC.ret ?_))
     refine GC.ret1 rfl (Rv.tmp rfl) (fun wN HN => ?_)
     exact HN.frm (xq22, xq19, xq4, bq1) ⟨hq5.1, hq23.1⟩ (by rfl) (ulC (ulS (ulC (ulC (ulS (ulC (ulC ulR)))))))
    refine GHs.cons rfl (Stp.buildSlice (cs := [(.slice (some ⟨xq19.1, 0, none⟩) (n + 5) xq19.2.1)]) (vs := [(0, (.slice (some ⟨xq19.1, 0, none⟩) (n + 5) xq19.2.1))]) Try.underlying50 T.zr41 T.sz41 rfl (by decide) (by decide) (by first | rfl | kernel_rfl) (by decide)) (fun _ => (ulS (ulS (ulC (ulC (ulC (ulS ulR))))))) (fun bq24 _ => ?_) ?_
    ·refine GH.one 4 rfl (by kernel_rfl) (Ex.wp (v := nilS) (Ex.load rfl T.ag50 (i := 5) rfl rfl) (by decide)) (fun _ => (ulS (ulS (ulC (ulC (ulC (ulS ulR))))))) (fun _ _ => ?_)
     refine GH.one 8 rfl (by kernel_rfl) (Stp.appendNil (vs := [(.slice (some ⟨xq19.1, 0, none⟩) (n + 5) xq19.2.1)]) rfl rfl Try.underlying50 T.sz41 T.zr41 rfl T.by41 (fun wz hz => hz.rdOf (i := 0) rfl 0) rfl (by decide) (by decide) (by decide) (by decide)) (fun _ => (ulS (ulS (ulS (ulC (ulC (ulC (ulS ulR)))))))) (fun xq25 hq26 => ?_)
     refine GH.one 9 rfl (by kernel_rfl) (Ex.wp (v := (.pointer (some ⟨rb, 0, none⟩))) (Ex.nilCheck rfl) (by decide)) (fun _ => (ulS (ulS (ulS (ulC (ulC (ulC (ulS ulR)))))))) (fun _ _ => ?_)
     refine GH.tk 10 (v := (.pointer (some ⟨rb, 1, none⟩))) rfl (by kernel_rfl) (fun _ _ _ h => h) (Ex.cast (Ex.fieldAddr rfl Try.underlying60 rfl T.sz50 (by decide)) rfl) (ulS (ulS (ulS (ulC (ulC (ulC (ulS ulR))))))) (by decide) ?_
     refine GH.one 11 rfl (by kernel_rfl) (Stp.st6 (cs' := [(.slice (some ⟨xq4.1, 0, none⟩) 1 xq4.2.1), (.slice (some ⟨xq25.1, 0, none⟩) 1 xq25.2.1), nilS, nilS, nilS, nilS, nilS, nilS]) rfl rfl rfl T.sz50 rfl rfl rfl) (fun _ => (ulS (ulS (ulS (ulC (ulC (ulC (ulS ulR)))))))) (fun _ _ => ?_)
     refine GH.done (by kernel_rfl) ?_
     refine GE.thenN (GC.seq (GC.region ?_))
     refine GL.mv rfl (by decide) ?_
     refine GL.mv rfl (by decide) ?_
     refine GL.val (v := (.int .i64 ((n : Int)))) (Ex.len rfl Try.underlying41) (by decide) ?_
     refine GL.val (v := (.slice (some ⟨bq1, 0, none⟩) n (n + 5))) (Ex.sliceH (m := n) rfl rfl Try.underlying41 T.sz28 rfl (by omega)) (by decide) ?_
     refine GL.sg rfl (by decide) ?_
     refine GL.nil (GE.thenN (GC.ret ?_))
     refine GC.ret1 rfl (Rv.tmp rfl) (fun wN HN => ?_)
     exact HN.frm (xq25, xq19, xq4, bq1) ⟨hq5.1, hq26.1⟩ (by rfl) (ulC (ulS (ulC (ulC (ulS (ulC (ulC ulR)))))))
    exact GHs.nil
   refine GHs.cons rfl (Stp.buildSlice (cs := [(.slice (some ⟨xq19.1, 0, none⟩) (n + 5) xq19.2.1)]) (vs := [(0, (.slice (some ⟨xq19.1, 0, none⟩) (n + 5) xq19.2.1))]) Try.underlying50 T.zr41 T.sz41 rfl (by decide) (by decide) (by first | rfl | kernel_rfl) (by decide)) (fun _ => (ulS (ulS (ulC (ulC (ulC (ulS ulR))))))) (fun bq27 _ => ?_) ?_
   ·refine GH.one 2 rfl (by kernel_rfl) (Ex.wp (v := (.pointer (some ⟨rb, 0, none⟩))) (Ex.nilCheck rfl) (by decide)) (fun _ => (ulS (ulS (ulC (ulC (ulC (ulS ulR))))))) (fun _ _ => ?_)
    refine GH.tk 3 (v := (.pointer (some ⟨rb, 1, none⟩))) rfl (by kernel_rfl) (fun _ _ _ h => h) (Ex.cast (Ex.fieldAddr rfl Try.underlying60 rfl T.sz50 (by decide)) rfl) (ulS (ulS (ulC (ulC (ulC (ulS ulR)))))) (by decide) ?_
    refine GH.one 4 rfl (by kernel_rfl) (Ex.wp (v := nilS) (Ex.load rfl T.ag50 (i := 5) rfl rfl) (by decide)) (fun _ => (ulS (ulS (ulC (ulC (ulC (ulS ulR))))))) (fun _ _ => ?_)
    refine GH.one 8 rfl (by kernel_rfl) (Stp.appendNil (vs := [(.slice (some ⟨xq19.1, 0, none⟩) (n + 5) xq19.2.1)]) rfl rfl Try.underlying50 T.sz41 T.zr41 rfl T.by41 (fun wz hz => hz.rdOf (i := 0) rfl 0) rfl (by decide) (by decide) (by decide) (by decide)) (fun _ => (ulS (ulS (ulS (ulC (ulC (ulC (ulS ulR)))))))) (fun xq28 hq29 => ?_)
    refine GH.one 9 rfl (by kernel_rfl) (Ex.wp (v := (.pointer (some ⟨rb, 0, none⟩))) (Ex.nilCheck rfl) (by decide)) (fun _ => (ulS (ulS (ulS (ulC (ulC (ulC (ulS ulR)))))))) (fun _ _ => ?_)
    refine GH.tk 10 (v := (.pointer (some ⟨rb, 1, none⟩))) rfl (by kernel_rfl) (fun _ _ _ h => h) (Ex.cast (Ex.fieldAddr rfl Try.underlying60 rfl T.sz50 (by decide)) rfl) (ulS (ulS (ulS (ulC (ulC (ulC (ulS ulR))))))) (by decide) ?_
    refine GH.one 11 rfl (by kernel_rfl) (Stp.st6 (cs' := [(.slice (some ⟨xq4.1, 0, none⟩) 1 xq4.2.1), (.slice (some ⟨xq28.1, 0, none⟩) 1 xq28.2.1), nilS, nilS, nilS, nilS, nilS, nilS]) rfl rfl rfl T.sz50 rfl rfl rfl) (fun _ => (ulS (ulS (ulS (ulC (ulC (ulC (ulS ulR)))))))) (fun _ _ => ?_)
    refine GH.done (by kernel_rfl) ?_
    refine GE.thenN (GC.seq (GC.region ?_))
    refine GL.mv rfl (by decide) ?_
    refine GL.mv rfl (by decide) ?_
    refine GL.val (v := (.int .i64 ((n : Int)))) (Ex.len rfl Try.underlying41) (by decide) ?_
    refine GL.val (v := (.slice (some ⟨bq1, 0, none⟩) n (n + 5))) (Ex.sliceH (m := n) rfl rfl Try.underlying41 T.sz28 rfl (by omega)) (by decide) ?_
    refine GL.sg rfl (by decide) ?_
    refine GL.nil (GE.thenN (GC.ret ?_))
    refine GC.ret1 rfl (Rv.tmp rfl) (fun wN HN => ?_)
    exact HN.frm (xq28, xq19, xq4, bq1) ⟨hq5.1, hq29.1⟩ (by rfl) (ulC (ulS (ulC (ulC (ulS (ulC (ulC ulR)))))))
   exact GHs.nil
  exact GHs.nil

theorem room_p0 (w0 : World) (R : List Blk) (W H : Int) (rb n cap : Nat) (ad : Option Addr) (xs : List Int) (w : World) (hs : Lst w0 ad n xs) (hb : n ≤ 35184372087808) (hp0 : Hp None w0 (⟨rb, [(.slice none 0 0), (.slice none 0 0), (.slice none 0 0), (.slice none 0 0), (.slice none 0 0), (.slice none 0 0), (.slice none 0 0), (.slice none 0 0)], 60, true⟩ :: R) w) :
  Calls Try.prog 21 #[(.pointer (some ⟨rb, 0, none⟩)), (.agg #[(.int .i64 W), (.int .i64 H), (.slice ad n cap)])] w (Frm (σ := (Nat × Nat × List Value) × (Nat × Nat × List Value) × (Nat × Nat × List Value) × Nat) None w0 (fun x => ([(Value.slice (some ⟨x.2.2.2, 0, none⟩) (n + 5) (n + 5))] ++ x.2.2.1.2.2 : List Value).length = x.2.2.1.2.1 * 1 ∧ ([(Value.slice (some ⟨x.2.1.1, 0, none⟩) (n + 5) x.2.1.2.1)] ++ x.1.2.2 : List Value).length = x.1.2.1 * 1) (fun x => (.agg #[(.int .i64 W), (.int .i64 H), (.slice (some ⟨x.2.2.2, 0, none⟩) n (n + 5))])) (fun x => (⟨x.1.1, [(Value.slice (some ⟨x.2.1.1, 0, none⟩) (n + 5) x.2.1.2.1)] ++ x.1.2.2, 41, true⟩ :: ⟨x.2.1.1, (roomL xs).map u32 ++ x.2.1.2.2, 28, true⟩ :: ⟨x.2.2.1.1, [(Value.slice (some ⟨x.2.2.2, 0, none⟩) (n + 5) (n + 5))] ++ x.2.2.1.2.2, 41, true⟩ :: ⟨x.2.2.2, (roomL xs).map u32, 28, true⟩ :: ⟨rb, [(.slice (some ⟨x.2.2.1.1, 0, none⟩) 1 x.2.2.1.2.1), (.slice (some ⟨x.1.1, 0, none⟩) 1 x.1.2.1), (.slice none 0 0), (.slice none 0 0), (.slice none 0 0), (.slice none 0 0), (.slice none 0 0), (.slice none 0 0)], 60, true⟩ :: R))) := by
 refine enterF (w0 := w0) (M := None) (L := (⟨rb, [nilS, nilS, nilS, nilS, nilS, nilS, nilS, nilS], 60, true⟩ :: R)) (n := 11) (l := [(0, (.pointer (some ⟨rb, 0, none⟩))), (1, (.agg #[(.int .i64 W), (.int .i64 H), (.slice ad n cap)]))]) Try.func21 rfl rfl (Args.cons rfl (Args.cons rfl (Args.nil _))) hp0 ?_
 refine GC.seq (GC.region ?_)
 refine GL.step (Stp.box (cs := [(.int .i64 W), (.int .i64 H), (.slice ad n cap)]) rfl rfl (by decide)) (fun bq1 _ => ?_)
 refine GL.step (Stp.alloc T.zr43 (by decide)) (fun bq2 _ => ?_)
 refine GL.nil (GE.thenN (GC.seq (GC.region ?_)))
 refine GL.mv rfl (by decide) ?_
 refine GL.val (v := (.pointer (some ⟨bq1, 2, none⟩))) (Ex.cast (Ex.fieldAddr rfl Try.underlying43 rfl T.sz41 (by decide)) rfl) (by decide) ?_
 refine GL.val (Ex.load rfl T.ag41 (i := 1) rfl rfl) (by decide) ?_
 refine GL.step (Stp.call (vs := [(.pointer (some ⟨rb, 0, none⟩)), (.slice ad n cap)]) rfl rfl T.own58 (by decide) (fun wc hw => room_s0 w0 _ rb n cap ad xs wc hs hb (Hp.pickT (A := [⟨bq2, [(.int .i64 0), (.int .i64 0), nilS], 43, true⟩, ⟨bq1, [(.int .i64 W), (.int .i64 H), (.slice ad n cap)], 43, true⟩, ⟨rb, [nilS, nilS, nilS, nilS, nilS, nilS, nilS, nilS], 60, true⟩]) (R := R) hw (idx := [2, 0, 1]) (by decide) rfl))) (fun xq3 hq4 => ?_)
 refine GL.val (v := (.pointer (some ⟨bq1, 2, none⟩))) (Ex.cast (Ex.fieldAddr rfl Try.underlying43 rfl T.sz41 (by decide)) rfl) (by decide) ?_
 refine GL.step (Stp.st6 (cs' := [(.int .i64 W), (.int .i64 H), (.slice (some ⟨xq3.2.2.2, 0, none⟩) n (n + 5))]) rfl rfl rfl T.sz41 rfl rfl rfl) (fun _ _ => ?_)
 refine GL.nil (GE.thenN (GC.seq (GC.region ?_)))
 refine GL.val (v := (.agg #[(.int .i64 W), (.int .i64 H), (.slice (some ⟨xq3.2.2.2, 0, none⟩) n (n + 5))])) (Ex.loadA rfl T.ag43 T.sz43 (i := 6) rfl (vs := [(.int .i64 W), (.int .i64 H), (.slice (some ⟨xq3.2.2.2, 0, none⟩) n (n + 5))]) rfl rfl) (by decide) ?_
 refine GL.step (Stp.st5 (cs' := [(.int .i64 W), (.int .i64 H), (.slice (some ⟨xq3.2.2.2, 0, none⟩) n (n + 5))]) rfl rfl rfl T.sz43 rfl rfl rfl) (fun _ _ => ?_)
 refine GL.nil (GE.thenN (GC.ret ?_))
 refine GC.ret1 rfl (Rv.cellA rfl T.ag43 T.sz43 (L := _) (i := 5) rfl (vs := [(.int .i64 W), (.int .i64 H), (.slice (some ⟨xq3.2.2.2, 0, none⟩) n (n + 5))]) rfl rfl) (fun wN HN => ?_)
 exact HN.frm xq3 hq4 (by rfl) (ulC (ulC (ulC (ulC (ulC (ulS (ulS ulR)))))))

theorem room_p1 (w0 : World) (R : List Blk) (W H : Int) (rb n cap : Nat) (ad : Option Addr) (xs : List Int) (n1 b1 c1 b2 c2 : Nat) (xs1 sp1 xs2 sp2 : List Value) (w : World) (hs : Lst w0 ad n xs) (hb : n ≤ 35184372087808) (hn1 : n1 ≤ 4000000000000) (hx1 : xs1.length = n1) (hx2 : xs2.length = n1) (hc1 : (xs1 ++ sp1).length = c1 * 1) (hc2 : (xs2 ++ sp2).length = c2 * 1) (hp0 : Hp None w0 (⟨rb, [(.slice (some ⟨b1, 0, none⟩) n1 c1), (.slice (some ⟨b2, 0, none⟩) n1 c2), (.slice none 0 0), (.slice none 0 0), (.slice none 0 0), (.slice none 0 0), (.slice none 0 0), (.slice none 0 0)], 60, true⟩ :: ⟨b1, xs1 ++ sp1, 41, true⟩ :: ⟨b2, xs2 ++ sp2, 41, true⟩ :: R) w) :
  Calls Try.prog 21 #[(.pointer (some ⟨rb, 0, none⟩)), (.agg #[(.int .i64 W), (.int .i64 H), (.slice ad n cap)])] w (Frm (σ := (Nat × Nat × List Value) × (Nat × Nat × List Value) × (Nat × Nat × List Value) × Nat) None w0 (fun x => (xs1 ++ [(Value.slice (some ⟨x.2.2.2, 0, none⟩) (n + 5) (n + 5))] ++ x.2.2.1.2.2 : List Value).length = x.2.2.1.2.1 * 1 ∧ (xs2 ++ [(Value.slice (some ⟨x.2.1.1, 0, none⟩) (n + 5) x.2.1.2.1)] ++ x.1.2.2 : List Value).length = x.1.2.1 * 1) (fun x => (.agg #[(.int .i64 W), (.int .i64 H), (.slice (some ⟨x.2.2.2, 0, none⟩) n (n + 5))])) (fun x => (⟨x.1.1, xs2 ++ [(Value.slice (some ⟨x.2.1.1, 0, none⟩) (n + 5) x.2.1.2.1)] ++ x.1.2.2, 41, true⟩ :: ⟨x.2.1.1, (roomL xs).map u32 ++ x.2.1.2.2, 28, true⟩ :: ⟨x.2.2.1.1, xs1 ++ [(Value.slice (some ⟨x.2.2.2, 0, none⟩) (n + 5) (n + 5))] ++ x.2.2.1.2.2, 41, true⟩ :: ⟨x.2.2.2, (roomL xs).map u32, 28, true⟩ :: ⟨rb, [(.slice (some ⟨x.2.2.1.1, 0, none⟩) (n1 + 1) x.2.2.1.2.1), (.slice (some ⟨x.1.1, 0, none⟩) (n1 + 1) x.1.2.1), (.slice none 0 0), (.slice none 0 0), (.slice none 0 0), (.slice none 0 0), (.slice none 0 0), (.slice none 0 0)], 60, true⟩ :: R))) := by
 refine enterF (w0 := w0) (M := None) (L := (⟨rb, [(.slice (some ⟨b1, 0, none⟩) n1 c1), (.slice (some ⟨b2, 0, none⟩) n1 c2), nilS, nilS, nilS, nilS, nilS, nilS], 60, true⟩ :: ⟨b1, xs1 ++ sp1, 41, true⟩ :: ⟨b2, xs2 ++ sp2, 41, true⟩ :: R)) (n := 11) (l := [(0, (.pointer (some ⟨rb, 0, none⟩))), (1, (.agg #[(.int .i64 W), (.int .i64 H), (.slice ad n cap)]))]) Try.func21 rfl rfl (Args.cons rfl (Args.cons rfl (Args.nil _))) hp0 ?_
 refine GC.seq (GC.region ?_)
 refine GL.step (Stp.box (cs := [(.int .i64 W), (.int .i64 H), (.slice ad n cap)]) rfl rfl (by decide)) (fun bq1 _ => ?_)
 refine GL.step (Stp.alloc T.zr43 (by decide)) (fun bq2 _ => ?_)
 refine GL.nil (GE.thenN (GC.seq (GC.region ?_)))
 refine GL.mv rfl (by decide) ?_
 refine GL.val (v := (.pointer (some ⟨bq1, 2, none⟩))) (Ex.cast (Ex.fieldAddr rfl Try.underlying43 rfl T.sz41 (by decide)) rfl) (by decide) ?_
 refine GL.val (Ex.load rfl T.ag41 (i := 1) rfl rfl) (by decide) ?_
 refine GL.step (Stp.call (vs := [(.pointer (some ⟨rb, 0, none⟩)), (.slice ad n cap)]) rfl rfl T.own58 (by decide) (fun wc hw => room_s1 w0 _ rb n cap ad xs n1 b1 c1 b2 c2 xs1 sp1 xs2 sp2 wc hs hb (by first | decide | omega) (by first | rfl | omega) (by first | rfl | omega) hc1 hc2 (Hp.pickT (A := [⟨bq2, [(.int .i64 0), (.int .i64 0), nilS], 43, true⟩, ⟨bq1, [(.int .i64 W), (.int .i64 H), (.slice ad n cap)], 43, true⟩, ⟨rb, [(.slice (some ⟨b1, 0, none⟩) n1 c1), (.slice (some ⟨b2, 0, none⟩) n1 c2), nilS, nilS, nilS, nilS, nilS, nilS], 60, true⟩, ⟨b1, xs1 ++ sp1, 41, true⟩, ⟨b2, xs2 ++ sp2, 41, true⟩]) (R := R) hw (idx := [2, 3, 4, 0, 1]) (by decide) rfl))) (fun xq3 hq4 => ?_)
 refine GL.val (v := (.pointer (some ⟨bq1, 2, none⟩))) (Ex.cast (Ex.fieldAddr rfl Try.underlying43 rfl T.sz41 (by decide)) rfl) (by decide) ?_
 refine GL.step (Stp.st6 (cs' := [(.int .i64 W), (.int .i64 H), (.slice (some ⟨xq3.2.2.2, 0, none⟩) n (n + 5))]) rfl rfl rfl T.sz41 rfl rfl rfl) (fun _ _ => ?_)
 refine GL.nil (GE.thenN (GC.seq (GC.region ?_)))
 refine GL.val (v := (.agg #[(.int .i64 W), (.int .i64 H), (.slice (some ⟨xq3.2.2.2, 0, none⟩) n (n + 5))])) (Ex.loadA rfl T.ag43 T.sz43 (i := 6) rfl (vs := [(.int .i64 W), (.int .i64 H), (.slice (some ⟨xq3.2.2.2, 0, none⟩) n (n + 5))]) rfl rfl) (by decide) ?_
 refine GL.step (Stp.st5 (cs' := [(.int .i64 W), (.int .i64 H), (.slice (some ⟨xq3.2.2.2, 0, none⟩) n (n + 5))]) rfl rfl rfl T.sz43 rfl rfl rfl) (fun _ _ => ?_)
 refine GL.nil (GE.thenN (GC.ret ?_))
 refine GC.ret1 rfl (Rv.cellA rfl T.ag43 T.sz43 (L := _) (i := 5) rfl (vs := [(.int .i64 W), (.int .i64 H), (.slice (some ⟨xq3.2.2.2, 0, none⟩) n (n + 5))]) rfl rfl) (fun wN HN => ?_)
 exact HN.frm xq3 hq4 (by rfl) (ulC (ulC (ulC (ulC (ulC (ulS (ulS ulR)))))))

theorem book_s00 (w0 : World) (R : List Blk) (kb : Nat) (m : Int) (w : World) (hp0 : Hp None w0 (⟨kb, [(.slice none 0 0), (.slice none 0 0), (.slice none 0 0), (.slice none 0 0), (.slice none 0 0), (.slice none 0 0), (.slice none 0 0), (.slice none 0 0)], 57, true⟩ :: R) w) :
  Calls Try.prog 66 #[(.pointer (some ⟨kb, 0, none⟩)), (.slice none 0 0), (.int .i64 m)] w (Frm (σ := (Nat × Nat × List Value) × (Nat × Nat × List Value)) None w0 (fun x => ([(Value.slice none 0 0)] ++ x.2.2.2 : List Value).length = x.2.2.1 * 1 ∧ ([(Value.int .i64 m)] ++ x.1.2.2 : List Value).length = x.1.2.1 * 1) (fun x => .tuple #[]) (fun x => (⟨x.1.1, [(Value.int .i64 m)] ++ x.1.2.2, 3, true⟩ :: ⟨x.2.1, [(Value.slice none 0 0)] ++ x.2.2.2, 41, true⟩ :: ⟨kb, [(.slice (some ⟨x.2.1, 0, none⟩) 1 x.2.2.1), (.slice none 0 0), (.slice none 0 0), (.slice none 0 0), (.slice (some ⟨x.1.1, 0, none⟩) 1 x.1.2.1), (.slice none 0 0), (.slice none 0 0), (.slice none 0 0)], 57, true⟩ :: R))) := by
 refine enterF (w0 := w0) (M := None) (L := (⟨kb, [nilS, nilS, nilS, nilS, nilS, nilS, nilS, nilS], 57, true⟩ :: R)) (n := 46) (l := [(0, (.pointer (some ⟨kb, 0, none⟩))), (1, nilS), (2, (.int .i64 m))]) Try.func66 rfl rfl (Args.cons rfl (Args.cons rfl (Args.cons rfl (Args.nil _)))) hp0 ?_
 refine GC.seq (GC.region ?_)
 refine GL.mv rfl (by decide) ?_
 refine GL.mv rfl (by decide) ?_
 refine GL.val (v := (.int .i64 0)) (Ex.cap rfl Try.underlying41) (by decide) ?_
 refine GL.val (v := nilS) (Ex.sliceH (m := 0) rfl rfl Try.underlying41 T.sz28 rfl (Nat.le_refl _)) (by decide) ?_
 refine GL.sg rfl (by decide) ?_
 refine GL.nil (GE.thenN (GC.seq (GC.seq (GC.region ?_))))
 refine GL.sg rfl (by decide) ?_
 refine GL.nil (GE.thenN (GC.block ?_))
 refine GC.unroll 1 ?_
 refine GE.round (GC.seq (GC.seq (GC.region ?_)))
 refine GL.mv rfl (by decide) ?_
 refine GL.mv rfl (by decide) ?_
 refine GL.val (v := (.int .i64 0)) (Ex.len rfl Try.underlying41) (by decide) ?_
 refine GL.val (v := (.bool false)) (Ex.cast (Ex.lss rfl rfl) rfl) (by decide) ?_
 refine GL.nil (GE.thenN ?_)
 refine GC.cond rfl (fun hq1 => by cases hq1) (fun _ => ?_)
 refine GC.exit (GE.thenE (GE.thenE (GE.blockE (GE.thenN (GC.seq (GC.region ?_))))))
 refine GL.mv rfl (by decide) ?_
 refine GL.mv rfl (by decide) ?_
 refine GL.val (v := (.pointer (some ⟨kb, 0, none⟩))) (Ex.nilCheck rfl) (by decide) ?_
 refine GL.val (v := (.pointer (some ⟨kb, 0, none⟩))) (Ex.cast (Ex.fieldAddr rfl Try.underlying57 rfl T.sz50 (by decide)) rfl) (by decide) ?_
 refine GL.val (Ex.load rfl T.ag50 (i := 0) rfl rfl) (by decide) ?_
 refine GL.mv rfl (by decide) ?_
 refine GL.step (Stp.buildSlice (cs := [nilS]) (vs := [(0, nilS)]) Try.underlying50 T.zr41 T.sz41 rfl (by decide) (by decide) (by first | rfl | kernel_rfl) (by decide)) (fun bq2 _ => ?_)
 refine GL.step (Stp.appendNil (vs := [nilS]) rfl rfl Try.underlying50 T.sz41 T.zr41 rfl T.by41 (fun wz hz => hz.rdOf (i := 0) rfl 0) rfl (by decide) (by decide) (by decide) (by decide)) (fun xq3 hq4 => ?_)
 refine GL.val (v := (.pointer (some ⟨kb, 0, none⟩))) (Ex.nilCheck rfl) (by decide) ?_
 refine GL.val (v := (.pointer (some ⟨kb, 0, none⟩))) (Ex.cast (Ex.fieldAddr rfl Try.underlying57 rfl T.sz50 (by decide)) rfl) (by decide) ?_
 refine GL.step (Stp.st2 (cs' := [(.slice (some ⟨xq3.1, 0, none⟩) 1 xq3.2.1), nilS, nilS, nilS, nilS, nilS, nilS, nilS]) rfl rfl rfl T.sz50 rfl rfl rfl) (fun _ _ => ?_)
 refine GL.nil (GE.thenN ?_)
 refine GC.draw (⟨xq3.1, [nilS] ++ xq3.2.2, 41, true⟩ :: ⟨bq2, [nilS], 41, true⟩ :: R) T.mixed (fuel := 13) rfl rfl ?_
 refine GH.tk 0 (v := (.pointer (some ⟨kb, 0, none⟩))) rfl (by kernel_rfl) (fun _ _ _ h => h) (Ex.move rfl) (ulC (ulC (ulS ulR))) (by decide) ?_
 refine GH.tk 1 (v := (.pointer (some ⟨kb, 0, none⟩))) rfl (by kernel_rfl) (fun _ _ _ h => h) (Ex.move rfl) (ulC (ulC (ulS ulR))) (by decide) ?_
 refine GH.tk 6 (v := (.int .i64 m)) rfl (by kernel_rfl) (fun _ _ _ h => h) (Ex.move rfl) (ulC (ulC (ulS ulR))) (by decide) ?_
 refine GH.many (rs := [2, 7, 9]) (by kernel_rfl) (by simp) ?_
 refine GHs.cons rfl (Ex.wp (v := (.pointer (some ⟨kb, 0, none⟩))) (Ex.nilCheck rfl) (by decide)) (fun _ => (ulC (ulC (ulS ulR)))) (fun _ _ => ?_) ?_
 ·refine GH.tk 3 (v := (.pointer (some ⟨kb, 4, none⟩))) rfl (by kernel_rfl) (fun _ _ _ h => h) (Ex.cast (Ex.fieldAddr rfl Try.underlying57 rfl T.sz55 (by decide)) rfl) (ulC (ulC (ulS ulR))) (by decide) ?_
  refine GH.tk 4 (v := (.pointer (some ⟨kb, 4, none⟩))) rfl (by kernel_rfl) (fun _ _ _ h => h) (Ex.cast (Ex.indexArr (m := 4) rfl rfl Try.underlying55 T.sz54 (by decide) (by decide)) rfl) (ulC (ulC (ulS ulR))) (by decide) ?_
  refine GH.many (rs := [5, 7, 9]) (by kernel_rfl) (by simp) ?_
  refine GHs.cons rfl (Ex.wp (v := nilS) (Ex.load rfl T.ag54 (i := 2) rfl rfl) (by decide)) (fun _ => (ulC (ulC (ulS ulR)))) (fun _ _ => ?_) ?_
  ·refine GH.many (rs := [7, 9]) (by kernel_rfl) (by simp) ?_
   refine GHs.cons rfl (Stp.buildSlice (cs := [(.int .i64 m)]) (vs := [(0, (.int .i64 m))]) Try.underlying54 T.zr3 T.sz3 rfl (by decide) (by decide) (by first | rfl | kernel_rfl) (by decide)) (fun _ => (ulS (ulC (ulC (ulS ulR))))) (fun bq5 _ => ?_) ?_
   ·refine GH.many (rs := [8, 9]) (by kernel_rfl) (by simp) ?_
    refine GHs.cons rfl (Stp.appendNil (vs := [(.int .i64 m)]) rfl rfl Try.underlying54 T.sz3 T.zr3 rfl T.by3 (fun wz hz => hz.rdOf (i := 0) rfl 0) rfl (by decide) (by decide) (by decide) (by decide)) (fun _ => (ulS (ulS (ulC (ulC (ulS ulR)))))) (fun xq6 hq7 => ?_) ?_
    ·refine GH.one 9 rfl (by kernel_rfl) (Ex.wp (v := (.pointer (some ⟨kb, 0, none⟩))) (Ex.nilCheck rfl) (by decide)) (fun _ => (ulS (ulS (ulC (ulC (ulS ulR)))))) (fun _ _ => ?_)
     refine GH.tk 10 (v := (.pointer (some ⟨kb, 4, none⟩))) rfl (by kernel_rfl) (fun _ _ _ h => h) (Ex.cast (Ex.fieldAddr rfl Try.underlying57 rfl T.sz55 (by decide)) rfl) (ulS (ulS (ulC (ulC (ulS ulR))))) (by decide) ?_
     refine GH.tk 11 (v := (.pointer (some ⟨kb, 4, none⟩))) rfl (by kernel_rfl) (fun _ _ _ h => h) (Ex.cast (Ex.indexArr (m := 4) rfl rfl Try.underlying55 T.sz54 (by decide) (by decide)) rfl) (ulS (ulS (ulC (ulC (ulS ulR))))) (by decide) ?_
     refine GH.one 12 rfl (by kernel_rfl) (Stp.st4 (cs' := [(.slice (some ⟨xq3.1, 0, none⟩) 1 xq3.2.1), nilS, nilS, nilS, (.slice (some ⟨xq6.1, 0, none⟩) 1 xq6.2.1), nilS, nilS, nilS]) rfl rfl rfl T.sz54 rfl rfl rfl) (fun _ => (ulS (ulS (ulC (ulC (ulS ulR)))))) (fun _ _ => ?_)
     refine GH.done (by kernel_rfl) ?_
     refine GC.end0 rfl (fun wN HN => ?_)
     exact HN.frm (xq6, xq3) ⟨hq4.1, hq7.1⟩ (by rfl) (ulC (ulS (ulC (ulS (ulC ulR)))))
    refine GHs.cons rfl (Ex.wp (v := (.pointer (some ⟨kb, 0, none⟩))) (Ex.nilCheck rfl) (by decide)) (fun _ => (ulS (ulC (ulC (ulS ulR))))) (fun _ _ => ?_) ?_
    ·refine GH.tk 10 (v := (.pointer (some ⟨kb, 4, none⟩))) rfl (by kernel_rfl) (fun _ _ _ h => h) (Ex.cast (Ex.fieldAddr rfl Try.underlying57 rfl T.sz55 (by decide)) rfl) (ulS (ulC (ulC (ulS ulR)))) (by decide) ?_
     refine GH.one 8 rfl (by kernel_rfl) (Stp.appendNil (vs := [(.int .i64 m)]) rfl rfl Try.underlying54 T.sz3 T.zr3 rfl T.by3 (fun wz hz => hz.rdOf (i := 0) rfl 0) rfl (by decide) (by decide) (by decide) (by decide)) (fun _ => (ulS (ulS (ulC (ulC (ulS ulR)))))) (fun xq8 hq9 => ?_)
     refine GH.tk 11 (v := (.pointer (some ⟨kb, 4, none⟩))) rfl (by kernel_rfl) (fun _ _ _ h => h) (Ex.cast (Ex.indexArr (m := 4) rfl rfl Try.underlying55 T.sz54 (by decide) (by decide)) rfl) (ulS (ulS (ulC (ulC (ulS ulR))))) (by decide) ?_
     refine GH.one 12 rfl (by kernel_rfl) (Stp.st4 (cs' := [(.slice (some ⟨xq3.1, 0, none⟩) 1 xq3.2.1), nilS, nilS, nilS, (.slice (some ⟨xq8.1, 0, none⟩) 1 xq8.2.1), nilS, nilS, nilS]) rfl rfl rfl T.sz54 rfl rfl rfl) (fun _ => (ulS (ulS (ulC (ulC (ulS ulR)))))) (fun _ _ => ?_)
     refine GH.done (by kernel_rfl) ?_
     refine GC.end0 rfl (fun wN HN => ?_)
     exact HN.frm (xq8, xq3) ⟨hq4.1, hq9.1⟩ (by rfl) (ulC (ulS (ulC (ulS (ulC ulR)))))
    exact GHs.nil
   refine GHs.cons rfl (Ex.wp (v := (.pointer (some ⟨kb, 0, none⟩))) (Ex.nilCheck rfl) (by decide)) (fun _ => (ulC (ulC (ulS ulR)))) (fun _ _ => ?_) ?_
   ·refine GH.tk 10 (v := (.pointer (some ⟨kb, 4, none⟩))) rfl (by kernel_rfl) (fun _ _ _ h => h) (Ex.cast (Ex.fieldAddr rfl Try.underlying57 rfl T.sz55 (by decide)) rfl) (ulC (ulC (ulS ulR))) (by decide) ?_
    refine GH.one 7 rfl (by kernel_rfl) (Stp.buildSlice (cs := [(.int .i64 m)]) (vs := [(0, (.int .i64 m))]) Try.underlying54 T.zr3 T.sz3 rfl (by decide) (by decide) (by first | rfl | kernel_rfl) (by decide)) (fun _ => (ulS (ulC (ulC (ulS ulR))))) (fun bq10 _ => ?_)
    refine GH.one 8 rfl (by kernel_rfl) (Stp.appendNil (vs := [(.int .i64 m)]) rfl rfl Try.underlying54 T.sz3 T.zr3 rfl T.by3 (fun wz hz => hz.rdOf (i := 0) rfl 0) rfl (by decide) (by decide) (by decide) (by decide)) (fun _ => (ulS (ulS (ulC (ulC (ulS ulR)))))) (fun xq11 hq12 => ?_)
    refine GH.tk 11 (v := (.pointer (some ⟨kb, 4, none⟩))) rfl (by kernel_rfl) (fun _ _ _ h => h) (Ex.cast (Ex.indexArr (m := 4) rfl rfl Try.underlying55 T.sz54 (by decide) (by decide)) rfl) (ulS (ulS (ulC (ulC (ulS ulR))))) (by decide) ?_
    refine GH.one 12 rfl (by kernel_rfl) (Stp.st4 (cs' := [(.slice (some ⟨xq3.1, 0, none⟩) 1 xq3.2.1), nilS, nilS, nilS, (.slice (some ⟨xq11.1, 0, none⟩) 1 xq11.2.1), nilS, nilS, nilS]) rfl rfl rfl T.sz54 rfl rfl rfl) (fun _ => (ulS (ulS (ulC (ulC (ulS ulR)))))) (fun _ _ => ?_)
    refine GH.done (by kernel_rfl) ?_
    refine GC.end0 rfl (fun wN HN => ?_)
    exact HN.frm (xq11, xq3) ⟨hq4.1, hq12.1⟩ (by rfl) (ulC (ulS (ulC (ulS (ulC ulR)))))
   exact GHs.nil
  refine GHs.cons rfl (Stp.buildSlice (cs := [(.int .i64 m)]) (vs := [(0, (.int .i64 m))]) Try.underlying54 T.zr3 T.sz3 rfl (by decide) (by decide) (by first | rfl | kernel_rfl) (by decide)) (fun _ => (ulS (ulC (ulC (ulS ulR))))) (fun bq13 _ => ?_) ?_
  ·refine GH.many (rs := [5, 9]) (by kernel_rfl) (by simp) ?_
   refine GHs.cons rfl (Ex.wp (v := nilS) (Ex.load rfl T.ag54 (i := 3) rfl rfl) (by decide)) (fun _ => (ulS (ulC (ulC (ulS ulR))))) (fun _ _ => ?_) ?_
   ·refine GH.many (rs := [8, 9]) (by kernel_rfl) (by simp) ?_
    refine GHs.cons rfl (Stp.appendNil (vs := [(.int .i64 m)]) rfl rfl Try.underlying54 T.sz3 T.zr3 rfl T.by3 (fun wz hz => hz.rdOf (i := 0) rfl 0) rfl (by decide) (by decide) (by decide) (by decide)) (fun _ => (ulS (ulS (ulC (ulC (ulS ulR)))))) (fun xq14 hq15 => ?_) ?_
    ·refine GH.one 9 rfl (by kernel_rfl) (Ex.wp (v := (.pointer (some ⟨kb, 0, none⟩))) (Ex.nilCheck rfl) (by decide)) (fun _ => (ulS (ulS (ulC (ulC (ulS ulR)))))) (fun _ _ => ?_)
     refine GH.tk 10 (v := (.pointer (some ⟨kb, 4, none⟩))) rfl (by kernel_rfl) (fun _ _ _ h => h) (Ex.cast (Ex.fieldAddr rfl Try.underlying57 rfl T.sz55 (by decide)) rfl) (ulS (ulS (ulC (ulC (ulS ulR))))) (by decide) ?_
     refine GH.tk 11 (v := (.pointer (some ⟨kb, 4, none⟩))) rfl (by kernel_rfl) (fun _ _ _ h => h) (Ex.cast (Ex.indexArr (m := 4) rfl rfl Try.underlying55 T.sz54 (by decide) (by decide)) rfl) (ulS (ulS (ulC (ulC (ulS ulR))))) (by decide) ?_
     refine GH.one 12 rfl (by kernel_rfl) (Stp.st4 (cs' := [(.slice (some ⟨xq3.1, 0, none⟩) 1 xq3.2.1), nilS, nilS, nilS, (.slice (some ⟨xq14.1, 0, none⟩) 1 xq14.2.1), nilS, nilS, nilS]) rfl rfl rfl T.sz54 rfl rfl rfl) (fun _ => (ulS (ulS (ulC (ulC (ulS ulR)))))) (fun _ _ => ?_)
     refine GH.done (by kernel_rfl) ?_
     refine GC.end0 rfl (fun wN HN => ?_)
     exact HN.frm (xq14, xq3) ⟨hq4.1, hq15.1⟩ (by rfl) (ulC (ulS (ulC (ulS (ulC ulR)))))
    refine GHs.cons rfl (Ex.wp (v := (.pointer (some ⟨kb, 0, none⟩))) (Ex.nilCheck rfl) (by decide)) (fun _ => (ulS (ulC (ulC (ulS ulR))))) (fun _ _ => ?_) ?_
    ·refine GH.tk 10 (v := (.pointer (some ⟨kb, 4, none⟩))) rfl (by kernel_rfl) (fun _ _ _ h => h) (Ex.cast (Ex.fieldAddr rfl Try.underlying57 rfl T.sz55 (by decide)) rfl) (ulS (ulC (ulC (ulS ulR)))) (by decide) ?_
     refine GH.one 8 rfl (by kernel_rfl) (Stp.appendNil (vs := [(.int .i64 m)]) rfl rfl Try.underlying54 T.sz3 T.zr3 rfl T.by3 (fun wz hz => hz.rdOf (i := 0) rfl 0) rfl (by decide) (by decide) (by decide) (by decide)) (fun _ => (ulS (ulS (ulC (ulC (ulS ulR)))))) (fun xq16 hq17 => ?_)
     refine GH.tk 11 (v := (.pointer (some ⟨kb, 4, none⟩))) rfl (by kernel_rfl) (fun _ _ _ h => h) (Ex.cast (Ex.indexArr (m := 4) rfl rfl Try.underlying55 T.sz54 (by decide) (by decide)) rfl) (ulS (ulS (ulC (ulC (ulS ulR))))) (by decide) ?_
     refine GH.one 12 rfl (by kernel_rfl) (Stp.st4 (cs' := [(.slice (some ⟨xq3.1, 0, none⟩) 1 xq3.2.1), nilS, nilS, nilS, (.slice (some ⟨xq16.1, 0, none⟩) 1 xq16.2.1), nilS, nilS, nilS]) rfl rfl rfl T.sz54 rfl rfl rfl) (fun _ => (ulS (ulS (ulC (ulC (ulS ulR)))))) (fun _ _ => ?_)
     refine GH.done (by kernel_rfl) ?_
     refine GC.end0 rfl (fun wN HN => ?_)
     exact HN.frm (xq16, xq3) ⟨hq4.1, hq17.1⟩ (by rfl) (ulC (ulS (ulC (ulS (ulC ulR)))))
    exact GHs.nil
   refine GHs.cons rfl (Ex.wp (v := (.pointer (some ⟨kb, 0, none⟩))) (Ex.nilCheck rfl) (by decide)) (fun _ => (ulS (ulC (ulC (ulS ulR))))) (fun _ _ => ?_) ?_
   ·refine GH.tk 10 (v := (.pointer (some ⟨kb, 4, none⟩))) rfl (by kernel_rfl) (fun _ _ _ h => h) (Ex.cast (Ex.fieldAddr rfl Try.underlying57 rfl T.sz55 (by decide)) rfl) (ulS (ulC (ulC (ulS ulR)))) (by decide) ?_
    refine GH.one 5 rfl (by kernel_rfl) (Ex.wp (v := nilS) (Ex.load rfl T.ag54 (i := 3) rfl rfl) (by decide)) (fun _ => (ulS (ulC (ulC (ulS ulR))))) (fun _ _ => ?_)
    refine GH.one 8 rfl (by kernel_rfl) (Stp.appendNil (vs := [(.int .i64 m)]) rfl rfl Try.underlying54 T.sz3 T.zr3 rfl T.by3 (fun wz hz => hz.rdOf (i := 0) rfl 0) rfl (by decide) (by decide) (by decide) (by decide)) (fun _ => (ulS (ulS (ulC (ulC (ulS ulR)))))) (fun xq18 hq19 => ?_)
    refine GH.tk 11 (v := (.pointer (some ⟨kb, 4, none⟩))) rfl (by kernel_rfl) (fun _ _ _ h => h) (Ex.cast (Ex.indexArr (m := 4) rfl rfl Try.underlying55 T.sz54 (by decide) (by decide)) rfl) (ulS (ulS (ulC (ulC (ulS ulR))))) (by decide) ?_
    refine GH.one 12 rfl (by kernel_rfl) (Stp.st4 (cs' := [(.slice (some ⟨xq3.1, 0, none⟩) 1 xq3.2.1), nilS, nilS, nilS, (.slice (some ⟨xq18.1, 0, none⟩) 1 xq18.2.1), nilS, nilS, nilS]) rfl rfl rfl T.sz54 rfl rfl rfl) (fun _ => (ulS (ulS (ulC (ulC (ulS ulR)))))) (fun _ _ => ?_)
    refine GH.done (by kernel_rfl) ?_
    refine GC.end0 rfl (fun wN HN => ?_)
    exact HN.frm (xq18, xq3) ⟨hq4.1, hq19.1⟩ (by rfl) (ulC (ulS (ulC (ulS (ulC ulR)))))
   exact GHs.nil
  refine GHs.cons rfl (Ex.wp (v := (.pointer (some ⟨kb, 0, none⟩))) (Ex.nilCheck rfl) (by decide)) (fun _ => (ulC (ulC (ulS ulR)))) (fun _ _ => ?_) ?_
  ·refine GH.tk 10 (v := (.pointer (some ⟨kb, 4, none⟩))) rfl (by kernel_rfl) (fun _ _ _ h => h) (Ex.cast (Ex.fieldAddr rfl Try.underlying57 rfl T.sz55 (by decide)) rfl) (ulC (ulC (ulS ulR))) (by decide) ?_
   refine GH.many (rs := [5, 7]) (by kernel_rfl) (by simp) ?_
   refine GHs.cons rfl (Ex.wp (v := nilS) (Ex.load rfl T.ag54 (i := 2) rfl rfl) (by decide)) (fun _ => (ulC (ulC (ulS ulR)))) (fun _ _ => ?_) ?_
   ·refine GH.one 7 rfl (by kernel_rfl) (Stp.buildSlice (cs := [(.int .i64 m)]) (vs := [(0, (.int .i64 m))]) Try.underlying54 T.zr3 T.sz3 rfl (by decide) (by decide) (by first | rfl | kernel_rfl) (by decide)) (fun _ => (ulS (ulC (ulC (ulS ulR))))) (fun bq20 _ => ?_)
    refine GH.one 8 rfl (by kernel_rfl) (Stp.appendNil (vs := [(.int .i64 m)]) rfl rfl Try.underlying54 T.sz3 T.zr3 rfl T.by3 (fun wz hz => hz.rdOf (i := 0) rfl 0) rfl (by decide) (by decide) (by decide) (by decide)) (fun _ => (ulS (ulS (ulC (ulC (ulS ulR)))))) (fun xq21 hq22 => ?_)
    refine GH.tk 11 (v := (.pointer (some ⟨kb, 4, none⟩))) rfl (by kernel_rfl) (fun _ _ _ h => h) (Ex.cast (Ex.indexArr (m := 4) rfl rfl Try.underlying55 T.sz54 (by decide) (by decide)) rfl) (ulS (ulS (ulC (ulC (ulS ulR))))) (by decide) ?_
    refine GH.one 12 rfl (by kernel_rfl) (Stp.st4 (cs' := [(.slice (some ⟨xq3.1, 0, none⟩) 1 xq3.2.1), nilS, nilS, nilS, (.slice (some ⟨xq21.1, 0, none⟩) 1 xq21.2.1), nilS, nilS, nilS]) rfl rfl rfl T.sz54 rfl rfl rfl) (fun _ => (ulS (ulS (ulC (ulC (ulS ulR)))))) (fun _ _ => ?_)
    refine GH.done (by kernel_rfl) ?_
    refine GC.end0 rfl (fun wN HN => ?_)
    exact HN.frm (xq21, xq3) ⟨hq4.1, hq22.1⟩ (by rfl) (ulC (ulS (ulC (ulS (ulC ulR)))))
   refine GHs.cons rfl (Stp.buildSlice (cs := [(.int .i64 m)]) (vs := [(0, (.int .i64 m))]) Try.underlying54 T.zr3 T.sz3 rfl (by decide) (by decide) (by first | rfl | kernel_rfl) (by decide)) (fun _ => (ulS (ulC (ulC (ulS ulR))))) (fun bq23 _ => ?_) ?_
   ·refine GH.one 5 rfl (by kernel_rfl) (Ex.wp (v := nilS) (Ex.load rfl T.ag54 (i := 3) rfl rfl) (by decide)) (fun _ => (ulS (ulC (ulC (ulS ulR))))) (fun _ _ => ?_)
    refine GH.one 8 rfl (by kernel_rfl) (Stp.appendNil (vs := [(.int .i64 m)]) rfl rfl Try.underlying54 T.sz3 T.zr3 rfl T.by3 (fun wz hz => hz.rdOf (i := 0) rfl 0) rfl (by decide) (by decide) (by decide) (by decide)) (fun _ => (ulS (ulS (ulC (ulC (ulS ulR)))))) (fun xq24 hq25 => ?_)
    refine GH.tk 11 (v := (.pointer (some ⟨kb, 4, none⟩))) rfl (by kernel_rfl) (fun _ _ _ h => h) (Ex.cast (Ex.indexArr (m := 4) rfl rfl Try.underlying55 T.sz54 (by decide) (by decide)) rfl) (ulS (ulS (ulC (ulC (ulS ulR))))) (by decide) ?_
    refine GH.one 12 rfl (by kernel_rfl) (Stp.st4 (cs' := [(.slice (some ⟨xq3.1, 0, none⟩) 1 xq3.2.1), nilS, nilS, nilS, (.slice (some ⟨xq24.1, 0, none⟩) 1 xq24.2.1), nilS, nilS, nilS]) rfl rfl rfl T.sz54 rfl rfl rfl) (fun _ => (ulS (ulS (ulC (ulC (ulS ulR)))))) (fun _ _ => ?_)
    refine GH.done (by kernel_rfl) ?_
    refine GC.end0 rfl (fun wN HN => ?_)
    exact HN.frm (xq24, xq3) ⟨hq4.1, hq25.1⟩ (by rfl) (ulC (ulS (ulC (ulS (ulC ulR)))))
   exact GHs.nil
  exact GHs.nil
 refine GHs.cons rfl (Stp.buildSlice (cs := [(.int .i64 m)]) (vs := [(0, (.int .i64 m))]) Try.underlying54 T.zr3 T.sz3 rfl (by decide) (by decide) (by first | rfl | kernel_rfl) (by decide)) (fun _ => (ulS (ulC (ulC (ulS ulR))))) (fun bq26 _ => ?_) ?_
 ·refine GH.many (rs := [2, 9]) (by kernel_rfl) (by simp) ?_
  refine GHs.cons rfl (Ex.wp (v := (.pointer (some ⟨kb, 0, none⟩))) (Ex.nilCheck rfl) (by decide)) (fun _ => (ulS (ulC (ulC (ulS ulR))))) (fun _ _ => ?_) ?_
  ·refine GH.tk 3 (v := (.pointer (some ⟨kb, 4, none⟩))) rfl (by kernel_rfl) (fun _ _ _ h => h) (Ex.cast (Ex.fieldAddr rfl Try.underlying57 rfl T.sz55 (by decide)) rfl) (ulS (ulC (ulC (ulS ulR)))) (by decide) ?_
   refine GH.tk 4 (v := (.pointer (some ⟨kb, 4, none⟩))) rfl (by kernel_rfl) (fun _ _ _ h => h) (Ex.cast (Ex.indexArr (m := 4) rfl rfl Try.underlying55 T.sz54 (by decide) (by decide)) rfl) (ulS (ulC (ulC (ulS ulR)))) (by decide) ?_
   refine GH.many (rs := [5, 9]) (by kernel_rfl) (by simp) ?_
   refine GHs.cons rfl (Ex.wp (v := nilS) (Ex.load rfl T.ag54 (i := 3) rfl rfl) (by decide)) (fun _ => (ulS (ulC (ulC (ulS ulR))))) (fun _ _ => ?_) ?_
   ·refine GH.many (rs := [8, 9]) (by kernel_rfl) (by simp) ?_
    refine GHs.cons rfl (Stp.appendNil (vs := [(.int .i64 m)]) rfl rfl Try.underlying54 T.sz3 T.zr3 rfl T.by3 (fun wz hz => hz.rdOf (i := 0) rfl 0) rfl (by decide) (by decide) (by decide) (by decide)) (fun _ => (ulS (ulS (ulC (ulC (ulS ulR)))))) (fun xq27 hq28 => ?_) ?_
    ·refine GH.one 9 rfl (by kernel_rfl) (Ex.wp (v := (.pointer (some ⟨kb, 0, none⟩))) (Ex.nilCheck rfl) (by decide)) (fun _ => (ulS (ulS (ulC (ulC (ulS ulR)))))) (fun _ _ => ?_)
     refine GH.tk 10 (v := (.pointer (some ⟨kb, 4, none⟩))) rfl (by kernel_rfl) (fun _ _ _ h => h) (Ex.cast (Ex.fieldAddr rfl Try.underlying57 rfl T.sz55 (by decide)) rfl) (ulS (ulS (ulC (ulC (ulS ulR))))) (by decide) ?_
     refine GH.tk 11 (v := (.pointer (some ⟨kb, 4, none⟩))) rfl (by kernel_rfl) (fun _ _ _ h => h) (Ex.cast (Ex.indexArr (m := 4) rfl rfl Try.underlying55 T.sz54 (by decide) (by decide)) rfl) (ulS (ulS (ulC (ulC (ulS ulR))))) (by decide) ?_
     refine GH.one 12 rfl (by kernel_rfl) (Stp.st4 (cs' := [(.slice (some ⟨xq3.1, 0, none⟩) 1 xq3.2.1), nilS, nilS, nilS, (.slice (some ⟨xq27.1, 0, none⟩) 1 xq27.2.1), nilS, nilS, nilS]) rfl rfl rfl T.sz54 rfl rfl rfl) (fun _ => (ulS (ulS (ulC (ulC (ulS ulR)))))) (fun _ _ => ?_)
     refine GH.done (by kernel_rfl) ?_
     refine GC.end0 rfl (fun wN HN => ?_)
     exact HN.frm (xq27, xq3) ⟨hq4.1, hq28.1⟩ (by rfl) (ulC (ulS (ulC (ulS (ulC ulR)))))
    refine GHs.cons rfl (Ex.wp (v := (.pointer (some ⟨kb, 0, none⟩))) (Ex.nilCheck rfl) (by decide)) (fun _ => (ulS (ulC (ulC (ulS ulR))))) (fun _ _ => ?_) ?_
    ·refine GH.tk 10 (v := (.pointer (some ⟨kb, 4, none⟩))) rfl (by kernel_rfl) (fun _ _ _ h => h) (Ex.cast (Ex.fieldAddr rfl Try.underlying57 rfl T.sz55 (by decide)) rfl) (ulS (ulC (ulC (ulS ulR)))) (by decide) ?_
     refine GH.one 8 rfl (by kernel_rfl) (Stp.appendNil (vs := [(.int .i64 m)]) rfl rfl Try.underlying54 T.sz3 T.zr3 rfl T.by3 (fun wz hz => hz.rdOf (i := 0) rfl 0) rfl (by decide) (by decide) (by decide) (by decide)) (fun _ => (ulS (ulS (ulC (ulC (ulS ulR)))))) (fun xq29 hq30 => ?_)
     refine GH.tk 11 (v := (.pointer (some ⟨kb, 4, none⟩))) rfl (by kernel_rfl) (fun _ _ _ h => h) (Ex.cast (Ex.indexArr (m := 4) rfl rfl Try.underlying55 T.sz54 (by decide) (by decide)) rfl) (ulS (ulS (ulC (ulC (ulS ulR))))) (by decide) ?_
     refine GH.one 12 rfl (by kernel_rfl) (Stp.st4 (cs' := [(.slice (some ⟨xq3.1, 0, none⟩) 1 xq3.2.1), nilS, nilS, nilS, (.slice (some ⟨xq29.1, 0, none⟩) 1 xq29.2.1), nilS, nilS, nilS]) rfl rfl rfl T.sz54 rfl rfl rfl) (fun _ => (ulS (ulS (ulC (ulC (ulS ulR)))))) (fun _ _ => ?_)
     refine GH.done (by kernel_rfl) ?_
     refine GC.end0 rfl (fun wN HN => ?_)
     exact HN.frm (xq29, xq3) ⟨hq4.1, hq30.1⟩ (by rfl) (ulC (ulS (ulC (ulS (ulC ulR)))))
    exact GHs.nil
   refine GHs.cons rfl (Ex.wp (v := (.pointer (some ⟨kb, 0, none⟩))) (Ex.nilCheck rfl) (by decide)) (fun _ => (ulS (ulC (ulC (ulS ulR))))) (fun _ _ => ?_) ?_
   ·refine GH.tk 10 (v := (.pointer (some ⟨kb, 4, none⟩))) rfl (by kernel_rfl) (fun _ _ _ h => h) (Ex.cast (Ex.fieldAddr rfl Try.underlying57 rfl T.sz55 (by decide)) rfl) (ulS (ulC (ulC (ulS ulR)))) (by decide) ?_
    refine GH.one 5 rfl (by kernel_rfl) (Ex.wp (v := nilS) (Ex.load rfl T.ag54 (i := 3) rfl rfl) (by decide)) (fun _ => (ulS (ulC (ulC (ulS ulR))))) (fun _ _ => ?_)
    refine GH.one 8 rfl (by kernel_rfl) (Stp.appendNil (vs := [(.int .i64 m)]) rfl rfl Try.underlying54 T.sz3 T.zr3 rfl T.by3 (fun wz hz => hz.rdOf (i := 0) rfl 0) rfl (by decide) (by decide) (by decide) (by decide)) (fun _ => (ulS (ulS (ulC (ulC (ulS ulR)))))) (fun xq31 hq32 => ?_)
    refine GH.tk 11 (v := (.pointer (some ⟨kb, 4, none⟩))) rfl (by kernel_rfl) (fun _ _ _ h => h) (Ex.cast (Ex.indexArr (m := 4) rfl rfl Try.underlying55 T.sz54 (by decide) (by decide)) rfl) (ulS (ulS (ulC (ulC (ulS ulR))))) (by decide) ?_
    refine GH.one 12 rfl (by kernel_rfl) (Stp.st4 (cs' := [(.slice (some ⟨xq3.1, 0, none⟩) 1 xq3.2.1), nilS, nilS, nilS, (.slice (some ⟨xq31.1, 0, none⟩) 1 xq31.2.1), nilS, nilS, nilS]) rfl rfl rfl T.sz54 rfl rfl rfl) (fun _ => (ulS (ulS (ulC (ulC (ulS ulR)))))) (fun _ _ => ?_)
    refine GH.done (by kernel_rfl) ?_
    refine GC.end0 rfl (fun wN HN => ?_)
    exact HN.frm (xq31, xq3) ⟨hq4.1, hq32.1⟩ (by rfl) (ulC (ulS (ulC (ulS (ulC ulR)))))
   exact GHs.nil
  refine GHs.cons rfl (Ex.wp (v := (.pointer (some ⟨kb, 0, none⟩))) (Ex.nilCheck rfl) (by decide)) (fun _ => (ulS (ulC (ulC (ulS ulR))))) (fun _ _ => ?_) ?_
  ·refine GH.tk 10 (v := (.pointer (some ⟨kb, 4, none⟩))) rfl (by kernel_rfl) (fun _ _ _ h => h) (Ex.cast (Ex.fieldAddr rfl Try.underlying57 rfl T.sz55 (by decide)) rfl) (ulS (ulC (ulC (ulS ulR)))) (by decide) ?_
   refine GH.one 2 rfl (by kernel_rfl) (Ex.wp (v := (.pointer (some ⟨kb, 0, none⟩))) (Ex.nilCheck rfl) (by decide)) (fun _ => (ulS (ulC (ulC (ulS ulR))))) (fun _ _ => ?_)
   refine GH.tk 3 (v := (.pointer (some ⟨kb, 4, none⟩))) rfl (by kernel_rfl) (fun _ _ _ h => h) (Ex.cast (Ex.fieldAddr rfl Try.underlying57 rfl T.sz55 (by decide)) rfl) (ulS (ulC (ulC (ulS ulR)))) (by decide) ?_
   refine GH.tk 4 (v := (.pointer (some ⟨kb, 4, none⟩))) rfl (by kernel_rfl) (fun _ _ _ h => h) (Ex.cast (Ex.indexArr (m := 4) rfl rfl Try.underlying55 T.sz54 (by decide) (by decide)) rfl) (ulS (ulC (ulC (ulS ulR)))) (by decide) ?_
   refine GH.one 5 rfl (by kernel_rfl) (Ex.wp (v := nilS) (Ex.load rfl T.ag54 (i := 3) rfl rfl) (by decide)) (fun _ => (ulS (ulC (ulC (ulS ulR))))) (fun _ _ => ?_)
   refine GH.one 8 rfl (by kernel_rfl) (Stp.appendNil (vs := [(.int .i64 m)]) rfl rfl Try.underlying54 T.sz3 T.zr3 rfl T.by3 (fun wz hz => hz.rdOf (i := 0) rfl 0) rfl (by decide) (by decide) (by decide) (by decide)) (fun _ => (ulS (ulS (ulC (ulC (ulS ulR)))))) (fun xq33 hq34 => ?_)
   refine GH.tk 11 (v := (.pointer (some ⟨kb, 4, none⟩))) rfl (by kernel_rfl) (fun _ _ _ h => h) (Ex.cast (Ex.indexArr (m := 4) rfl rfl Try.underlying55 T.sz54 (by decide) (by decide)) rfl) (ulS (ulS (ulC (ulC (ulS ulR))))) (by decide) ?_
   refine GH.one 12 rfl (by kernel_rfl) (Stp.st4 (cs' := [(.slice (some ⟨xq3.1, 0, none⟩) 1 xq3.2.1), nilS, nilS, nilS, (.slice (some ⟨xq33.1, 0, none⟩) 1 xq33.2.1), nilS, nilS, nilS]) rfl rfl rfl T.sz54 rfl rfl rfl) (fun _ => (ulS (ulS (ulC (ulC (ulS ulR)))))) (fun _ _ => ?_)
   refine GH.done (by kernel_rfl) ?_
   refine GC.end0 rfl (fun wN HN => ?_)
   exact HN.frm (xq33, xq3) ⟨hq4.1, hq34.1⟩ (by rfl) (ulC (ulS (ulC (ulS (ulC ulR)))))
  exact GHs.nil
 refine GHs.cons rfl (Ex.wp (v := (.pointer (some ⟨kb, 0, none⟩))) (Ex.nilCheck rfl) (by decide)) (fun _ => (ulC (ulC (ulS ulR)))) (fun _ _ => ?_) ?_
 ·refine GH.tk 10 (v := (.pointer (some ⟨kb, 4, none⟩))) rfl (by kernel_rfl) (fun _ _ _ h => h) (Ex.cast (Ex.fieldAddr rfl Try.underlying57 rfl T.sz55 (by decide)) rfl) (ulC (ulC (ulS ulR))) (by decide) ?_
  refine GH.many (rs := [2, 7]) (by kernel_rfl) (by simp) ?_
  refine GHs.cons rfl (Ex.wp (v := (.pointer (some ⟨kb, 0, none⟩))) (Ex.nilCheck rfl) (by decide)) (fun _ => (ulC (ulC (ulS ulR)))) (fun _ _ => ?_) ?_
  ·refine GH.tk 3 (v := (.pointer (some ⟨kb, 4, none⟩))) rfl (by kernel_rfl) (fun _ _ _ h => h) (Ex.cast (Ex.fieldAddr rfl Try.underlying57 rfl T.sz55 (by decide)) rfl) (ulC (ulC (ulS ulR))) (by decide) ?_
   refine GH.tk 4 (v := (.pointer (some ⟨kb, 4, none⟩))) rfl (by kernel_rfl) (fun _ _ _ h => h) (Ex.cast (Ex.indexArr (m := 4) rfl rfl Try.underlying55 T.sz54 (by decide) (by decide)) rfl) (ulC (ulC (ulS ulR))) (by decide) ?_
   refine GH.many (rs := [5, 7]) (by kernel_rfl) (by simp) ?_
   refine GHs.cons rfl (Ex.wp (v := nilS) (Ex.load rfl T.ag54 (i := 2) rfl rfl) (by decide)) (fun _ => (ulC (ulC (ulS ulR)))) (fun _ _ => ?_) ?_
   ·refine GH.one 7 rfl (by kernel_rfl) (Stp.buildSlice (cs := [(.int .i64 m)]) (vs := [(0, (.int .i64 m))]) Try.underlying54 T.zr3 T.sz3 rfl (by decide) (by decide) (by first | rfl | kernel_rfl) (by decide)) (fun _ => (ulS (ulC (ulC (ulS ulR))))) (fun bq35 _ => ?_)
    refine GH.one 8 rfl (by kernel_rfl) (Stp.appendNil (vs := [(.int .i64 m)]) rfl rfl Try.underlying54 T.sz3 T.zr3 rfl T.by3 (fun wz hz => hz.rdOf (i := 0) rfl 0) rfl (by decide) (by decide) (by decide) (by decide)) (fun _ => (ulS (ulS (ulC (ulC (ulS ulR)))))) (fun xq36 hq37 => ?_)
    refine GH.tk 11 (v := (.pointer (some ⟨kb, 4, none⟩))) rfl (by kernel_rfl) (fun _ _ _ h => h) (Ex.cast (Ex.indexArr (m := 4) rfl rfl Try.underlying55 T.sz54 (by decide) (by decide)) rfl) (ulS (ulS (ulC (ulC (ulS ulR))))) (by decide) ?_
    refine GH.one 12 rfl (by kernel_rfl) (Stp.st4 (cs' := [(.slice (some ⟨xq3.1, 0, none⟩) 1 xq3.2.1), nilS, nilS, nilS, (.slice (some ⟨xq36.1, 0, none⟩) 1 xq36.2.1), nilS, nilS, nilS]) rfl rfl rfl T.sz54 rfl rfl rfl) (fun _ => (ulS (ulS (ulC (ulC (ulS ulR)))))) (fun _ _ => ?_)
    refine GH.done (by kernel_rfl) ?_
    refine GC.end0 rfl (fun wN HN => ?_)
    exact HN.frm (xq36, xq3) ⟨hq4.1, hq37.1⟩ (by rfl) (ulC (ulS (ulC (ulS (ulC ulR)))))
   refine GHs.cons rfl (Stp.buildSlice (cs := [(.int .i64 m)]) (vs := [(0, (.int .i64 m))]) Try.underlying54 T.zr3 T.sz3 rfl (by decide) (by decide) (by first | rfl | kernel_rfl) (by decide)) (fun _ => (ulS (ulC (ulC (ulS ulR))))) (fun bq38 _ => ?_) ?_
   ·refine GH.one 5 rfl (by kernel_rfl) (Ex.wp (v := nilS) (Ex.load rfl T.ag54 (i := 3) rfl rfl) (by decide)) (fun _ => (ulS (ulC (ulC (ulS ulR))))) (fun _ _ => ?_)
    refine GH.one 8 rfl (by kernel_rfl) (Stp.appendNil (vs := [(.int .i64 m)]) rfl rfl Try.underlying54 T.sz3 T.zr3 rfl T.by3 (fun wz hz => hz.rdOf (i := 0) rfl 0) rfl (by decide) (by decide) (by decide) (by decide)) (fun _ => (ulS (ulS (ulC (ulC (ulS ulR)))))) (fun xq39 hq40 => ?_)
    refine GH.tk 11 (v := (.pointer (some ⟨kb, 4, none⟩))) rfl (by kernel_rfl) (fun _ _ _ h => h) (Ex.cast (Ex.indexArr (m := 4) rfl rfl Try.underlying55 T.sz54 (by decide) (by decide)) rfl) (ulS (ulS (ulC (ulC (ulS ulR))))) (by decide) ?_
    refine GH.one 12 rfl (by kernel_rfl) (Stp.st4 (cs' := [(.slice (some ⟨xq3.1, 0, none⟩) 1 xq3.2.1), nilS, nilS, nilS, (.slice (some ⟨xq39.1, 0, none⟩) 1 xq39.2.1), nilS, nilS, nilS]) rfl rfl rfl T.sz54 rfl rfl rfl) (fun _ => (ulS (ulS (ulC (ulC (ulS ulR)))))) (fun _ _ => ?_)
    refine GH.done (by kernel_rfl) ?_
    refine GC.end0 rfl (fun wN HN => ?_)
    exact HN.frm (xq39, xq3) ⟨hq4.1, hq40.1⟩ (by rfl) (ulC (ulS (ulC (ulS (ulC ulR)))))
   exact GHs.nil
  refine GHs.cons rfl (Stp.buildSlice (cs := [(.int .i64 m)]) (vs := [(0, (.int .i64 m))]) Try.underlying54 T.zr3 T.sz3 rfl (by decide) (by decide) (by first | rfl | kernel_rfl) (by decide)) (fun _ => (ulS (ulC (ulC (ulS ulR))))) (fun bq41 _ => ?_) ?_
  ·refine GH.one 2 rfl (by kernel_rfl) (Ex.wp (v := (.pointer (some ⟨kb, 0, none⟩))) (Ex.nilCheck rfl) (by decide)) (fun _ => (ulS (ulC (ulC (ulS ulR))))) (fun _ _ => ?_)
   refine GH.tk 3 (v := (.pointer (some ⟨kb, 4, none⟩))) rfl (by kernel_rfl) (fun _ _ _ h => h) (Ex.cast (Ex.fieldAddr rfl Try.underlying57 rfl T.sz55 (by decide)) rfl) (ulS (ulC (ulC (ulS ulR)))) (by decide) ?_
   refine GH.tk 4 (v := (.pointer (some ⟨kb, 4, none⟩))) rfl (by kernel_rfl) (fun _ _ _ h => h) (Ex.cast (Ex.indexArr (m := 4) rfl rfl Try.underlying55 T.sz54 (by decide) (by decide)) rfl) (ulS (ulC (ulC (ulS ulR)))) (by decide) ?_
   refine GH.one 5 rfl (by kernel_rfl) (Ex.wp (v := nilS) (Ex.load rfl T.ag54 (i := 3) rfl rfl) (by decide)) (fun _ => (ulS (ulC (ulC (ulS ulR))))) (fun _ _ => ?_)
   refine GH.one 8 rfl (by kernel_rfl) (Stp.appendNil (vs := [(.int .i64 m)]) rfl rfl Try.underlying54 T.sz3 T.zr3 rfl T.by3 (fun wz hz => hz.rdOf (i := 0) rfl 0) rfl (by decide) (by decide) (by decide) (by decide)) (fun _ => (ulS (ulS (ulC (ulC (ulS ulR)))))) (fun xq42 hq43 => ?_)
   refine GH.tk 11 (v := (.pointer (some ⟨kb, 4, none⟩))) rfl (by kernel_rfl) (fun _ _ _ h => h) (Ex.cast (Ex.indexArr (m := 4) rfl rfl Try.underlying55 T.sz54 (by decide) (by decide)) rfl) (ulS (ulS (ulC (ulC (ulS ulR))))) (by decide) ?_
   refine GH.one 12 rfl (by kernel_rfl) (Stp.st4 (cs' := [(.slice (some ⟨xq3.1, 0, none⟩) 1 xq3.2.1), nilS, nilS, nilS, (.slice (some ⟨xq42.1, 0, none⟩) 1 xq42.2.1), nilS, nilS, nilS]) rfl rfl rfl T.sz54 rfl rfl rfl) (fun _ => (ulS (ulS (ulC (ulC (ulS ulR)))))) (fun _ _ => ?_)
   refine GH.done (by kernel_rfl) ?_
   refine GC.end0 rfl (fun wN HN => ?_)
   exact HN.frm (xq42, xq3) ⟨hq4.1, hq43.1⟩ (by rfl) (ulC (ulS (ulC (ulS (ulC ulR)))))
  exact GHs.nil
 exact GHs.nil

theorem book_p00 (w0 : World) (R : List Blk) (W H : Int) (kb : Nat) (m : Int) (w : World) (hp0 : Hp None w0 (⟨kb, [(.slice none 0 0), (.slice none 0 0), (.slice none 0 0), (.slice none 0 0), (.slice none 0 0), (.slice none 0 0), (.slice none 0 0), (.slice none 0 0)], 57, true⟩ :: R) w) :
  Calls Try.prog 28 #[(.pointer (some ⟨kb, 0, none⟩)), (.agg #[(.int .i64 W), (.int .i64 H), (.slice none 0 0)]), (.int .i64 m)] w (Frm (σ := (Nat × Nat × List Value) × (Nat × Nat × List Value)) None w0 (fun x => ([(Value.slice none 0 0)] ++ x.2.2.2 : List Value).length = x.2.2.1 * 1 ∧ ([(Value.int .i64 m)] ++ x.1.2.2 : List Value).length = x.1.2.1 * 1) (fun x => .tuple #[]) (fun x => (⟨x.1.1, [(Value.int .i64 m)] ++ x.1.2.2, 3, true⟩ :: ⟨x.2.1, [(Value.slice none 0 0)] ++ x.2.2.2, 41, true⟩ :: ⟨kb, [(.slice (some ⟨x.2.1, 0, none⟩) 1 x.2.2.1), (.slice none 0 0), (.slice none 0 0), (.slice none 0 0), (.slice (some ⟨x.1.1, 0, none⟩) 1 x.1.2.1), (.slice none 0 0), (.slice none 0 0), (.slice none 0 0)], 57, true⟩ :: R))) := by
 refine enterF (w0 := w0) (M := None) (L := (⟨kb, [nilS, nilS, nilS, nilS, nilS, nilS, nilS, nilS], 57, true⟩ :: R)) (n := 11) (l := [(0, (.pointer (some ⟨kb, 0, none⟩))), (1, (.agg #[(.int .i64 W), (.int .i64 H), nilS])), (2, (.int .i64 m))]) Try.func28 rfl rfl (Args.cons rfl (Args.cons rfl (Args.cons rfl (Args.nil _)))) hp0 ?_
 refine GC.seq (GC.region ?_)
 refine GL.step (Stp.box (cs := [(.int .i64 W), (.int .i64 H), nilS]) rfl rfl (by decide)) (fun bq1 _ => ?_)
 refine GL.nil (GE.thenN (GC.region ?_))
 refine GL.mv rfl (by decide) ?_
 refine GL.val (v := (.pointer (some ⟨bq1, 2, none⟩))) (Ex.cast (Ex.fieldAddr rfl Try.underlying43 rfl T.sz41 (by decide)) rfl) (by decide) ?_
 refine GL.val (Ex.load rfl T.ag41 (i := 0) rfl rfl) (by decide) ?_
 refine GL.mv rfl (by decide) ?_
 refine GL.step (Stp.call (vs := [(.pointer (some ⟨kb, 0, none⟩)), nilS, (.int .i64 m)]) rfl rfl T.own66 (by decide) (fun wc hw => book_s00 w0 _ kb m wc (Hp.pickT (A := [⟨bq1, [(.int .i64 W), (.int .i64 H), nilS], 43, true⟩, ⟨kb, [nilS, nilS, nilS, nilS, nilS, nilS, nilS, nilS], 57, true⟩]) (R := R) hw (idx := [1, 0]) (by decide) rfl))) (fun xq2 hq3 => ?_)
 refine GL.nil ?_
 refine GC.end0 rfl (fun wN HN => ?_)
 exact HN.frm xq2 hq3 (by rfl) (ulC (ulC (ulC (ulS ulR))))

end Go.Proofs.Ytiikkhbmhojbaaa.C
