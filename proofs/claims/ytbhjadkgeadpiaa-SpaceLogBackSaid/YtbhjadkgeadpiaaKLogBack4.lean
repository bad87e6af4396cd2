/- SpaceLogBack: what its code does, walked. -/
import Derived.Test.YtbhjadkgeadpiaaKLogBack3
namespace Go.Proofs.Ytbhjadkgeadpiaa.C
open Go Go.RowKit Sx
set_option linter.unusedVariables false
set_option maxRecDepth 100000 in
set_option maxHeartbeats 1000000 in
theorem off_gt (a b e : Int) (n1 n2 : Nat) (w : World) (ha : 0 ≤ a ∧ a < 4294967296) (hfa : a % 2147483648 < 2139095040) (hb : 0 ≤ b ∧ b < 4294967296) (hfb : b % 2147483648 < 2139095040) (he1 : Bt.expo a = e + ((n1 : Nat) : Int)) (he2 : Bt.expo b = e + ((n2 : Nat) : Int)) (hn12 : n1 = 0 ∨ n2 = 0) (hn1 : n1 ≤ 3000) (hn2 : n2 ≤ 3000) (heb : -100000 ≤ e ∧ e ≤ 100000) (hg : (decide (a / 2147483648 % 2 = 1)) ≠ !(decide (b / 2147483648 % 2 = 1))) (hcs : (Bt.mant b).toNat * 2 ^ n2 < (Bt.mant a).toNat * 2 ^ n1) :
  Calls Try.prog 34 #[(.int .u32 a), (.int .u32 b)] w (Ret w (fun z' : Nat × Nat => Nd.nd (Lb.dfr (decide (a / 2147483648 % 2 = 1)) (decide (b / 2147483648 % 2 = 1)) ((Bt.mant a).toNat * 2 ^ n1) ((Bt.mant b).toNat * 2 ^ n2)) ≤ z'.2) (fun z' => (.agg #[(.int .i64 2), (.bool false), (.slice (some ⟨z'.1, 0, none⟩) ((Nd.nd (Lb.dfr (decide (a / 2147483648 % 2 = 1)) (decide (b / 2147483648 % 2 = 1)) ((Bt.mant a).toNat * 2 ^ n1) ((Bt.mant b).toNat * 2 ^ n2)))) z'.2), (.int .i64 e), (.bool false)])) (fun z' => [⟨z'.1, (Nd.dl z'.2 (Lb.dfr (decide (a / 2147483648 % 2 = 1)) (decide (b / 2147483648 % 2 = 1)) ((Bt.mant a).toNat * 2 ^ n1) ((Bt.mant b).toNat * 2 ^ n2))).map u32, 23, true⟩])) := by
 rw [Lb.dfr_gt hg hcs]
 have hma : (Bt.mant a).toNat < 4294967296 := by unfold Bt.mant; split <;> omega
 have hmb : (Bt.mant b).toNat < 4294967296 := by unfold Bt.mant; split <;> omega
 have hna : Nd.nd (Bt.mant a).toNat ≤ 50 := by rw [Nd.nd_one hma]; split <;> omega
 have hnb : Nd.nd (Bt.mant b).toNat ≤ 50 := by rw [Nd.nd_one hmb]; split <;> omega
 refine enter (M := None) (L := []) (n := 25) (l := [(0, (.int .u32 a)), (1, (.int .u32 b))]) Try.func34 rfl rfl (Args.cons rfl (Args.cons rfl (Args.nil _))) (Hp.start _ _) ?_
 refine GC.seq ?_
 refine GC.region ?_
 refine GL.step (Stp.alloc T.zr38 (by decide)) (fun bq1 _ => ?_)
 refine GL.nil ?_
 refine GE.thenN ?_
 refine GC.seq ?_
 refine GC.region ?_
 refine GL.step (Stp.callR (vs := []) rfl rfl T.own58 (by decide) (fun wc hw => j58_3  wc )) (fun xq2 hq3 => ?_)
 refine GL.val (Ex.move rfl) (by decide) ?_
 refine GL.val (v := (.int .u64 a)) (Ex.conv rfl Try.underlying23 Try.underlying70 (Z := a) (wu64b (by omega))) (by decide) ?_
 refine GL.step (Stp.callR (vs := [(.agg #[(.int .i64 23), (.int .i64 8)]), (.int .u64 a)]) rfl rfl T.own59 (by decide) (fun wc hw => of_all a wc ha hfa)) (fun xq4 hq5 => ?_)
 refine GL.step (Stp.callR (vs := []) rfl rfl T.own58 (by decide) (fun wc hw => j58_3  wc )) (fun xq6 hq7 => ?_)
 refine GL.val (Ex.move rfl) (by decide) ?_
 refine GL.val (v := (.int .u64 b)) (Ex.conv rfl Try.underlying23 Try.underlying70 (Z := b) (wu64b (by omega))) (by decide) ?_
 refine GL.step (Stp.callR (vs := [(.agg #[(.int .i64 23), (.int .i64 8)]), (.int .u64 b)]) rfl rfl T.own59 (by decide) (fun wc hw => of_all b wc hb hfb)) (fun xq8 hq9 => ?_)
 refine GL.step (Stp.alloc T.zr38 (by decide)) (fun bq10 _ => ?_)
 refine GL.step (Stp.alloc T.zr38 (by decide)) (fun bq11 _ => ?_)
 refine GL.step (Stp.st1 (cs' := [(.int .i64 2), (.bool ((decide (a / 2147483648 % 2 = 1)))), (.slice (some ⟨xq4, 0, none⟩) ((Nd.nd (Bt.mant a).toNat)) 2), (.int .i64 ((Bt.expo a))), (.bool false)]) rfl rfl rfl T.sz38 rfl rfl rfl) (fun _ _ => ?_)
 refine GL.step (Stp.st0 (cs' := [(.int .i64 2), (.bool ((decide (b / 2147483648 % 2 = 1)))), (.slice (some ⟨xq8, 0, none⟩) ((Nd.nd (Bt.mant b).toNat)) 2), (.int .i64 ((Bt.expo b))), (.bool false)]) rfl rfl rfl T.sz38 rfl rfl rfl) (fun _ _ => ?_)
 refine GL.nil ?_
 refine GE.thenN ?_
 refine GC.seq ?_
 refine GC.region ?_
 refine GL.val (v := (.pointer (some ⟨bq11, 1, none⟩))) (Ex.cast (Ex.fieldAddr rfl Try.underlying38 rfl T.sz4 (by decide)) rfl) (by decide) ?_
 refine GL.val (Ex.load rfl T.ag4 (i := 0) rfl rfl) (by decide) ?_
 refine GL.val (v := (.bool (!((decide (b / 2147483648 % 2 = 1)))))) (Ex.not rfl) (by decide) ?_
 refine GL.val (v := (.pointer (some ⟨bq11, 1, none⟩))) (Ex.cast (Ex.fieldAddr rfl Try.underlying38 rfl T.sz4 (by decide)) rfl) (by decide) ?_
 refine GL.step (Stp.st0 (cs' := [(.int .i64 2), (.bool (!((decide (b / 2147483648 % 2 = 1))))), (.slice (some ⟨xq8, 0, none⟩) ((Nd.nd (Bt.mant b).toNat)) 2), (.int .i64 ((Bt.expo b))), (.bool false)]) rfl rfl rfl T.sz4 rfl rfl rfl) (fun _ _ => ?_)
 refine GL.nil ?_
 refine GE.thenN ?_
 refine GC.seq ?_
 refine GC.region ?_
 refine GL.val (v := (.agg #[(.int .i64 2), (.bool ((decide (a / 2147483648 % 2 = 1)))), (.slice (some ⟨xq4, 0, none⟩) ((Nd.nd (Bt.mant a).toNat)) 2), (.int .i64 ((Bt.expo a))), (.bool false)])) (Ex.loadA rfl T.ag38 T.sz38 (i := 1) rfl (vs := [(.int .i64 2), (.bool ((decide (a / 2147483648 % 2 = 1)))), (.slice (some ⟨xq4, 0, none⟩) ((Nd.nd (Bt.mant a).toNat)) 2), (.int .i64 ((Bt.expo a))), (.bool false)]) rfl rfl) (by decide) ?_
 refine GL.val (v := (.agg #[(.int .i64 2), (.bool (!((decide (b / 2147483648 % 2 = 1))))), (.slice (some ⟨xq8, 0, none⟩) ((Nd.nd (Bt.mant b).toNat)) 2), (.int .i64 ((Bt.expo b))), (.bool false)])) (Ex.loadA rfl T.ag38 T.sz38 (i := 0) rfl (vs := [(.int .i64 2), (.bool (!((decide (b / 2147483648 % 2 = 1))))), (.slice (some ⟨xq8, 0, none⟩) ((Nd.nd (Bt.mant b).toNat)) 2), (.int .i64 ((Bt.expo b))), (.bool false)]) rfl rfl) (by decide) ?_
 refine GL.step (Stp.callR (vs := [(.agg #[(.int .i64 2), (.bool ((decide (a / 2147483648 % 2 = 1)))), (.slice (some ⟨xq4, 0, none⟩) ((Nd.nd (Bt.mant a).toNat)) 2), (.int .i64 ((Bt.expo a))), (.bool false)]), (.agg #[(.int .i64 2), (.bool (!((decide (b / 2147483648 % 2 = 1))))), (.slice (some ⟨xq8, 0, none⟩) ((Nd.nd (Bt.mant b).toNat)) 2), (.int .i64 ((Bt.expo b))), (.bool false)])]) rfl rfl T.own33 (by decide) (fun wc hw => pnum_gt (Bt.mant a).toNat xq4 2 (Bt.mant b).toNat xq8 2 e (Bt.expo a) (Bt.expo b) n1 n2 (decide (a / 2147483648 % 2 = 1)) (!(decide (b / 2147483648 % 2 = 1))) wc (Nd.Nb.one (Lg.rd1 (hw.rdOf (i := 3) rfl 0)) (by omega)) (by omega) (Nd.Nb.one (Lg.rd1 (hw.rdOf (i := 2) rfl 0)) (by omega)) (by omega) he1 he2 hn12 hn1 hn2 heb hg hcs)) (fun xq12 hq13 => ?_)
 have hpx := hq13
 refine GL.step (Stp.alloc T.zr38 (by decide)) (fun bq14 _ => ?_)
 refine GL.step (Stp.st0 (cs' := [(.int .i64 2), (.bool ((decide (a / 2147483648 % 2 = 1)))), (.slice (some ⟨xq12.1, 0, none⟩) ((Nd.nd (((Bt.mant a).toNat * 2 ^ n1) - ((Bt.mant b).toNat * 2 ^ n2)))) xq12.2), (.int .i64 e), (.bool false)]) rfl rfl rfl T.sz38 rfl rfl rfl) (fun _ _ => ?_)
 refine GL.nil ?_
 refine GE.thenN ?_
 refine GC.seq ?_
 refine GC.region ?_
 refine GL.val (v := (.pointer (some ⟨bq14, 1, none⟩))) (Ex.cast (Ex.fieldAddr rfl Try.underlying38 rfl T.sz4 (by decide)) rfl) (by decide) ?_
 refine GL.step (Stp.st0 (cs' := [(.int .i64 2), (.bool false), (.slice (some ⟨xq12.1, 0, none⟩) ((Nd.nd (((Bt.mant a).toNat * 2 ^ n1) - ((Bt.mant b).toNat * 2 ^ n2)))) xq12.2), (.int .i64 e), (.bool false)]) rfl rfl rfl T.sz4 rfl rfl rfl) (fun _ _ => ?_)
 refine GL.nil ?_
 refine GE.thenN ?_
 refine GC.seq ?_
 refine GC.region ?_
 refine GL.val (v := (.agg #[(.int .i64 2), (.bool false), (.slice (some ⟨xq12.1, 0, none⟩) ((Nd.nd (((Bt.mant a).toNat * 2 ^ n1) - ((Bt.mant b).toNat * 2 ^ n2)))) xq12.2), (.int .i64 e), (.bool false)])) (Ex.loadA rfl T.ag38 T.sz38 (i := 0) rfl (vs := [(.int .i64 2), (.bool false), (.slice (some ⟨xq12.1, 0, none⟩) ((Nd.nd (((Bt.mant a).toNat * 2 ^ n1) - ((Bt.mant b).toNat * 2 ^ n2)))) xq12.2), (.int .i64 e), (.bool false)]) rfl rfl) (by decide) ?_
 refine GL.step (Stp.st6 (cs' := [(.int .i64 2), (.bool false), (.slice (some ⟨xq12.1, 0, none⟩) ((Nd.nd (((Bt.mant a).toNat * 2 ^ n1) - ((Bt.mant b).toNat * 2 ^ n2)))) xq12.2), (.int .i64 e), (.bool false)]) rfl rfl rfl T.sz38 rfl rfl rfl) (fun _ _ => ?_)
 refine GL.nil ?_
 refine GE.thenN ?_
 refine GC.ret ?_
 refine GC.ret1 rfl (Rv.cellA rfl T.ag38 T.sz38 (L := _) (i := 6) rfl (vs := [(.int .i64 2), (.bool false), (.slice (some ⟨xq12.1, 0, none⟩) ((Nd.nd (((Bt.mant a).toNat * 2 ^ n1) - ((Bt.mant b).toNat * 2 ^ n2)))) xq12.2), (.int .i64 e), (.bool false)]) rfl rfl) (fun wN HN => ?_)
 exact HN.ret xq12 hpx rfl (ulS (ulC (ulS (ulS (ulS (ulS (ulS ulN))))))) rfl

set_option maxRecDepth 100000 in
set_option maxHeartbeats 1000000 in
theorem off_lt (a b e : Int) (n1 n2 : Nat) (w : World) (ha : 0 ≤ a ∧ a < 4294967296) (hfa : a % 2147483648 < 2139095040) (hb : 0 ≤ b ∧ b < 4294967296) (hfb : b % 2147483648 < 2139095040) (he1 : Bt.expo a = e + ((n1 : Nat) : Int)) (he2 : Bt.expo b = e + ((n2 : Nat) : Int)) (hn12 : n1 = 0 ∨ n2 = 0) (hn1 : n1 ≤ 3000) (hn2 : n2 ≤ 3000) (heb : -100000 ≤ e ∧ e ≤ 100000) (hg : (decide (a / 2147483648 % 2 = 1)) ≠ !(decide (b / 2147483648 % 2 = 1))) (hcs : (Bt.mant a).toNat * 2 ^ n1 < (Bt.mant b).toNat * 2 ^ n2) :
  Calls Try.prog 34 #[(.int .u32 a), (.int .u32 b)] w (Ret w (fun z' : Nat × Nat => Nd.nd (Lb.dfr (decide (a / 2147483648 % 2 = 1)) (decide (b / 2147483648 % 2 = 1)) ((Bt.mant a).toNat * 2 ^ n1) ((Bt.mant b).toNat * 2 ^ n2)) ≤ z'.2) (fun z' => (.agg #[(.int .i64 2), (.bool false), (.slice (some ⟨z'.1, 0, none⟩) ((Nd.nd (Lb.dfr (decide (a / 2147483648 % 2 = 1)) (decide (b / 2147483648 % 2 = 1)) ((Bt.mant a).toNat * 2 ^ n1) ((Bt.mant b).toNat * 2 ^ n2)))) z'.2), (.int .i64 e), (.bool false)])) (fun z' => [⟨z'.1, (Nd.dl z'.2 (Lb.dfr (decide (a / 2147483648 % 2 = 1)) (decide (b / 2147483648 % 2 = 1)) ((Bt.mant a).toNat * 2 ^ n1) ((Bt.mant b).toNat * 2 ^ n2))).map u32, 23, true⟩])) := by
 rw [Lb.dfr_lt hg hcs]
 have hma : (Bt.mant a).toNat < 4294967296 := by unfold Bt.mant; split <;> omega
 have hmb : (Bt.mant b).toNat < 4294967296 := by unfold Bt.mant; split <;> omega
 have hna : Nd.nd (Bt.mant a).toNat ≤ 50 := by rw [Nd.nd_one hma]; split <;> omega
 have hnb : Nd.nd (Bt.mant b).toNat ≤ 50 := by rw [Nd.nd_one hmb]; split <;> omega
 refine enter (M := None) (L := []) (n := 25) (l := [(0, (.int .u32 a)), (1, (.int .u32 b))]) Try.func34 rfl rfl (Args.cons rfl (Args.cons rfl (Args.nil _))) (Hp.start _ _) ?_
 refine GC.seq ?_
 refine GC.region ?_
 refine GL.step (Stp.alloc T.zr38 (by decide)) (fun bq1 _ => ?_)
 refine GL.nil ?_
 refine GE.thenN ?_
 refine GC.seq ?_
 refine GC.region ?_
 refine GL.step (Stp.callR (vs := []) rfl rfl T.own58 (by decide) (fun wc hw => j58_3  wc )) (fun xq2 hq3 => ?_)
 refine GL.val (Ex.move rfl) (by decide) ?_
 refine GL.val (v := (.int .u64 a)) (Ex.conv rfl Try.underlying23 Try.underlying70 (Z := a) (wu64b (by omega))) (by decide) ?_
 refine GL.step (Stp.callR (vs := [(.agg #[(.int .i64 23), (.int .i64 8)]), (.int .u64 a)]) rfl rfl T.own59 (by decide) (fun wc hw => of_all a wc ha hfa)) (fun xq4 hq5 => ?_)
 refine GL.step (Stp.callR (vs := []) rfl rfl T.own58 (by decide) (fun wc hw => j58_3  wc )) (fun xq6 hq7 => ?_)
 refine GL.val (Ex.move rfl) (by decide) ?_
 refine GL.val (v := (.int .u64 b)) (Ex.conv rfl Try.underlying23 Try.underlying70 (Z := b) (wu64b (by omega))) (by decide) ?_
 refine GL.step (Stp.callR (vs := [(.agg #[(.int .i64 23), (.int .i64 8)]), (.int .u64 b)]) rfl rfl T.own59 (by decide) (fun wc hw => of_all b wc hb hfb)) (fun xq8 hq9 => ?_)
 refine GL.step (Stp.alloc T.zr38 (by decide)) (fun bq10 _ => ?_)
 refine GL.step (Stp.alloc T.zr38 (by decide)) (fun bq11 _ => ?_)
 refine GL.step (Stp.st1 (cs' := [(.int .i64 2), (.bool ((decide (a / 2147483648 % 2 = 1)))), (.slice (some ⟨xq4, 0, none⟩) ((Nd.nd (Bt.mant a).toNat)) 2), (.int .i64 ((Bt.expo a))), (.bool false)]) rfl rfl rfl T.sz38 rfl rfl rfl) (fun _ _ => ?_)
 refine GL.step (Stp.st0 (cs' := [(.int .i64 2), (.bool ((decide (b / 2147483648 % 2 = 1)))), (.slice (some ⟨xq8, 0, none⟩) ((Nd.nd (Bt.mant b).toNat)) 2), (.int .i64 ((Bt.expo b))), (.bool false)]) rfl rfl rfl T.sz38 rfl rfl rfl) (fun _ _ => ?_)
 refine GL.nil ?_
 refine GE.thenN ?_
 refine GC.seq ?_
 refine GC.region ?_
 refine GL.val (v := (.pointer (some ⟨bq11, 1, none⟩))) (Ex.cast (Ex.fieldAddr rfl Try.underlying38 rfl T.sz4 (by decide)) rfl) (by decide) ?_
 refine GL.val (Ex.load rfl T.ag4 (i := 0) rfl rfl) (by decide) ?_
 refine GL.val (v := (.bool (!((decide (b / 2147483648 % 2 = 1)))))) (Ex.not rfl) (by decide) ?_
 refine GL.val (v := (.pointer (some ⟨bq11, 1, none⟩))) (Ex.cast (Ex.fieldAddr rfl Try.underlying38 rfl T.sz4 (by decide)) rfl) (by decide) ?_
 refine GL.step (Stp.st0 (cs' := [(.int .i64 2), (.bool (!((decide (b / 2147483648 % 2 = 1))))), (.slice (some ⟨xq8, 0, none⟩) ((Nd.nd (Bt.mant b).toNat)) 2), (.int .i64 ((Bt.expo b))), (.bool false)]) rfl rfl rfl T.sz4 rfl rfl rfl) (fun _ _ => ?_)
 refine GL.nil ?_
 refine GE.thenN ?_
 refine GC.seq ?_
 refine GC.region ?_
 refine GL.val (v := (.agg #[(.int .i64 2), (.bool ((decide (a / 2147483648 % 2 = 1)))), (.slice (some ⟨xq4, 0, none⟩) ((Nd.nd (Bt.mant a).toNat)) 2), (.int .i64 ((Bt.expo a))), (.bool false)])) (Ex.loadA rfl T.ag38 T.sz38 (i := 1) rfl (vs := [(.int .i64 2), (.bool ((decide (a / 2147483648 % 2 = 1)))), (.slice (some ⟨xq4, 0, none⟩) ((Nd.nd (Bt.mant a).toNat)) 2), (.int .i64 ((Bt.expo a))), (.bool false)]) rfl rfl) (by decide) ?_
 refine GL.val (v := (.agg #[(.int .i64 2), (.bool (!((decide (b / 2147483648 % 2 = 1))))), (.slice (some ⟨xq8, 0, none⟩) ((Nd.nd (Bt.mant b).toNat)) 2), (.int .i64 ((Bt.expo b))), (.bool false)])) (Ex.loadA rfl T.ag38 T.sz38 (i := 0) rfl (vs := [(.int .i64 2), (.bool (!((decide (b / 2147483648 % 2 = 1))))), (.slice (some ⟨xq8, 0, none⟩) ((Nd.nd (Bt.mant b).toNat)) 2), (.int .i64 ((Bt.expo b))), (.bool false)]) rfl rfl) (by decide) ?_
 refine GL.step (Stp.callR (vs := [(.agg #[(.int .i64 2), (.bool ((decide (a / 2147483648 % 2 = 1)))), (.slice (some ⟨xq4, 0, none⟩) ((Nd.nd (Bt.mant a).toNat)) 2), (.int .i64 ((Bt.expo a))), (.bool false)]), (.agg #[(.int .i64 2), (.bool (!((decide (b / 2147483648 % 2 = 1))))), (.slice (some ⟨xq8, 0, none⟩) ((Nd.nd (Bt.mant b).toNat)) 2), (.int .i64 ((Bt.expo b))), (.bool false)])]) rfl rfl T.own33 (by decide) (fun wc hw => pnum_lt (Bt.mant a).toNat xq4 2 (Bt.mant b).toNat xq8 2 e (Bt.expo a) (Bt.expo b) n1 n2 (decide (a / 2147483648 % 2 = 1)) (!(decide (b / 2147483648 % 2 = 1))) wc (Nd.Nb.one (Lg.rd1 (hw.rdOf (i := 3) rfl 0)) (by omega)) (by omega) (Nd.Nb.one (Lg.rd1 (hw.rdOf (i := 2) rfl 0)) (by omega)) (by omega) he1 he2 hn12 hn1 hn2 heb hg hcs)) (fun xq12 hq13 => ?_)
 have hpx := hq13
 refine GL.step (Stp.alloc T.zr38 (by decide)) (fun bq14 _ => ?_)
 refine GL.step (Stp.st0 (cs' := [(.int .i64 2), (.bool ((!(decide (b / 2147483648 % 2 = 1))))), (.slice (some ⟨xq12.1, 0, none⟩) ((Nd.nd (((Bt.mant b).toNat * 2 ^ n2) - ((Bt.mant a).toNat * 2 ^ n1)))) xq12.2), (.int .i64 e), (.bool false)]) rfl rfl rfl T.sz38 rfl rfl rfl) (fun _ _ => ?_)
 refine GL.nil ?_
 refine GE.thenN ?_
 refine GC.seq ?_
 refine GC.region ?_
 refine GL.val (v := (.pointer (some ⟨bq14, 1, none⟩))) (Ex.cast (Ex.fieldAddr rfl Try.underlying38 rfl T.sz4 (by decide)) rfl) (by decide) ?_
 refine GL.step (Stp.st0 (cs' := [(.int .i64 2), (.bool false), (.slice (some ⟨xq12.1, 0, none⟩) ((Nd.nd (((Bt.mant b).toNat * 2 ^ n2) - ((Bt.mant a).toNat * 2 ^ n1)))) xq12.2), (.int .i64 e), (.bool false)]) rfl rfl rfl T.sz4 rfl rfl rfl) (fun _ _ => ?_)
 refine GL.nil ?_
 refine GE.thenN ?_
 refine GC.seq ?_
 refine GC.region ?_
 refine GL.val (v := (.agg #[(.int .i64 2), (.bool false), (.slice (some ⟨xq12.1, 0, none⟩) ((Nd.nd (((Bt.mant b).toNat * 2 ^ n2) - ((Bt.mant a).toNat * 2 ^ n1)))) xq12.2), (.int .i64 e), (.bool false)])) (Ex.loadA rfl T.ag38 T.sz38 (i := 0) rfl (vs := [(.int .i64 2), (.bool false), (.slice (some ⟨xq12.1, 0, none⟩) ((Nd.nd (((Bt.mant b).toNat * 2 ^ n2) - ((Bt.mant a).toNat * 2 ^ n1)))) xq12.2), (.int .i64 e), (.bool false)]) rfl rfl) (by decide) ?_
 refine GL.step (Stp.st6 (cs' := [(.int .i64 2), (.bool false), (.slice (some ⟨xq12.1, 0, none⟩) ((Nd.nd (((Bt.mant b).toNat * 2 ^ n2) - ((Bt.mant a).toNat * 2 ^ n1)))) xq12.2), (.int .i64 e), (.bool false)]) rfl rfl rfl T.sz38 rfl rfl rfl) (fun _ _ => ?_)
 refine GL.nil ?_
 refine GE.thenN ?_
 refine GC.ret ?_
 refine GC.ret1 rfl (Rv.cellA rfl T.ag38 T.sz38 (L := _) (i := 6) rfl (vs := [(.int .i64 2), (.bool false), (.slice (some ⟨xq12.1, 0, none⟩) ((Nd.nd (((Bt.mant b).toNat * 2 ^ n2) - ((Bt.mant a).toNat * 2 ^ n1)))) xq12.2), (.int .i64 e), (.bool false)]) rfl rfl) (fun wN HN => ?_)
 exact HN.ret xq12 hpx rfl (ulS (ulC (ulS (ulS (ulS (ulS (ulS ulN))))))) rfl

set_option maxRecDepth 100000 in
set_option maxHeartbeats 1000000 in
theorem off_eq (a b e : Int) (n1 n2 : Nat) (w : World) (ha : 0 ≤ a ∧ a < 4294967296) (hfa : a % 2147483648 < 2139095040) (hb : 0 ≤ b ∧ b < 4294967296) (hfb : b % 2147483648 < 2139095040) (he1 : Bt.expo a = e + ((n1 : Nat) : Int)) (he2 : Bt.expo b = e + ((n2 : Nat) : Int)) (hn12 : n1 = 0 ∨ n2 = 0) (hn1 : n1 ≤ 3000) (hn2 : n2 ≤ 3000) (heb : -100000 ≤ e ∧ e ≤ 100000) (hg : (decide (a / 2147483648 % 2 = 1)) ≠ !(decide (b / 2147483648 % 2 = 1))) (hcs : (Bt.mant a).toNat * 2 ^ n1 = (Bt.mant b).toNat * 2 ^ n2) :
  Calls Try.prog 34 #[(.int .u32 a), (.int .u32 b)] w (Ret w (fun _ : Unit => True) (fun _ => (.agg #[(.int .i64 2), (.bool false), (.slice none 0 0), (.int .i64 e), (.bool false)])) (fun _ => [])) := by
 have hma : (Bt.mant a).toNat < 4294967296 := by unfold Bt.mant; split <;> omega
 have hmb : (Bt.mant b).toNat < 4294967296 := by unfold Bt.mant; split <;> omega
 have hna : Nd.nd (Bt.mant a).toNat ≤ 50 := by rw [Nd.nd_one hma]; split <;> omega
 have hnb : Nd.nd (Bt.mant b).toNat ≤ 50 := by rw [Nd.nd_one hmb]; split <;> omega
 refine enter (M := None) (L := []) (n := 25) (l := [(0, (.int .u32 a)), (1, (.int .u32 b))]) Try.func34 rfl rfl (Args.cons rfl (Args.cons rfl (Args.nil _))) (Hp.start _ _) ?_
 refine GC.seq ?_
 refine GC.region ?_
 refine GL.step (Stp.alloc T.zr38 (by decide)) (fun bq1 _ => ?_)
 refine GL.nil ?_
 refine GE.thenN ?_
 refine GC.seq ?_
 refine GC.region ?_
 refine GL.step (Stp.callR (vs := []) rfl rfl T.own58 (by decide) (fun wc hw => j58_3  wc )) (fun xq2 hq3 => ?_)
 refine GL.val (Ex.move rfl) (by decide) ?_
 refine GL.val (v := (.int .u64 a)) (Ex.conv rfl Try.underlying23 Try.underlying70 (Z := a) (wu64b (by omega))) (by decide) ?_
 refine GL.step (Stp.callR (vs := [(.agg #[(.int .i64 23), (.int .i64 8)]), (.int .u64 a)]) rfl rfl T.own59 (by decide) (fun wc hw => of_all a wc ha hfa)) (fun xq4 hq5 => ?_)
 refine GL.step (Stp.callR (vs := []) rfl rfl T.own58 (by decide) (fun wc hw => j58_3  wc )) (fun xq6 hq7 => ?_)
 refine GL.val (Ex.move rfl) (by decide) ?_
 refine GL.val (v := (.int .u64 b)) (Ex.conv rfl Try.underlying23 Try.underlying70 (Z := b) (wu64b (by omega))) (by decide) ?_
 refine GL.step (Stp.callR (vs := [(.agg #[(.int .i64 23), (.int .i64 8)]), (.int .u64 b)]) rfl rfl T.own59 (by decide) (fun wc hw => of_all b wc hb hfb)) (fun xq8 hq9 => ?_)
 refine GL.step (Stp.alloc T.zr38 (by decide)) (fun bq10 _ => ?_)
 refine GL.step (Stp.alloc T.zr38 (by decide)) (fun bq11 _ => ?_)
 refine GL.step (Stp.st1 (cs' := [(.int .i64 2), (.bool ((decide (a / 2147483648 % 2 = 1)))), (.slice (some ⟨xq4, 0, none⟩) ((Nd.nd (Bt.mant a).toNat)) 2), (.int .i64 ((Bt.expo a))), (.bool false)]) rfl rfl rfl T.sz38 rfl rfl rfl) (fun _ _ => ?_)
 refine GL.step (Stp.st0 (cs' := [(.int .i64 2), (.bool ((decide (b / 2147483648 % 2 = 1)))), (.slice (some ⟨xq8, 0, none⟩) ((Nd.nd (Bt.mant b).toNat)) 2), (.int .i64 ((Bt.expo b))), (.bool false)]) rfl rfl rfl T.sz38 rfl rfl rfl) (fun _ _ => ?_)
 refine GL.nil ?_
 refine GE.thenN ?_
 refine GC.seq ?_
 refine GC.region ?_
 refine GL.val (v := (.pointer (some ⟨bq11, 1, none⟩))) (Ex.cast (Ex.fieldAddr rfl Try.underlying38 rfl T.sz4 (by decide)) rfl) (by decide) ?_
 refine GL.val (Ex.load rfl T.ag4 (i := 0) rfl rfl) (by decide) ?_
 refine GL.val (v := (.bool (!((decide (b / 2147483648 % 2 = 1)))))) (Ex.not rfl) (by decide) ?_
 refine GL.val (v := (.pointer (some ⟨bq11, 1, none⟩))) (Ex.cast (Ex.fieldAddr rfl Try.underlying38 rfl T.sz4 (by decide)) rfl) (by decide) ?_
 refine GL.step (Stp.st0 (cs' := [(.int .i64 2), (.bool (!((decide (b / 2147483648 % 2 = 1))))), (.slice (some ⟨xq8, 0, none⟩) ((Nd.nd (Bt.mant b).toNat)) 2), (.int .i64 ((Bt.expo b))), (.bool false)]) rfl rfl rfl T.sz4 rfl rfl rfl) (fun _ _ => ?_)
 refine GL.nil ?_
 refine GE.thenN ?_
 refine GC.seq ?_
 refine GC.region ?_
 refine GL.val (v := (.agg #[(.int .i64 2), (.bool ((decide (a / 2147483648 % 2 = 1)))), (.slice (some ⟨xq4, 0, none⟩) ((Nd.nd (Bt.mant a).toNat)) 2), (.int .i64 ((Bt.expo a))), (.bool false)])) (Ex.loadA rfl T.ag38 T.sz38 (i := 1) rfl (vs := [(.int .i64 2), (.bool ((decide (a / 2147483648 % 2 = 1)))), (.slice (some ⟨xq4, 0, none⟩) ((Nd.nd (Bt.mant a).toNat)) 2), (.int .i64 ((Bt.expo a))), (.bool false)]) rfl rfl) (by decide) ?_
 refine GL.val (v := (.agg #[(.int .i64 2), (.bool (!((decide (b / 2147483648 % 2 = 1))))), (.slice (some ⟨xq8, 0, none⟩) ((Nd.nd (Bt.mant b).toNat)) 2), (.int .i64 ((Bt.expo b))), (.bool false)])) (Ex.loadA rfl T.ag38 T.sz38 (i := 0) rfl (vs := [(.int .i64 2), (.bool (!((decide (b / 2147483648 % 2 = 1))))), (.slice (some ⟨xq8, 0, none⟩) ((Nd.nd (Bt.mant b).toNat)) 2), (.int .i64 ((Bt.expo b))), (.bool false)]) rfl rfl) (by decide) ?_
 refine GL.step (Stp.callR (vs := [(.agg #[(.int .i64 2), (.bool ((decide (a / 2147483648 % 2 = 1)))), (.slice (some ⟨xq4, 0, none⟩) ((Nd.nd (Bt.mant a).toNat)) 2), (.int .i64 ((Bt.expo a))), (.bool false)]), (.agg #[(.int .i64 2), (.bool (!((decide (b / 2147483648 % 2 = 1))))), (.slice (some ⟨xq8, 0, none⟩) ((Nd.nd (Bt.mant b).toNat)) 2), (.int .i64 ((Bt.expo b))), (.bool false)])]) rfl rfl T.own33 (by decide) (fun wc hw => pnum_eq (Bt.mant a).toNat xq4 2 (Bt.mant b).toNat xq8 2 e (Bt.expo a) (Bt.expo b) n1 n2 (decide (a / 2147483648 % 2 = 1)) (!(decide (b / 2147483648 % 2 = 1))) wc (Nd.Nb.one (Lg.rd1 (hw.rdOf (i := 3) rfl 0)) (by omega)) (by omega) (Nd.Nb.one (Lg.rd1 (hw.rdOf (i := 2) rfl 0)) (by omega)) (by omega) he1 he2 hn12 hn1 hn2 heb hg hcs)) (fun xq12 hq13 => ?_)
 refine GL.step (Stp.alloc T.zr38 (by decide)) (fun bq14 _ => ?_)
 refine GL.step (Stp.st0 (cs' := [(.int .i64 2), (.bool false), (.slice none 0 0), (.int .i64 e), (.bool false)]) rfl rfl rfl T.sz38 rfl rfl rfl) (fun _ _ => ?_)
 refine GL.nil ?_
 refine GE.thenN ?_
 refine GC.seq ?_
 refine GC.region ?_
 refine GL.val (v := (.pointer (some ⟨bq14, 1, none⟩))) (Ex.cast (Ex.fieldAddr rfl Try.underlying38 rfl T.sz4 (by decide)) rfl) (by decide) ?_
 refine GL.step (Stp.st0 (cs' := [(.int .i64 2), (.bool false), (.slice none 0 0), (.int .i64 e), (.bool false)]) rfl rfl rfl T.sz4 rfl rfl rfl) (fun _ _ => ?_)
 refine GL.nil ?_
 refine GE.thenN ?_
 refine GC.seq ?_
 refine GC.region ?_
 refine GL.val (v := (.agg #[(.int .i64 2), (.bool false), (.slice none 0 0), (.int .i64 e), (.bool false)])) (Ex.loadA rfl T.ag38 T.sz38 (i := 0) rfl (vs := [(.int .i64 2), (.bool false), (.slice none 0 0), (.int .i64 e), (.bool false)]) rfl rfl) (by decide) ?_
 refine GL.step (Stp.st5 (cs' := [(.int .i64 2), (.bool false), (.slice none 0 0), (.int .i64 e), (.bool false)]) rfl rfl rfl T.sz38 rfl rfl rfl) (fun _ _ => ?_)
 refine GL.nil ?_
 refine GE.thenN ?_
 refine GC.ret ?_
 refine GC.ret1 rfl (Rv.cellA rfl T.ag38 T.sz38 (L := _) (i := 5) rfl (vs := [(.int .i64 2), (.bool false), (.slice none 0 0), (.int .i64 e), (.bool false)]) rfl rfl) (fun wN HN => ?_)
 exact HN.ret () trivial rfl (List.nil_sublist _) rfl

set_option maxRecDepth 100000 in
set_option maxHeartbeats 1000000 in
theorem round_00 (ad : Option Addr) (c : Nat) (w : World) :
  Calls Try.prog 75 #[(.agg #[(.int .i64 23), (.int .i64 8)]), (.agg #[(.int .i64 2), (.bool false), (.slice ad 0 c), (.int .i64 0), (.bool false)])] w (Ret w (fun _ : Unit => True) (fun _ => (.int .u64 0)) (fun _ => [])) := by
 refine enter (M := None) (L := []) (n := 169) (l := [(0, (.agg #[(.int .i64 23), (.int .i64 8)])), (1, (.agg #[(.int .i64 2), (.bool false), (.slice ad 0 c), (.int .i64 0), (.bool false)]))]) Try.func75 rfl rfl (Args.cons rfl (Args.cons rfl (Args.nil _))) (Hp.start _ _) ?_
 refine GC.seq ?_
 refine GC.region ?_
 refine GL.step (Stp.box (cs := [(.int .i64 23), (.int .i64 8)]) rfl rfl (by decide)) (fun bq1 _ => ?_)
 refine GL.step (Stp.box (cs := [(.int .i64 2), (.bool false), (.slice ad 0 c), (.int .i64 0), (.bool false)]) rfl rfl (by decide)) (fun bq2 _ => ?_)
 refine GL.val (Ex.assign rfl) (by decide) ?_
 refine GL.nil ?_
 refine GE.thenN ?_
 refine GC.seq ?_
 refine GC.seq ?_
 refine GC.region ?_
 refine GL.val (v := (.pointer (some ⟨bq2, 0, none⟩))) (Ex.cast (Ex.fieldAddr rfl Try.underlying38 rfl T.sz3 (by decide)) rfl) (by decide) ?_
 refine GL.val (Ex.load rfl T.ag3 (i := 0) rfl rfl) (by decide) ?_
 refine GL.val (v := (.bool false)) (Ex.cast (Ex.eql rfl rfl) rfl) (by decide) ?_
 refine GL.nil ?_
 refine GE.thenN ?_
 refine GC.cond rfl (fun hq3 => by cases hq3) (fun _ => ?_)
 refine GC.skip ?_
 refine GE.thenN ?_
 refine GC.seq ?_
 refine GC.seq ?_
 refine GC.region ?_
 refine GL.val (v := (.pointer (some ⟨bq2, 0, none⟩))) (Ex.cast (Ex.fieldAddr rfl Try.underlying38 rfl T.sz3 (by decide)) rfl) (by decide) ?_
 refine GL.val (Ex.load rfl T.ag3 (i := 0) rfl rfl) (by decide) ?_
 refine GL.val (v := (.bool false)) (Ex.cast (Ex.eql rfl rfl) rfl) (by decide) ?_
 refine GL.nil ?_
 refine GE.thenN ?_
 refine GC.cond rfl (fun hq4 => by cases hq4) (fun _ => ?_)
 refine GC.skip ?_
 refine GE.thenN ?_
 refine GC.seq ?_
 refine GC.region ?_
 refine GL.val (v := (.pointer (some ⟨bq2, 2, none⟩))) (Ex.cast (Ex.fieldAddr rfl Try.underlying38 rfl T.sz36 (by decide)) rfl) (by decide) ?_
 refine GL.val (Ex.load rfl T.ag36 (i := 0) rfl rfl) (by decide) ?_
 refine GL.val (Ex.assign rfl) (by decide) ?_
 refine GL.nil ?_
 refine GE.thenN ?_
 refine GC.seq ?_
 refine GC.region ?_
 refine GL.val (v := (.pointer (some ⟨bq2, 3, none⟩))) (Ex.cast (Ex.fieldAddr rfl Try.underlying38 rfl T.sz3 (by decide)) rfl) (by decide) ?_
 refine GL.val (Ex.load rfl T.ag3 (i := 0) rfl rfl) (by decide) ?_
 refine GL.val (Ex.assign rfl) (by decide) ?_
 refine GL.nil ?_
 refine GE.thenN ?_
 refine GC.seq ?_
 refine GC.region ?_
 refine GL.val (v := (.agg #[(.int .i64 23), (.int .i64 8)])) (Ex.loadA rfl T.ag67 T.sz67 (i := 1) rfl (vs := [(.int .i64 23), (.int .i64 8)]) rfl rfl) (by decide) ?_
 refine GL.step (Stp.callR (vs := [(.agg #[(.int .i64 23), (.int .i64 8)])]) rfl rfl T.own83 (by decide) (fun wc hw => j83_2  wc )) (fun xq5 hq6 => ?_)
 refine GL.val (v := (.int .i64 (-149))) (Ex.sub' rfl rfl (Z := -149) (by decide)) (by decide) ?_
 refine GL.val (Ex.assign rfl) (by decide) ?_
 refine GL.nil ?_
 refine GE.thenN ?_
 refine GC.seq ?_
 refine GC.drawP [⟨bq2, [(.int .i64 2), (.bool false), (.slice ad 0 c), (.int .i64 0), (.bool false)], 38, true⟩, ⟨bq1, [(.int .i64 23), (.int .i64 8)], 67, true⟩] T.mixed (by kernel_rfl) (by kernel_rfl) (fuel := 10) rfl rfl ?_
 refine GH.take 0 (v := (.slice ad 0 c)) rfl (by kernel_rfl) (by kernel_rfl) (by kernel_rfl) (fun _ _ _ h => h) (Ex.move rfl) (ulC (ulC ulN)) (by decide) ?_
 refine GH.take 2 (v := (.int .i64 0)) rfl (by kernel_rfl) (by kernel_rfl) (by kernel_rfl) (fun _ _ _ h => h) (Ex.move rfl) (ulC (ulC ulN)) (by decide) ?_
 refine GH.take 4 (v := (.pointer (some ⟨bq1, 0, none⟩))) rfl (by kernel_rfl) (by kernel_rfl) (by kernel_rfl) (fun _ _ _ h => h) (Ex.cast (Ex.fieldAddr rfl Try.underlying67 rfl T.sz3 (by decide)) rfl) (ulC (ulC ulN)) (by decide) ?_
 refine GH.take 5 (v := (.int .i64 23)) rfl (by kernel_rfl) (by kernel_rfl) (by kernel_rfl) (fun _ _ _ h => h) (Ex.load rfl T.ag3 (i := 1) rfl rfl) (ulC (ulC ulN)) (by decide) ?_
 refine GH.take 6 (v := (.int .i64 24)) rfl (by kernel_rfl) (by kernel_rfl) (by kernel_rfl) (fun _ _ _ h => h) (Ex.add rfl rfl (Z := 24) (by decide)) (ulC (ulC ulN)) (by decide) ?_
 refine GH.take 8 (v := (.int .i64 (-149))) rfl (by kernel_rfl) (by kernel_rfl) (by kernel_rfl) (fun _ _ _ h => h) (Ex.move rfl) (ulC (ulC ulN)) (by decide) ?_
 refine GH.one 1 rfl (by kernel_rfl) (Stp.callR (vs := [(.slice ad 0 c)]) rfl rfl T.own88 (by decide) (fun wc hw => bits_0 ad c wc)) (fun _ => (ulC (ulC ulN))) (fun xq9 hq10 => ?_)
 refine GH.take 3 (v := (.int .i64 0)) rfl (by kernel_rfl) (by kernel_rfl) (by kernel_rfl) (fun _ _ _ h => h) (Ex.add rfl rfl (Z := 0) (by decide)) (ulC (ulC ulN)) (by decide) ?_
 refine GH.take 7 (v := (.int .i64 (-24))) rfl (by kernel_rfl) (by kernel_rfl) (by kernel_rfl) (fun _ _ _ h => h) (Ex.sub' rfl rfl (Z := -24) (by decide)) (ulC (ulC ulN)) (by decide) ?_
 refine GH.take 9 (v := (.int .i64 ((-24)))) rfl (by kernel_rfl) (by kernel_rfl) (by kernel_rfl) (fun _ _ _ h => h) (Ex.maxI rfl rfl (Z := (-24)) (by decide)) (ulC (ulC ulN)) (by decide) ?_
 refine GH.done (by kernel_rfl) ?_
 refine GE.thenN ?_
 refine GE.tail rfl (Ex.wp (v := (.int .i64 ((-24)))) (Ex.assign rfl) (by decide)) (fun _ _ => ?_)
 refine GE.thenN ?_
 refine GC.seq ?_
 refine GC.region ?_
 refine GL.val (Ex.assign rfl) (by decide) ?_
 refine GL.nil ?_
 refine GE.thenN ?_
 refine GC.seq ?_
 refine GC.seq ?_
 refine GC.region ?_
 refine GL.val (Ex.move rfl) (by decide) ?_
 refine GL.val (Ex.move rfl) (by decide) ?_
 refine GL.val (v := (.bool false)) (Ex.cast (Ex.gtr rfl rfl) rfl) (by decide) ?_
 refine GL.nil ?_
 refine GE.thenN ?_
 refine GC.cond rfl (fun hq11 => by cases hq11) (fun _ => ?_)
 refine GC.region ?_
 refine GL.val (Ex.move rfl) (by decide) ?_
 refine GL.val (Ex.move rfl) (by decide) ?_
 refine GL.val (Ex.move rfl) (by decide) ?_
 refine GL.val (v := (.int .i64 24)) (Ex.sub' rfl rfl (Z := 24) (by decide)) (by decide) ?_
 refine GL.step (Stp.callR (vs := [(.slice ad 0 c), (.int .i64 24)]) rfl rfl T.own61 (by decide) (fun wc hw => up_0 ad c 24 wc)) (fun xq12 hq13 => ?_)
 refine GL.val (Ex.assign rfl) (by decide) ?_
 refine GL.nil ?_
 refine GE.thenN ?_
 refine GC.seq ?_
 refine GC.seq ?_
 refine GC.region ?_
 refine GL.val (Ex.move rfl) (by decide) ?_
 refine GL.nil ?_
 refine GE.thenN ?_
 refine GC.cond rfl (fun hq14 => by cases hq14) (fun _ => ?_)
 refine GC.skip ?_
 refine GE.thenN ?_
 refine GC.seq ?_
 refine GC.seq ?_
 refine GC.draw [⟨bq2, [(.int .i64 2), (.bool false), (.slice ad 0 c), (.int .i64 0), (.bool false)], 38, true⟩, ⟨bq1, [(.int .i64 23), (.int .i64 8)], 67, true⟩] T.mixed (fuel := 6) rfl rfl ?_
 refine GH.take 0 (v := (.slice none 0 0)) rfl (by kernel_rfl) (by kernel_rfl) (by kernel_rfl) (fun _ _ _ h => h) (Ex.move rfl) (ulC (ulC ulN)) (by decide) ?_
 refine GH.take 2 (v := (.pointer (some ⟨bq1, 0, none⟩))) rfl (by kernel_rfl) (by kernel_rfl) (by kernel_rfl) (fun _ _ _ h => h) (Ex.cast (Ex.fieldAddr rfl Try.underlying67 rfl T.sz3 (by decide)) rfl) (ulC (ulC ulN)) (by decide) ?_
 refine GH.take 3 (v := (.int .i64 23)) rfl (by kernel_rfl) (by kernel_rfl) (by kernel_rfl) (fun _ _ _ h => h) (Ex.load rfl T.ag3 (i := 1) rfl rfl) (ulC (ulC ulN)) (by decide) ?_
 refine GH.take 4 (v := (.int .i64 24)) rfl (by kernel_rfl) (by kernel_rfl) (by kernel_rfl) (fun _ _ _ h => h) (Ex.add rfl rfl (Z := 24) (by decide)) (ulC (ulC ulN)) (by decide) ?_
 refine GH.one 1 rfl (by kernel_rfl) (Stp.callR (vs := [(.slice none 0 0)]) rfl rfl T.own88 (by decide) (fun wc hw => bits_0 none 0 wc)) (fun _ => (ulC (ulC ulN))) (fun xq17 hq18 => ?_)
 refine GH.take 5 (v := (.bool false)) rfl (by kernel_rfl) (by kernel_rfl) (by kernel_rfl) (fun _ _ _ h => h) (Ex.cast (Ex.gtr rfl rfl) rfl) (ulC (ulC ulN)) (by decide) ?_
 refine GH.done (by kernel_rfl) ?_
 refine GE.thenN ?_
 refine GC.cond rfl (fun hq19 => by cases hq19) (fun _ => ?_)
 refine GC.skip ?_
 refine GE.thenN ?_
 refine GC.seq ?_
 refine GC.region ?_
 refine GL.val (Ex.move rfl) (by decide) ?_
 refine GL.step (Stp.callR (vs := [(.slice none 0 0)]) rfl rfl T.own89 (by decide) (fun wc hw => low_0 none 0 wc)) (fun xq20 hq21 => ?_)
 refine GL.val (Ex.assign rfl) (by decide) ?_
 refine GL.nil ?_
 refine GE.thenN ?_
 refine GC.seq ?_
 refine GC.seq ?_
 refine GC.region ?_
 refine GL.val (Ex.move rfl) (by decide) ?_
 refine GL.val (v := (.pointer (some ⟨bq1, 0, none⟩))) (Ex.cast (Ex.fieldAddr rfl Try.underlying67 rfl T.sz3 (by decide)) rfl) (by decide) ?_
 refine GL.val (Ex.load rfl T.ag3 (i := 1) rfl rfl) (by decide) ?_
 refine GL.val (v := (.int .u64 8388608)) (Ex.shl rfl (m := 23) rfl (by decide) (Z := 8388608) (by decide)) (by decide) ?_
 refine GL.val (v := (.bool true)) (Ex.cast (Ex.lss rfl rfl) rfl) (by decide) ?_
 refine GL.nil ?_
 refine GE.thenN ?_
 refine GC.cond rfl (fun _ => ?_) (fun hq22 => by cases hq22)
 refine GC.seq ?_
 refine GC.region ?_
 refine GL.val (v := (.agg #[(.int .i64 23), (.int .i64 8)])) (Ex.loadA rfl T.ag67 T.sz67 (i := 1) rfl (vs := [(.int .i64 23), (.int .i64 8)]) rfl rfl) (by decide) ?_
 refine GL.val (v := (.pointer (some ⟨bq2, 1, none⟩))) (Ex.cast (Ex.fieldAddr rfl Try.underlying38 rfl T.sz4 (by decide)) rfl) (by decide) ?_
 refine GL.val (Ex.load rfl T.ag4 (i := 0) rfl rfl) (by decide) ?_
 refine GL.step (Stp.callR (vs := [(.agg #[(.int .i64 23), (.int .i64 8)]), (.bool false)]) rfl rfl T.own87 (by decide) (fun wc hw => sign_p false wc)) (fun xq23 hq24 => ?_)
 refine GL.val (Ex.move rfl) (by decide) ?_
 refine GL.val (v := (.int .u64 0)) (Ex.bits rfl rfl (by simp) (Z := 0) (by decide)) (by decide) ?_
 refine GL.val (Ex.assign rfl) (by decide) ?_
 refine GL.nil ?_
 refine GE.thenN ?_
 refine GC.ret ?_
 refine GE.thenR ?_
 refine GC.ret1 rfl (Rv.tmp rfl) (fun wN HN => ?_)
 exact HN.ret () trivial (by rfl) (List.nil_sublist _) rfl

set_option maxRecDepth 100000 in
set_option maxHeartbeats 1000000 in
theorem bitsN_00 (ad : Option Addr) (c : Nat) (w : World) :
  Calls Try.prog 67 #[(.agg #[(.int .i64 2), (.bool false), (.slice ad 0 c), (.int .i64 0), (.bool false)])] w (Ret w (fun _ : Unit => True) (fun _ => (.int .u32 0)) (fun _ => [])) := by
 refine enter (M := None) (L := []) (n := 7) (l := [(0, (.agg #[(.int .i64 2), (.bool false), (.slice ad 0 c), (.int .i64 0), (.bool false)]))]) Try.func67 rfl rfl (Args.cons rfl (Args.nil _)) (Hp.start _ _) ?_
 refine GC.seq ?_
 refine GC.region ?_
 refine GL.step (Stp.box (cs := [(.int .i64 2), (.bool false), (.slice ad 0 c), (.int .i64 0), (.bool false)]) rfl rfl (by decide)) (fun bq1 _ => ?_)
 refine GL.val (Ex.assign rfl) (by decide) ?_
 refine GL.nil ?_
 refine GE.thenN ?_
 refine GC.seq ?_
 refine GC.drawP [⟨bq1, [(.int .i64 2), (.bool false), (.slice ad 0 c), (.int .i64 0), (.bool false)], 38, true⟩] T.mixed (by kernel_rfl) (by kernel_rfl) (fuel := 4) rfl rfl ?_
 refine GH.take 1 (v := (.agg #[(.int .i64 2), (.bool false), (.slice ad 0 c), (.int .i64 0), (.bool false)])) rfl (by kernel_rfl) (by kernel_rfl) (by kernel_rfl) (fun _ _ _ h => h) (Ex.loadA rfl T.ag38 T.sz38 (i := 0) rfl (vs := [(.int .i64 2), (.bool false), (.slice ad 0 c), (.int .i64 0), (.bool false)]) rfl rfl) (ulC ulN) (by decide) ?_
 refine GH.one 0 rfl (by kernel_rfl) (Stp.callR (vs := []) rfl rfl T.own58 (by decide) (fun wc hw => j58_3  wc )) (fun _ => (ulC ulN)) (fun xq6 hq7 => ?_)
 refine GH.one 2 rfl (by kernel_rfl) (Stp.callR (vs := [(.agg #[(.int .i64 23), (.int .i64 8)]), (.agg #[(.int .i64 2), (.bool false), (.slice ad 0 c), (.int .i64 0), (.bool false)])]) rfl rfl T.own75 (by decide) (fun wc hw => round_00 ad c wc)) (fun _ => (ulC ulN)) (fun xq8 hq9 => ?_)
 refine GH.take 3 (v := (.int .u32 0)) rfl (by kernel_rfl) (by kernel_rfl) (by kernel_rfl) (fun _ _ _ h => h) (Ex.conv rfl Try.underlying70 Try.underlying23 (Z := 0) (by rw [wu32]; omega)) (ulC ulN) (by decide) ?_
 refine GH.done (by kernel_rfl) ?_
 refine GE.thenN ?_
 refine GE.tail rfl (Ex.wp (v := (.int .u32 0)) (Ex.assign rfl) (by decide)) (fun _ _ => ?_)
 refine GE.thenN ?_
 refine GC.ret ?_
 refine GC.ret1 rfl (Rv.tmp rfl) (fun wN HN => ?_)
 exact HN.ret () trivial (by rfl) (List.nil_sublist _) rfl

set_option maxRecDepth 100000 in
set_option maxHeartbeats 1000000 in
theorem fromint_n (k : Int) (w : World) (hk : k ≠ 0) (hb : -2147483648 < k ∧ k < 2147483648) :
  Calls Try.prog 37 #[(.int .i64 k)] w (Ret w (fun _ : Unit => True) (fun _ => (.int .u32 ((Lg.sg (decide (k < 0)) + ((Lg.RD k.natAbs 0 : Nat) : Int))))) (fun _ => [])) := by
 refine enter (M := None) (L := []) (n := 16) (l := [(0, (.int .i64 k))]) Try.func37 rfl rfl (Args.cons rfl (Args.nil _)) (Hp.start _ _) ?_
 refine GC.seq ?_
 refine GC.region ?_
 refine GL.val (Ex.assign rfl) (by decide) ?_
 refine GL.nil ?_
 refine GE.thenN ?_
 refine GC.seq ?_
 refine GC.region ?_
 refine GL.val (Ex.move rfl) (by decide) ?_
 refine GL.val (v := (.int .u64 ((k % 18446744073709551616)))) (Ex.conv rfl Try.underlying2 Try.underlying70 (Z := (k % 18446744073709551616)) (wu64 _)) (by decide) ?_
 refine GL.val (Ex.assign rfl) (by decide) ?_
 refine GL.nil ?_
 refine GE.thenN ?_
 refine GC.seq ?_
 refine GC.seq ?_
 refine GC.region ?_
 refine GL.val (Ex.move rfl) (by decide) ?_
 refine GL.val (v := (.bool (decide (k < 0)))) (Ex.lss rfl rfl) (by decide) ?_
 refine GL.nil ?_
 refine GE.thenN ?_
 refine GC.cond rfl (fun hq1 => ?_) (fun hq1 => ?_)
 ·replace hq1 := of_decide_eq_true hq1
  refine GC.region ?_
  refine GL.val (Ex.move rfl) (by decide) ?_
  refine GL.val (v := (.int .u64 (((k.natAbs : Nat) : Int)))) (Ex.neg rfl (Z := ((k.natAbs : Nat) : Int)) (by rw [wu64]; omega)) (by decide) ?_
  refine GL.val (Ex.assign rfl) (by decide) ?_
  refine GL.nil ?_
  refine GE.thenN ?_
  refine GC.seq ?_
  refine GC.region ?_
  refine GL.val (Ex.move rfl) (by decide) ?_
  refine GL.val (v := (.bool (decide (k < 0)))) (Ex.lss rfl rfl) (by decide) ?_
  refine GL.val (Ex.move rfl) (by decide) ?_
  refine GL.step (Stp.callR (vs := [(.int .u64 (((k.natAbs : Nat) : Int)))]) rfl rfl T.own62 (by decide) (fun wc hw => natof_pos k.natAbs wc (by omega))) (fun xq2 hq3 => ?_)
  refine GL.val (v := (.agg #[(.int .i64 2), (.bool (decide (k < 0))), (.slice (some ⟨xq2, 0, none⟩) 1 2), (.int .i64 0), (.bool false)])) (Ex.build (vs := [(0, (.int .i64 2)), (1, (.bool (decide (k < 0)))), (2, (.slice (some ⟨xq2, 0, none⟩) 1 2))]) rfl (by first | rfl | kernel_rfl)) (by decide) ?_
  refine GL.step (Stp.callR (vs := [(.agg #[(.int .i64 2), (.bool (decide (k < 0))), (.slice (some ⟨xq2, 0, none⟩) 1 2), (.int .i64 0), (.bool false)])]) rfl rfl T.own67 (by decide) (fun wc hw => bitsN k.natAbs xq2 2 0 (decide (k < 0)) wc (by omega) (Lg.rd1 (hw.rdOf (i := 0) rfl 0)) (by decide))) (fun xq4 hq5 => ?_)
  refine GL.val (Ex.assign rfl) (by decide) ?_
  refine GL.nil ?_
  refine GE.thenN ?_
  refine GC.ret ?_
  refine GC.ret1 rfl (Rv.tmp rfl) (fun wN HN => ?_)
  exact HN.ret () trivial (by rfl) (List.nil_sublist _) rfl
 ·replace hq1 := of_decide_eq_false hq1
  refine GC.skip ?_
  refine GE.thenN ?_
  refine GC.seq ?_
  rw [show k % 18446744073709551616 = ((k.natAbs : Nat) : Int) from by omega]
  refine GC.region ?_
  refine GL.val (Ex.move rfl) (by decide) ?_
  refine GL.val (v := (.bool (decide (k < 0)))) (Ex.lss rfl rfl) (by decide) ?_
  refine GL.val (Ex.move rfl) (by decide) ?_
  refine GL.step (Stp.callR (vs := [(.int .u64 (((k.natAbs : Nat) : Int)))]) rfl rfl T.own62 (by decide) (fun wc hw => natof_pos k.natAbs wc (by omega))) (fun xq6 hq7 => ?_)
  refine GL.val (v := (.agg #[(.int .i64 2), (.bool (decide (k < 0))), (.slice (some ⟨xq6, 0, none⟩) 1 2), (.int .i64 0), (.bool false)])) (Ex.build (vs := [(0, (.int .i64 2)), (1, (.bool (decide (k < 0)))), (2, (.slice (some ⟨xq6, 0, none⟩) 1 2))]) rfl (by first | rfl | kernel_rfl)) (by decide) ?_
  refine GL.step (Stp.callR (vs := [(.agg #[(.int .i64 2), (.bool (decide (k < 0))), (.slice (some ⟨xq6, 0, none⟩) 1 2), (.int .i64 0), (.bool false)])]) rfl rfl T.own67 (by decide) (fun wc hw => bitsN k.natAbs xq6 2 0 (decide (k < 0)) wc (by omega) (Lg.rd1 (hw.rdOf (i := 0) rfl 0)) (by decide))) (fun xq8 hq9 => ?_)
  refine GL.val (Ex.assign rfl) (by decide) ?_
  refine GL.nil ?_
  refine GE.thenN ?_
  refine GC.ret ?_
  refine GC.ret1 rfl (Rv.tmp rfl) (fun wN HN => ?_)
  exact HN.ret () trivial (by rfl) (List.nil_sublist _) rfl

set_option maxRecDepth 100000 in
set_option maxHeartbeats 1000000 in
theorem fromint_0 (w : World) :
  Calls Try.prog 37 #[(.int .i64 0)] w (Ret w (fun _ : Unit => True) (fun _ => (.int .u32 0)) (fun _ => [])) := by
 refine enter (M := None) (L := []) (n := 16) (l := [(0, (.int .i64 0))]) Try.func37 rfl rfl (Args.cons rfl (Args.nil _)) (Hp.start _ _) ?_
 refine GC.seq ?_
 refine GC.region ?_
 refine GL.val (Ex.assign rfl) (by decide) ?_
 refine GL.nil ?_
 refine GE.thenN ?_
 refine GC.seq ?_
 refine GC.region ?_
 refine GL.val (Ex.move rfl) (by decide) ?_
 refine GL.val (v := (.int .u64 0)) (Ex.conv rfl Try.underlying2 Try.underlying70 (Z := 0) (by rw [wu64]; omega)) (by decide) ?_
 refine GL.val (Ex.assign rfl) (by decide) ?_
 refine GL.nil ?_
 refine GE.thenN ?_
 refine GC.seq ?_
 refine GC.seq ?_
 refine GC.region ?_
 refine GL.val (Ex.move rfl) (by decide) ?_
 refine GL.val (v := (.bool false)) (Ex.cast (Ex.lss rfl rfl) rfl) (by decide) ?_
 refine GL.nil ?_
 refine GE.thenN ?_
 refine GC.cond rfl (fun hq1 => by cases hq1) (fun _ => ?_)
 refine GC.skip ?_
 refine GE.thenN ?_
 refine GC.seq ?_
 refine GC.region ?_
 refine GL.val (Ex.move rfl) (by decide) ?_
 refine GL.val (v := (.bool false)) (Ex.cast (Ex.lss rfl rfl) rfl) (by decide) ?_
 refine GL.val (Ex.move rfl) (by decide) ?_
 refine GL.step (Stp.callR (vs := [(.int .u64 0)]) rfl rfl T.own62 (by decide) (fun wc hw => natof_0 wc)) (fun xq2 hq3 => ?_)
 refine GL.val (v := (.agg #[(.int .i64 2), (.bool false), (.slice (some ⟨xq2, 0, none⟩) 0 2), (.int .i64 0), (.bool false)])) (Ex.build (vs := [(0, (.int .i64 2)), (1, (.bool false)), (2, (.slice (some ⟨xq2, 0, none⟩) 0 2))]) rfl (by first | rfl | kernel_rfl)) (by decide) ?_
 refine GL.step (Stp.callR (vs := [(.agg #[(.int .i64 2), (.bool false), (.slice (some ⟨xq2, 0, none⟩) 0 2), (.int .i64 0), (.bool false)])]) rfl rfl T.own67 (by decide) (fun wc hw => bitsN_00 (some ⟨xq2, 0, none⟩) 2 wc)) (fun xq4 hq5 => ?_)
 refine GL.val (Ex.assign rfl) (by decide) ?_
 refine GL.nil ?_
 refine GE.thenN ?_
 refine GC.ret ?_
 refine GC.ret1 rfl (Rv.tmp rfl) (fun wN HN => ?_)
 exact HN.ret () trivial (by rfl) (List.nil_sublist _) rfl

theorem fromint_all (k : Int) (w : World) (hb : -2147483648 < k ∧ k < 2147483648) : Calls Try.prog 37 #[.int .i64 k] w (Ret w (fun _ : Unit => True) (fun _ => (.int .u32 ((Lb.FI k)))) (fun _ => [])) := by
 unfold Lb.FI
 by_cases hk : k = 0
 ·rw [if_pos hk, hk]; exact fromint_0 w
 ·rw [if_neg hk]; exact fromint_n k w hk hb

theorem off_ne (a b e : Int) (n1 n2 : Nat) (w : World) (ha : 0 ≤ a ∧ a < 4294967296) (hfa : a % 2147483648 < 2139095040) (hb : 0 ≤ b ∧ b < 4294967296) (hfb : b % 2147483648 < 2139095040) (he1 : Bt.expo a = e + ((n1 : Nat) : Int)) (he2 : Bt.expo b = e + ((n2 : Nat) : Int)) (hn12 : n1 = 0 ∨ n2 = 0) (hn1 : n1 ≤ 3000) (hn2 : n2 ≤ 3000) (heb : -100000 ≤ e ∧ e ≤ 100000) (hab : a ≠ b) : Calls Try.prog 34 #[.int .u32 a, .int .u32 b] w (Ret w (fun z' : Nat × Nat => Nd.nd (Lb.dfr (decide (a / 2147483648 % 2 = 1)) (decide (b / 2147483648 % 2 = 1)) ((Bt.mant a).toNat * 2 ^ n1) ((Bt.mant b).toNat * 2 ^ n2)) ≤ z'.2) (fun z' => (.agg #[(.int .i64 2), (.bool false), (.slice (some ⟨z'.1, 0, none⟩) ((Nd.nd (Lb.dfr (decide (a / 2147483648 % 2 = 1)) (decide (b / 2147483648 % 2 = 1)) ((Bt.mant a).toNat * 2 ^ n1) ((Bt.mant b).toNat * 2 ^ n2)))) z'.2), (.int .i64 e), (.bool false)])) (fun z' => [⟨z'.1, (Nd.dl z'.2 (Lb.dfr (decide (a / 2147483648 % 2 = 1)) (decide (b / 2147483648 % 2 = 1)) ((Bt.mant a).toNat * 2 ^ n1) ((Bt.mant b).toNat * 2 ^ n2))).map u32, 23, true⟩])) := by
 by_cases hg : (decide (a / 2147483648 % 2 = 1)) = !(decide (b / 2147483648 % 2 = 1))
 ·exact off_same a b e n1 n2 w ha hfa hb hfb he1 he2 hn12 hn1 hn2 heb hg
 ·rcases Nat.lt_trichotomy ((Bt.mant a).toNat * 2 ^ n1) ((Bt.mant b).toNat * 2 ^ n2) with q | q | q
  ·exact off_lt a b e n1 n2 w ha hfa hb hfb he1 he2 hn12 hn1 hn2 heb hg q
  ·exact absurd (Lb.eq_of ha hfa hb hfb he1 he2 (by have := Lb.expo_bd ha hfa; have := Lb.expo_bd hb hfb; omega) hg q) hab
  ·exact off_gt a b e n1 n2 w ha hfa hb hfb he1 he2 hn12 hn1 hn2 heb hg q

end Go.Proofs.Ytbhjadkgeadpiaa.C
