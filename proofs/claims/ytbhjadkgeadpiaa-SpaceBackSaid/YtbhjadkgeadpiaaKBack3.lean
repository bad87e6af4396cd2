/- SpaceBack: what its code does, walked. -/
import Derived.Test.YtbhjadkgeadpiaaKBack2
namespace Go.Proofs.Ytbhjadkgeadpiaa.C
open Go Go.RowKit Sx
set_option linter.unusedVariables false
set_option maxRecDepth 100000 in
set_option maxHeartbeats 1000000 in
theorem within_b (x bx cx z bz cz : Nat) (e e1 e2 : Int) (n1 n2 : Nat) (g1 g2 : Bool) (w : World) (hrx : Nd.Nb w bx x) (hnx : Nd.nd x ≤ 50) (hrz : Nd.Nb w bz z) (hnz : Nd.nd z ≤ 50) (he1 : e1 = e + ((n1 : Nat) : Int)) (he2 : e2 = e + ((n2 : Nat) : Int)) (hn12 : n1 = 0 ∨ n2 = 0) (hn1 : n1 ≤ 3000) (hn2 : n2 ≤ 3000) (heb : -100000 ≤ e ∧ e ≤ 100000) :
  Calls Try.prog 30 #[(.agg #[(.int .i64 2), (.bool g1), (.slice (some ⟨bx, 0, none⟩) ((Nd.nd x)) cx), (.int .i64 e1), (.bool false)]), (.agg #[(.int .i64 2), (.bool g2), (.slice (some ⟨bz, 0, none⟩) ((Nd.nd z)) cz), (.int .i64 e2), (.bool false)])] w (Ret w (fun _ : Unit => True) (fun _ => (.bool (decide (x * 2 ^ n1 ≤ z * 2 ^ n2)))) (fun _ => [])) := by
 have hXn : Nd.nd (x * 2 ^ n1) ≤ Nd.nd x + n1 / 32 + 1 := Nd.nd_le Nd.up_lt
 have hZn : Nd.nd (z * 2 ^ n2) ≤ Nd.nd z + n2 / 32 + 1 := Nd.nd_le Nd.up_lt
 refine enter (M := None) (L := []) (n := 27) (l := [(0, (.agg #[(.int .i64 2), (.bool g1), (.slice (some ⟨bx, 0, none⟩) ((Nd.nd x)) cx), (.int .i64 e1), (.bool false)])), (1, (.agg #[(.int .i64 2), (.bool g2), (.slice (some ⟨bz, 0, none⟩) ((Nd.nd z)) cz), (.int .i64 e2), (.bool false)]))]) Try.func30 rfl rfl (Args.cons rfl (Args.cons rfl (Args.nil _))) (Hp.start _ _) ?_
 refine GC.seq ?_
 refine GC.region ?_
 refine GL.step (Stp.box (cs := [(.int .i64 2), (.bool g1), (.slice (some ⟨bx, 0, none⟩) ((Nd.nd x)) cx), (.int .i64 e1), (.bool false)]) rfl rfl (by decide)) (fun bq1 _ => ?_)
 refine GL.step (Stp.box (cs := [(.int .i64 2), (.bool g2), (.slice (some ⟨bz, 0, none⟩) ((Nd.nd z)) cz), (.int .i64 e2), (.bool false)]) rfl rfl (by decide)) (fun bq2 _ => ?_)
 refine GL.val (Ex.assign rfl) (by decide) ?_
 refine GL.nil ?_
 refine GE.thenN ?_
 refine GC.seq ?_
 refine GC.region ?_
 refine GL.val (v := (.pointer (some ⟨bq1, 3, none⟩))) (Ex.cast (Ex.fieldAddr rfl Try.underlying38 rfl T.sz3 (by decide)) rfl) (by decide) ?_
 refine GL.val (Ex.load rfl T.ag3 (i := 1) rfl rfl) (by decide) ?_
 refine GL.val (v := (.pointer (some ⟨bq2, 3, none⟩))) (Ex.cast (Ex.fieldAddr rfl Try.underlying38 rfl T.sz3 (by decide)) rfl) (by decide) ?_
 refine GL.val (Ex.load rfl T.ag3 (i := 0) rfl rfl) (by decide) ?_
 refine GL.val (v := (.int .i64 e)) (Ex.minI rfl rfl (Z := e) (by split <;> omega)) (by decide) ?_
 refine GL.val (Ex.assign rfl) (by decide) ?_
 refine GL.nil ?_
 refine GE.thenN ?_
 refine GC.seq ?_
 by_cases hx0 : x = 0
 ·by_cases hz0 : z = 0
  ·refine GC.drawP [⟨bq2, [(.int .i64 2), (.bool g2), (.slice (some ⟨bz, 0, none⟩) ((Nd.nd z)) cz), (.int .i64 e2), (.bool false)], 38, true⟩, ⟨bq1, [(.int .i64 2), (.bool g1), (.slice (some ⟨bx, 0, none⟩) ((Nd.nd x)) cx), (.int .i64 e1), (.bool false)], 38, true⟩] T.mixed (by kernel_rfl) (by kernel_rfl) (fuel := 16) rfl rfl ?_
   refine GH.take 0 (v := (.pointer (some ⟨bq1, 2, none⟩))) rfl (by kernel_rfl) (by kernel_rfl) (by kernel_rfl) (fun _ _ _ h => h) (Ex.cast (Ex.fieldAddr rfl Try.underlying38 rfl T.sz36 (by decide)) rfl) (ulC (ulC ulN)) (by decide) ?_
   refine GH.take 1 (v := (.slice (some ⟨bx, 0, none⟩) ((Nd.nd x)) cx)) rfl (by kernel_rfl) (by kernel_rfl) (by kernel_rfl) (fun _ _ _ h => h) (Ex.load rfl T.ag36 (i := 1) rfl rfl) (ulC (ulC ulN)) (by decide) ?_
   refine GH.take 2 (v := (.pointer (some ⟨bq1, 3, none⟩))) rfl (by kernel_rfl) (by kernel_rfl) (by kernel_rfl) (fun _ _ _ h => h) (Ex.cast (Ex.fieldAddr rfl Try.underlying38 rfl T.sz3 (by decide)) rfl) (ulC (ulC ulN)) (by decide) ?_
   refine GH.take 3 (v := (.int .i64 e1)) rfl (by kernel_rfl) (by kernel_rfl) (by kernel_rfl) (fun _ _ _ h => h) (Ex.load rfl T.ag3 (i := 1) rfl rfl) (ulC (ulC ulN)) (by decide) ?_
   refine GH.take 4 (v := (.int .i64 e)) rfl (by kernel_rfl) (by kernel_rfl) (by kernel_rfl) (fun _ _ _ h => h) (Ex.move rfl) (ulC (ulC ulN)) (by decide) ?_
   refine GH.take 5 (v := (.int .i64 (((n1 : Nat) : Int)))) rfl (by kernel_rfl) (by kernel_rfl) (by kernel_rfl) (fun _ _ _ h => h) (Ex.sub' rfl rfl (Z := ((n1 : Nat) : Int)) (by rw [w64 (by omega)]; omega)) (ulC (ulC ulN)) (by decide) ?_
   refine GH.take 7 (v := (.pointer (some ⟨bq2, 2, none⟩))) rfl (by kernel_rfl) (by kernel_rfl) (by kernel_rfl) (fun _ _ _ h => h) (Ex.cast (Ex.fieldAddr rfl Try.underlying38 rfl T.sz36 (by decide)) rfl) (ulC (ulC ulN)) (by decide) ?_
   refine GH.take 8 (v := (.slice (some ⟨bz, 0, none⟩) ((Nd.nd z)) cz)) rfl (by kernel_rfl) (by kernel_rfl) (by kernel_rfl) (fun _ _ _ h => h) (Ex.load rfl T.ag36 (i := 0) rfl rfl) (ulC (ulC ulN)) (by decide) ?_
   refine GH.take 9 (v := (.pointer (some ⟨bq2, 3, none⟩))) rfl (by kernel_rfl) (by kernel_rfl) (by kernel_rfl) (fun _ _ _ h => h) (Ex.cast (Ex.fieldAddr rfl Try.underlying38 rfl T.sz3 (by decide)) rfl) (ulC (ulC ulN)) (by decide) ?_
   refine GH.take 10 (v := (.int .i64 e2)) rfl (by kernel_rfl) (by kernel_rfl) (by kernel_rfl) (fun _ _ _ h => h) (Ex.load rfl T.ag3 (i := 0) rfl rfl) (ulC (ulC ulN)) (by decide) ?_
   refine GH.take 11 (v := (.int .i64 e)) rfl (by kernel_rfl) (by kernel_rfl) (by kernel_rfl) (fun _ _ _ h => h) (Ex.move rfl) (ulC (ulC ulN)) (by decide) ?_
   refine GH.take 12 (v := (.int .i64 (((n2 : Nat) : Int)))) rfl (by kernel_rfl) (by kernel_rfl) (by kernel_rfl) (fun _ _ _ h => h) (Ex.sub' rfl rfl (Z := ((n2 : Nat) : Int)) (by rw [w64 (by omega)]; omega)) (ulC (ulC ulN)) (by decide) ?_
   refine GH.one 6 rfl (by kernel_rfl) (Stp.callR (vs := [(.slice (some ⟨bx, 0, none⟩) ((Nd.nd x)) cx), (.int .i64 (((n1 : Nat) : Int)))]) rfl rfl T.own61 (by decide) (fun wc hw => up_z x bx cx n1 wc (by rw [hx0]; rfl))) (fun _ => (ulC (ulC ulN))) (fun xq9 hq10 => ?_)
   refine GH.one 13 rfl (by kernel_rfl) (Stp.callR (vs := [(.slice (some ⟨bz, 0, none⟩) ((Nd.nd z)) cz), (.int .i64 (((n2 : Nat) : Int)))]) rfl rfl T.own61 (by decide) (fun wc hw => up_z z bz cz n2 wc (by rw [hz0]; rfl))) (fun _ => (ulC (ulC ulN))) (fun xq11 hq12 => ?_)
   refine GH.one 14 rfl (by kernel_rfl) (Stp.callR (vs := [(.slice none 0 0), (.slice none 0 0)]) rfl rfl T.own60 (by decide) (fun wc hw => cmpV_nn (x * 2 ^ n1) none 0 (z * 2 ^ n2) none 0 wc (by rw [hx0, Nat.zero_mul]) (by rw [hz0, Nat.zero_mul]))) (fun _ => (ulC (ulC ulN))) (fun xq13 hq14 => ?_)
   refine GH.take 15 (v := (.bool (decide (((if (x * 2 ^ n1) < (z * 2 ^ n2) then (-1 : Int) else if (x * 2 ^ n1) = (z * 2 ^ n2) then 0 else 1)) ≤ 0)))) rfl (by kernel_rfl) (by kernel_rfl) (by kernel_rfl) (fun _ _ _ h => h) (Ex.leq rfl rfl) (ulC (ulC ulN)) (by decide) ?_
   refine GH.done (by kernel_rfl) ?_
   refine GE.thenN ?_
   refine GE.tail rfl (Ex.wp (v := (.bool (decide (((if (x * 2 ^ n1) < (z * 2 ^ n2) then (-1 : Int) else if (x * 2 ^ n1) = (z * 2 ^ n2) then 0 else 1)) ≤ 0)))) (Ex.assign rfl) (by decide)) (fun _ _ => ?_)
   refine GE.thenN ?_
   refine GC.ret ?_
   refine GC.ret1 rfl (Rv.tmp rfl) (fun wN HN => ?_)
   exact HN.ret () trivial (congrArg Value.bool (Lb.cmp_le _ _)) (List.nil_sublist _) rfl
  ·refine GC.drawP [⟨bq2, [(.int .i64 2), (.bool g2), (.slice (some ⟨bz, 0, none⟩) ((Nd.nd z)) cz), (.int .i64 e2), (.bool false)], 38, true⟩, ⟨bq1, [(.int .i64 2), (.bool g1), (.slice (some ⟨bx, 0, none⟩) ((Nd.nd x)) cx), (.int .i64 e1), (.bool false)], 38, true⟩] T.mixed (by kernel_rfl) (by kernel_rfl) (fuel := 16) rfl rfl ?_
   refine GH.take 0 (v := (.pointer (some ⟨bq1, 2, none⟩))) rfl (by kernel_rfl) (by kernel_rfl) (by kernel_rfl) (fun _ _ _ h => h) (Ex.cast (Ex.fieldAddr rfl Try.underlying38 rfl T.sz36 (by decide)) rfl) (ulC (ulC ulN)) (by decide) ?_
   refine GH.take 1 (v := (.slice (some ⟨bx, 0, none⟩) ((Nd.nd x)) cx)) rfl (by kernel_rfl) (by kernel_rfl) (by kernel_rfl) (fun _ _ _ h => h) (Ex.load rfl T.ag36 (i := 1) rfl rfl) (ulC (ulC ulN)) (by decide) ?_
   refine GH.take 2 (v := (.pointer (some ⟨bq1, 3, none⟩))) rfl (by kernel_rfl) (by kernel_rfl) (by kernel_rfl) (fun _ _ _ h => h) (Ex.cast (Ex.fieldAddr rfl Try.underlying38 rfl T.sz3 (by decide)) rfl) (ulC (ulC ulN)) (by decide) ?_
   refine GH.take 3 (v := (.int .i64 e1)) rfl (by kernel_rfl) (by kernel_rfl) (by kernel_rfl) (fun _ _ _ h => h) (Ex.load rfl T.ag3 (i := 1) rfl rfl) (ulC (ulC ulN)) (by decide) ?_
   refine GH.take 4 (v := (.int .i64 e)) rfl (by kernel_rfl) (by kernel_rfl) (by kernel_rfl) (fun _ _ _ h => h) (Ex.move rfl) (ulC (ulC ulN)) (by decide) ?_
   refine GH.take 5 (v := (.int .i64 (((n1 : Nat) : Int)))) rfl (by kernel_rfl) (by kernel_rfl) (by kernel_rfl) (fun _ _ _ h => h) (Ex.sub' rfl rfl (Z := ((n1 : Nat) : Int)) (by rw [w64 (by omega)]; omega)) (ulC (ulC ulN)) (by decide) ?_
   refine GH.take 7 (v := (.pointer (some ⟨bq2, 2, none⟩))) rfl (by kernel_rfl) (by kernel_rfl) (by kernel_rfl) (fun _ _ _ h => h) (Ex.cast (Ex.fieldAddr rfl Try.underlying38 rfl T.sz36 (by decide)) rfl) (ulC (ulC ulN)) (by decide) ?_
   refine GH.take 8 (v := (.slice (some ⟨bz, 0, none⟩) ((Nd.nd z)) cz)) rfl (by kernel_rfl) (by kernel_rfl) (by kernel_rfl) (fun _ _ _ h => h) (Ex.load rfl T.ag36 (i := 0) rfl rfl) (ulC (ulC ulN)) (by decide) ?_
   refine GH.take 9 (v := (.pointer (some ⟨bq2, 3, none⟩))) rfl (by kernel_rfl) (by kernel_rfl) (by kernel_rfl) (fun _ _ _ h => h) (Ex.cast (Ex.fieldAddr rfl Try.underlying38 rfl T.sz3 (by decide)) rfl) (ulC (ulC ulN)) (by decide) ?_
   refine GH.take 10 (v := (.int .i64 e2)) rfl (by kernel_rfl) (by kernel_rfl) (by kernel_rfl) (fun _ _ _ h => h) (Ex.load rfl T.ag3 (i := 0) rfl rfl) (ulC (ulC ulN)) (by decide) ?_
   refine GH.take 11 (v := (.int .i64 e)) rfl (by kernel_rfl) (by kernel_rfl) (by kernel_rfl) (fun _ _ _ h => h) (Ex.move rfl) (ulC (ulC ulN)) (by decide) ?_
   refine GH.take 12 (v := (.int .i64 (((n2 : Nat) : Int)))) rfl (by kernel_rfl) (by kernel_rfl) (by kernel_rfl) (fun _ _ _ h => h) (Ex.sub' rfl rfl (Z := ((n2 : Nat) : Int)) (by rw [w64 (by omega)]; omega)) (ulC (ulC ulN)) (by decide) ?_
   refine GH.one 6 rfl (by kernel_rfl) (Stp.callR (vs := [(.slice (some ⟨bx, 0, none⟩) ((Nd.nd x)) cx), (.int .i64 (((n1 : Nat) : Int)))]) rfl rfl T.own61 (by decide) (fun wc hw => up_z x bx cx n1 wc (by rw [hx0]; rfl))) (fun _ => (ulC (ulC ulN))) (fun xq21 hq22 => ?_)
   refine GH.one 13 rfl (by kernel_rfl) (Stp.callR (vs := [(.slice (some ⟨bz, 0, none⟩) ((Nd.nd z)) cz), (.int .i64 (((n2 : Nat) : Int)))]) rfl rfl T.own61 (by decide) (fun wc hw => up_b z bz cz n2 (Nd.nd z + n2 / 32 + 1) wc (hw.rd hrz (fun x => x)) (by omega) (by omega) (by omega) rfl)) (fun _ => (ulS (ulC (ulC ulN)))) (fun xq23 hq24 => ?_)
   refine GH.one 14 rfl (by kernel_rfl) (Stp.callR (vs := [(.slice none 0 0), (.slice (some ⟨xq23, 0, none⟩) ((Nd.nd (z * 2 ^ n2))) ((Nd.nd z + n2 / 32 + 1)))]) rfl rfl T.own60 (by decide) (fun wc hw => cmpV_nb (x * 2 ^ n1) none 0 (z * 2 ^ n2) xq23 ((Nd.nd z + n2 / 32 + 1)) wc (by rw [hx0, Nat.zero_mul]) (Nd.Nb.of (hw.rdOf (i := 0) rfl 0) Nd.up_lt) (by omega))) (fun _ => (ulS (ulC (ulC ulN)))) (fun xq25 hq26 => ?_)
   refine GH.take 15 (v := (.bool (decide (((if (x * 2 ^ n1) < (z * 2 ^ n2) then (-1 : Int) else if (x * 2 ^ n1) = (z * 2 ^ n2) then 0 else 1)) ≤ 0)))) rfl (by kernel_rfl) (by kernel_rfl) (by kernel_rfl) (fun _ _ _ h => h) (Ex.leq rfl rfl) (ulS (ulC (ulC ulN))) (by decide) ?_
   refine GH.done (by kernel_rfl) ?_
   refine GE.thenN ?_
   refine GE.tail rfl (Ex.wp (v := (.bool (decide (((if (x * 2 ^ n1) < (z * 2 ^ n2) then (-1 : Int) else if (x * 2 ^ n1) = (z * 2 ^ n2) then 0 else 1)) ≤ 0)))) (Ex.assign rfl) (by decide)) (fun _ _ => ?_)
   refine GE.thenN ?_
   refine GC.ret ?_
   refine GC.ret1 rfl (Rv.tmp rfl) (fun wN HN => ?_)
   exact HN.ret () trivial (congrArg Value.bool (Lb.cmp_le _ _)) (List.nil_sublist _) rfl
 ·by_cases hz0 : z = 0
  ·refine GC.drawP [⟨bq2, [(.int .i64 2), (.bool g2), (.slice (some ⟨bz, 0, none⟩) ((Nd.nd z)) cz), (.int .i64 e2), (.bool false)], 38, true⟩, ⟨bq1, [(.int .i64 2), (.bool g1), (.slice (some ⟨bx, 0, none⟩) ((Nd.nd x)) cx), (.int .i64 e1), (.bool false)], 38, true⟩] T.mixed (by kernel_rfl) (by kernel_rfl) (fuel := 16) rfl rfl ?_
   refine GH.take 0 (v := (.pointer (some ⟨bq1, 2, none⟩))) rfl (by kernel_rfl) (by kernel_rfl) (by kernel_rfl) (fun _ _ _ h => h) (Ex.cast (Ex.fieldAddr rfl Try.underlying38 rfl T.sz36 (by decide)) rfl) (ulC (ulC ulN)) (by decide) ?_
   refine GH.take 1 (v := (.slice (some ⟨bx, 0, none⟩) ((Nd.nd x)) cx)) rfl (by kernel_rfl) (by kernel_rfl) (by kernel_rfl) (fun _ _ _ h => h) (Ex.load rfl T.ag36 (i := 1) rfl rfl) (ulC (ulC ulN)) (by decide) ?_
   refine GH.take 2 (v := (.pointer (some ⟨bq1, 3, none⟩))) rfl (by kernel_rfl) (by kernel_rfl) (by kernel_rfl) (fun _ _ _ h => h) (Ex.cast (Ex.fieldAddr rfl Try.underlying38 rfl T.sz3 (by decide)) rfl) (ulC (ulC ulN)) (by decide) ?_
   refine GH.take 3 (v := (.int .i64 e1)) rfl (by kernel_rfl) (by kernel_rfl) (by kernel_rfl) (fun _ _ _ h => h) (Ex.load rfl T.ag3 (i := 1) rfl rfl) (ulC (ulC ulN)) (by decide) ?_
   refine GH.take 4 (v := (.int .i64 e)) rfl (by kernel_rfl) (by kernel_rfl) (by kernel_rfl) (fun _ _ _ h => h) (Ex.move rfl) (ulC (ulC ulN)) (by decide) ?_
   refine GH.take 5 (v := (.int .i64 (((n1 : Nat) : Int)))) rfl (by kernel_rfl) (by kernel_rfl) (by kernel_rfl) (fun _ _ _ h => h) (Ex.sub' rfl rfl (Z := ((n1 : Nat) : Int)) (by rw [w64 (by omega)]; omega)) (ulC (ulC ulN)) (by decide) ?_
   refine GH.take 7 (v := (.pointer (some ⟨bq2, 2, none⟩))) rfl (by kernel_rfl) (by kernel_rfl) (by kernel_rfl) (fun _ _ _ h => h) (Ex.cast (Ex.fieldAddr rfl Try.underlying38 rfl T.sz36 (by decide)) rfl) (ulC (ulC ulN)) (by decide) ?_
   refine GH.take 8 (v := (.slice (some ⟨bz, 0, none⟩) ((Nd.nd z)) cz)) rfl (by kernel_rfl) (by kernel_rfl) (by kernel_rfl) (fun _ _ _ h => h) (Ex.load rfl T.ag36 (i := 0) rfl rfl) (ulC (ulC ulN)) (by decide) ?_
   refine GH.take 9 (v := (.pointer (some ⟨bq2, 3, none⟩))) rfl (by kernel_rfl) (by kernel_rfl) (by kernel_rfl) (fun _ _ _ h => h) (Ex.cast (Ex.fieldAddr rfl Try.underlying38 rfl T.sz3 (by decide)) rfl) (ulC (ulC ulN)) (by decide) ?_
   refine GH.take 10 (v := (.int .i64 e2)) rfl (by kernel_rfl) (by kernel_rfl) (by kernel_rfl) (fun _ _ _ h => h) (Ex.load rfl T.ag3 (i := 0) rfl rfl) (ulC (ulC ulN)) (by decide) ?_
   refine GH.take 11 (v := (.int .i64 e)) rfl (by kernel_rfl) (by kernel_rfl) (by kernel_rfl) (fun _ _ _ h => h) (Ex.move rfl) (ulC (ulC ulN)) (by decide) ?_
   refine GH.take 12 (v := (.int .i64 (((n2 : Nat) : Int)))) rfl (by kernel_rfl) (by kernel_rfl) (by kernel_rfl) (fun _ _ _ h => h) (Ex.sub' rfl rfl (Z := ((n2 : Nat) : Int)) (by rw [w64 (by omega)]; omega)) (ulC (ulC ulN)) (by decide) ?_
   refine GH.one 6 rfl (by kernel_rfl) (Stp.callR (vs := [(.slice (some ⟨bx, 0, none⟩) ((Nd.nd x)) cx), (.int .i64 (((n1 : Nat) : Int)))]) rfl rfl T.own61 (by decide) (fun wc hw => up_b x bx cx n1 (Nd.nd x + n1 / 32 + 1) wc (hw.rd hrx (fun x => x)) (by omega) (by omega) (by omega) rfl)) (fun _ => (ulS (ulC (ulC ulN)))) (fun xq33 hq34 => ?_)
   refine GH.one 13 rfl (by kernel_rfl) (Stp.callR (vs := [(.slice (some ⟨bz, 0, none⟩) ((Nd.nd z)) cz), (.int .i64 (((n2 : Nat) : Int)))]) rfl rfl T.own61 (by decide) (fun wc hw => up_z z bz cz n2 wc (by rw [hz0]; rfl))) (fun _ => (ulS (ulC (ulC ulN)))) (fun xq35 hq36 => ?_)
   refine GH.one 14 rfl (by kernel_rfl) (Stp.callR (vs := [(.slice (some ⟨xq33, 0, none⟩) ((Nd.nd (x * 2 ^ n1))) ((Nd.nd x + n1 / 32 + 1))), (.slice none 0 0)]) rfl rfl T.own60 (by decide) (fun wc hw => cmpV_bn (x * 2 ^ n1) xq33 ((Nd.nd x + n1 / 32 + 1)) (z * 2 ^ n2) none 0 wc (Nd.Nb.of (hw.rdOf (i := 0) rfl 0) Nd.up_lt) (by omega) (by rw [hz0, Nat.zero_mul]))) (fun _ => (ulS (ulC (ulC ulN)))) (fun xq37 hq38 => ?_)
   refine GH.take 15 (v := (.bool (decide (((if (x * 2 ^ n1) < (z * 2 ^ n2) then (-1 : Int) else if (x * 2 ^ n1) = (z * 2 ^ n2) then 0 else 1)) ≤ 0)))) rfl (by kernel_rfl) (by kernel_rfl) (by kernel_rfl) (fun _ _ _ h => h) (Ex.leq rfl rfl) (ulS (ulC (ulC ulN))) (by decide) ?_
   refine GH.done (by kernel_rfl) ?_
   refine GE.thenN ?_
   refine GE.tail rfl (Ex.wp (v := (.bool (decide (((if (x * 2 ^ n1) < (z * 2 ^ n2) then (-1 : Int) else if (x * 2 ^ n1) = (z * 2 ^ n2) then 0 else 1)) ≤ 0)))) (Ex.assign rfl) (by decide)) (fun _ _ => ?_)
   refine GE.thenN ?_
   refine GC.ret ?_
   refine GC.ret1 rfl (Rv.tmp rfl) (fun wN HN => ?_)
   exact HN.ret () trivial (congrArg Value.bool (Lb.cmp_le _ _)) (List.nil_sublist _) rfl
  ·refine GC.drawP [⟨bq2, [(.int .i64 2), (.bool g2), (.slice (some ⟨bz, 0, none⟩) ((Nd.nd z)) cz), (.int .i64 e2), (.bool false)], 38, true⟩, ⟨bq1, [(.int .i64 2), (.bool g1), (.slice (some ⟨bx, 0, none⟩) ((Nd.nd x)) cx), (.int .i64 e1), (.bool false)], 38, true⟩] T.mixed (by kernel_rfl) (by kernel_rfl) (fuel := 16) rfl rfl ?_
   refine GH.take 0 (v := (.pointer (some ⟨bq1, 2, none⟩))) rfl (by kernel_rfl) (by kernel_rfl) (by kernel_rfl) (fun _ _ _ h => h) (Ex.cast (Ex.fieldAddr rfl Try.underlying38 rfl T.sz36 (by decide)) rfl) (ulC (ulC ulN)) (by decide) ?_
   refine GH.take 1 (v := (.slice (some ⟨bx, 0, none⟩) ((Nd.nd x)) cx)) rfl (by kernel_rfl) (by kernel_rfl) (by kernel_rfl) (fun _ _ _ h => h) (Ex.load rfl T.ag36 (i := 1) rfl rfl) (ulC (ulC ulN)) (by decide) ?_
   refine GH.take 2 (v := (.pointer (some ⟨bq1, 3, none⟩))) rfl (by kernel_rfl) (by kernel_rfl) (by kernel_rfl) (fun _ _ _ h => h) (Ex.cast (Ex.fieldAddr rfl Try.underlying38 rfl T.sz3 (by decide)) rfl) (ulC (ulC ulN)) (by decide) ?_
   refine GH.take 3 (v := (.int .i64 e1)) rfl (by kernel_rfl) (by kernel_rfl) (by kernel_rfl) (fun _ _ _ h => h) (Ex.load rfl T.ag3 (i := 1) rfl rfl) (ulC (ulC ulN)) (by decide) ?_
   refine GH.take 4 (v := (.int .i64 e)) rfl (by kernel_rfl) (by kernel_rfl) (by kernel_rfl) (fun _ _ _ h => h) (Ex.move rfl) (ulC (ulC ulN)) (by decide) ?_
   refine GH.take 5 (v := (.int .i64 (((n1 : Nat) : Int)))) rfl (by kernel_rfl) (by kernel_rfl) (by kernel_rfl) (fun _ _ _ h => h) (Ex.sub' rfl rfl (Z := ((n1 : Nat) : Int)) (by rw [w64 (by omega)]; omega)) (ulC (ulC ulN)) (by decide) ?_
   refine GH.take 7 (v := (.pointer (some ⟨bq2, 2, none⟩))) rfl (by kernel_rfl) (by kernel_rfl) (by kernel_rfl) (fun _ _ _ h => h) (Ex.cast (Ex.fieldAddr rfl Try.underlying38 rfl T.sz36 (by decide)) rfl) (ulC (ulC ulN)) (by decide) ?_
   refine GH.take 8 (v := (.slice (some ⟨bz, 0, none⟩) ((Nd.nd z)) cz)) rfl (by kernel_rfl) (by kernel_rfl) (by kernel_rfl) (fun _ _ _ h => h) (Ex.load rfl T.ag36 (i := 0) rfl rfl) (ulC (ulC ulN)) (by decide) ?_
   refine GH.take 9 (v := (.pointer (some ⟨bq2, 3, none⟩))) rfl (by kernel_rfl) (by kernel_rfl) (by kernel_rfl) (fun _ _ _ h => h) (Ex.cast (Ex.fieldAddr rfl Try.underlying38 rfl T.sz3 (by decide)) rfl) (ulC (ulC ulN)) (by decide) ?_
   refine GH.take 10 (v := (.int .i64 e2)) rfl (by kernel_rfl) (by kernel_rfl) (by kernel_rfl) (fun _ _ _ h => h) (Ex.load rfl T.ag3 (i := 0) rfl rfl) (ulC (ulC ulN)) (by decide) ?_
   refine GH.take 11 (v := (.int .i64 e)) rfl (by kernel_rfl) (by kernel_rfl) (by kernel_rfl) (fun _ _ _ h => h) (Ex.move rfl) (ulC (ulC ulN)) (by decide) ?_
   refine GH.take 12 (v := (.int .i64 (((n2 : Nat) : Int)))) rfl (by kernel_rfl) (by kernel_rfl) (by kernel_rfl) (fun _ _ _ h => h) (Ex.sub' rfl rfl (Z := ((n2 : Nat) : Int)) (by rw [w64 (by omega)]; omega)) (ulC (ulC ulN)) (by decide) ?_
   refine GH.one 6 rfl (by kernel_rfl) (Stp.callR (vs := [(.slice (some ⟨bx, 0, none⟩) ((Nd.nd x)) cx), (.int .i64 (((n1 : Nat) : Int)))]) rfl rfl T.own61 (by decide) (fun wc hw => up_b x bx cx n1 (Nd.nd x + n1 / 32 + 1) wc (hw.rd hrx (fun x => x)) (by omega) (by omega) (by omega) rfl)) (fun _ => (ulS (ulC (ulC ulN)))) (fun xq45 hq46 => ?_)
   refine GH.one 13 rfl (by kernel_rfl) (Stp.callR (vs := [(.slice (some ⟨bz, 0, none⟩) ((Nd.nd z)) cz), (.int .i64 (((n2 : Nat) : Int)))]) rfl rfl T.own61 (by decide) (fun wc hw => up_b z bz cz n2 (Nd.nd z + n2 / 32 + 1) wc (hw.rd hrz (fun x => x)) (by omega) (by omega) (by omega) rfl)) (fun _ => (ulS (ulS (ulC (ulC ulN))))) (fun xq47 hq48 => ?_)
   refine GH.one 14 rfl (by kernel_rfl) (Stp.callR (vs := [(.slice (some ⟨xq45, 0, none⟩) ((Nd.nd (x * 2 ^ n1))) ((Nd.nd x + n1 / 32 + 1))), (.slice (some ⟨xq47, 0, none⟩) ((Nd.nd (z * 2 ^ n2))) ((Nd.nd z + n2 / 32 + 1)))]) rfl rfl T.own60 (by decide) (fun wc hw => cmpV_bb (x * 2 ^ n1) xq45 ((Nd.nd x + n1 / 32 + 1)) (z * 2 ^ n2) xq47 ((Nd.nd z + n2 / 32 + 1)) wc (Nd.Nb.of (hw.rdOf (i := 1) rfl 0) Nd.up_lt) (by omega) (Nd.Nb.of (hw.rdOf (i := 0) rfl 0) Nd.up_lt) (by omega))) (fun _ => (ulS (ulS (ulC (ulC ulN))))) (fun xq49 hq50 => ?_)
   refine GH.take 15 (v := (.bool (decide (((if (x * 2 ^ n1) < (z * 2 ^ n2) then (-1 : Int) else if (x * 2 ^ n1) = (z * 2 ^ n2) then 0 else 1)) ≤ 0)))) rfl (by kernel_rfl) (by kernel_rfl) (by kernel_rfl) (fun _ _ _ h => h) (Ex.leq rfl rfl) (ulS (ulS (ulC (ulC ulN)))) (by decide) ?_
   refine GH.done (by kernel_rfl) ?_
   refine GE.thenN ?_
   refine GE.tail rfl (Ex.wp (v := (.bool (decide (((if (x * 2 ^ n1) < (z * 2 ^ n2) then (-1 : Int) else if (x * 2 ^ n1) = (z * 2 ^ n2) then 0 else 1)) ≤ 0)))) (Ex.assign rfl) (by decide)) (fun _ _ => ?_)
   refine GE.thenN ?_
   refine GC.ret ?_
   refine GC.ret1 rfl (Rv.tmp rfl) (fun wN HN => ?_)
   exact HN.ret () trivial (congrArg Value.bool (Lb.cmp_le _ _)) (List.nil_sublist _) rfl

set_option maxRecDepth 100000 in
set_option maxHeartbeats 1000000 in
theorem within_n (adx : Option Addr) (cx z bz cz : Nat) (e e1 e2 : Int) (n1 n2 : Nat) (g1 g2 : Bool) (w : World) (hrz : Nd.Nb w bz z) (hnz : Nd.nd z ≤ 50) (he1 : e1 = e + ((n1 : Nat) : Int)) (he2 : e2 = e + ((n2 : Nat) : Int)) (hn12 : n1 = 0 ∨ n2 = 0) (hn1 : n1 ≤ 3000) (hn2 : n2 ≤ 3000) (heb : -100000 ≤ e ∧ e ≤ 100000) :
  Calls Try.prog 30 #[(.agg #[(.int .i64 2), (.bool g1), (.slice adx 0 cx), (.int .i64 e1), (.bool false)]), (.agg #[(.int .i64 2), (.bool g2), (.slice (some ⟨bz, 0, none⟩) ((Nd.nd z)) cz), (.int .i64 e2), (.bool false)])] w (Ret w (fun _ : Unit => True) (fun _ => (.bool true)) (fun _ => [])) := by
 have hZn : Nd.nd (z * 2 ^ n2) ≤ Nd.nd z + n2 / 32 + 1 := Nd.nd_le Nd.up_lt
 refine enter (M := None) (L := []) (n := 27) (l := [(0, (.agg #[(.int .i64 2), (.bool g1), (.slice adx 0 cx), (.int .i64 e1), (.bool false)])), (1, (.agg #[(.int .i64 2), (.bool g2), (.slice (some ⟨bz, 0, none⟩) ((Nd.nd z)) cz), (.int .i64 e2), (.bool false)]))]) Try.func30 rfl rfl (Args.cons rfl (Args.cons rfl (Args.nil _))) (Hp.start _ _) ?_
 refine GC.seq ?_
 refine GC.region ?_
 refine GL.step (Stp.box (cs := [(.int .i64 2), (.bool g1), (.slice adx 0 cx), (.int .i64 e1), (.bool false)]) rfl rfl (by decide)) (fun bq1 _ => ?_)
 refine GL.step (Stp.box (cs := [(.int .i64 2), (.bool g2), (.slice (some ⟨bz, 0, none⟩) ((Nd.nd z)) cz), (.int .i64 e2), (.bool false)]) rfl rfl (by decide)) (fun bq2 _ => ?_)
 refine GL.val (Ex.assign rfl) (by decide) ?_
 refine GL.nil ?_
 refine GE.thenN ?_
 refine GC.seq ?_
 refine GC.region ?_
 refine GL.val (v := (.pointer (some ⟨bq1, 3, none⟩))) (Ex.cast (Ex.fieldAddr rfl Try.underlying38 rfl T.sz3 (by decide)) rfl) (by decide) ?_
 refine GL.val (Ex.load rfl T.ag3 (i := 1) rfl rfl) (by decide) ?_
 refine GL.val (v := (.pointer (some ⟨bq2, 3, none⟩))) (Ex.cast (Ex.fieldAddr rfl Try.underlying38 rfl T.sz3 (by decide)) rfl) (by decide) ?_
 refine GL.val (Ex.load rfl T.ag3 (i := 0) rfl rfl) (by decide) ?_
 refine GL.val (v := (.int .i64 e)) (Ex.minI rfl rfl (Z := e) (by split <;> omega)) (by decide) ?_
 refine GL.val (Ex.assign rfl) (by decide) ?_
 refine GL.nil ?_
 refine GE.thenN ?_
 refine GC.seq ?_
 by_cases hz0 : z = 0
 ·refine GC.drawP [⟨bq2, [(.int .i64 2), (.bool g2), (.slice (some ⟨bz, 0, none⟩) ((Nd.nd z)) cz), (.int .i64 e2), (.bool false)], 38, true⟩, ⟨bq1, [(.int .i64 2), (.bool g1), (.slice adx 0 cx), (.int .i64 e1), (.bool false)], 38, true⟩] T.mixed (by kernel_rfl) (by kernel_rfl) (fuel := 16) rfl rfl ?_
  refine GH.take 0 (v := (.pointer (some ⟨bq1, 2, none⟩))) rfl (by kernel_rfl) (by kernel_rfl) (by kernel_rfl) (fun _ _ _ h => h) (Ex.cast (Ex.fieldAddr rfl Try.underlying38 rfl T.sz36 (by decide)) rfl) (ulC (ulC ulN)) (by decide) ?_
  refine GH.take 1 (v := (.slice adx 0 cx)) rfl (by kernel_rfl) (by kernel_rfl) (by kernel_rfl) (fun _ _ _ h => h) (Ex.load rfl T.ag36 (i := 1) rfl rfl) (ulC (ulC ulN)) (by decide) ?_
  refine GH.take 2 (v := (.pointer (some ⟨bq1, 3, none⟩))) rfl (by kernel_rfl) (by kernel_rfl) (by kernel_rfl) (fun _ _ _ h => h) (Ex.cast (Ex.fieldAddr rfl Try.underlying38 rfl T.sz3 (by decide)) rfl) (ulC (ulC ulN)) (by decide) ?_
  refine GH.take 3 (v := (.int .i64 e1)) rfl (by kernel_rfl) (by kernel_rfl) (by kernel_rfl) (fun _ _ _ h => h) (Ex.load rfl T.ag3 (i := 1) rfl rfl) (ulC (ulC ulN)) (by decide) ?_
  refine GH.take 4 (v := (.int .i64 e)) rfl (by kernel_rfl) (by kernel_rfl) (by kernel_rfl) (fun _ _ _ h => h) (Ex.move rfl) (ulC (ulC ulN)) (by decide) ?_
  refine GH.take 5 (v := (.int .i64 (((n1 : Nat) : Int)))) rfl (by kernel_rfl) (by kernel_rfl) (by kernel_rfl) (fun _ _ _ h => h) (Ex.sub' rfl rfl (Z := ((n1 : Nat) : Int)) (by rw [w64 (by omega)]; omega)) (ulC (ulC ulN)) (by decide) ?_
  refine GH.take 7 (v := (.pointer (some ⟨bq2, 2, none⟩))) rfl (by kernel_rfl) (by kernel_rfl) (by kernel_rfl) (fun _ _ _ h => h) (Ex.cast (Ex.fieldAddr rfl Try.underlying38 rfl T.sz36 (by decide)) rfl) (ulC (ulC ulN)) (by decide) ?_
  refine GH.take 8 (v := (.slice (some ⟨bz, 0, none⟩) ((Nd.nd z)) cz)) rfl (by kernel_rfl) (by kernel_rfl) (by kernel_rfl) (fun _ _ _ h => h) (Ex.load rfl T.ag36 (i := 0) rfl rfl) (ulC (ulC ulN)) (by decide) ?_
  refine GH.take 9 (v := (.pointer (some ⟨bq2, 3, none⟩))) rfl (by kernel_rfl) (by kernel_rfl) (by kernel_rfl) (fun _ _ _ h => h) (Ex.cast (Ex.fieldAddr rfl Try.underlying38 rfl T.sz3 (by decide)) rfl) (ulC (ulC ulN)) (by decide) ?_
  refine GH.take 10 (v := (.int .i64 e2)) rfl (by kernel_rfl) (by kernel_rfl) (by kernel_rfl) (fun _ _ _ h => h) (Ex.load rfl T.ag3 (i := 0) rfl rfl) (ulC (ulC ulN)) (by decide) ?_
  refine GH.take 11 (v := (.int .i64 e)) rfl (by kernel_rfl) (by kernel_rfl) (by kernel_rfl) (fun _ _ _ h => h) (Ex.move rfl) (ulC (ulC ulN)) (by decide) ?_
  refine GH.take 12 (v := (.int .i64 (((n2 : Nat) : Int)))) rfl (by kernel_rfl) (by kernel_rfl) (by kernel_rfl) (fun _ _ _ h => h) (Ex.sub' rfl rfl (Z := ((n2 : Nat) : Int)) (by rw [w64 (by omega)]; omega)) (ulC (ulC ulN)) (by decide) ?_
  refine GH.one 6 rfl (by kernel_rfl) (Stp.callR (vs := [(.slice adx 0 cx), (.int .i64 (((n1 : Nat) : Int)))]) rfl rfl T.own61 (by decide) (fun wc hw => up_0 adx cx n1 wc)) (fun _ => (ulC (ulC ulN))) (fun xq9 hq10 => ?_)
  refine GH.one 13 rfl (by kernel_rfl) (Stp.callR (vs := [(.slice (some ⟨bz, 0, none⟩) ((Nd.nd z)) cz), (.int .i64 (((n2 : Nat) : Int)))]) rfl rfl T.own61 (by decide) (fun wc hw => up_z z bz cz n2 wc (by rw [hz0]; rfl))) (fun _ => (ulC (ulC ulN))) (fun xq11 hq12 => ?_)
  refine GH.one 14 rfl (by kernel_rfl) (Stp.callR (vs := [(.slice none 0 0), (.slice none 0 0)]) rfl rfl T.own60 (by decide) (fun wc hw => cmpV_nn 0 none 0 (z * 2 ^ n2) none 0 wc rfl (by rw [hz0, Nat.zero_mul]))) (fun _ => (ulC (ulC ulN))) (fun xq13 hq14 => ?_)
  refine GH.take 15 (v := (.bool (decide (((if 0 < (z * 2 ^ n2) then (-1 : Int) else if 0 = (z * 2 ^ n2) then 0 else 1)) ≤ 0)))) rfl (by kernel_rfl) (by kernel_rfl) (by kernel_rfl) (fun _ _ _ h => h) (Ex.leq rfl rfl) (ulC (ulC ulN)) (by decide) ?_
  refine GH.done (by kernel_rfl) ?_
  refine GE.thenN ?_
  refine GE.tail rfl (Ex.wp (v := (.bool (decide (((if 0 < (z * 2 ^ n2) then (-1 : Int) else if 0 = (z * 2 ^ n2) then 0 else 1)) ≤ 0)))) (Ex.assign rfl) (by decide)) (fun _ _ => ?_)
  refine GE.thenN ?_
  refine GC.ret ?_
  refine GC.ret1 rfl (Rv.tmp rfl) (fun wN HN => ?_)
  exact HN.ret () trivial (congrArg Value.bool ((Lb.cmp_le _ _).trans (decide_eq_true (Nat.zero_le _)))) (List.nil_sublist _) rfl
 ·refine GC.drawP [⟨bq2, [(.int .i64 2), (.bool g2), (.slice (some ⟨bz, 0, none⟩) ((Nd.nd z)) cz), (.int .i64 e2), (.bool false)], 38, true⟩, ⟨bq1, [(.int .i64 2), (.bool g1), (.slice adx 0 cx), (.int .i64 e1), (.bool false)], 38, true⟩] T.mixed (by kernel_rfl) (by kernel_rfl) (fuel := 16) rfl rfl ?_
  refine GH.take 0 (v := (.pointer (some ⟨bq1, 2, none⟩))) rfl (by kernel_rfl) (by kernel_rfl) (by kernel_rfl) (fun _ _ _ h => h) (Ex.cast (Ex.fieldAddr rfl Try.underlying38 rfl T.sz36 (by decide)) rfl) (ulC (ulC ulN)) (by decide) ?_
  refine GH.take 1 (v := (.slice adx 0 cx)) rfl (by kernel_rfl) (by kernel_rfl) (by kernel_rfl) (fun _ _ _ h => h) (Ex.load rfl T.ag36 (i := 1) rfl rfl) (ulC (ulC ulN)) (by decide) ?_
  refine GH.take 2 (v := (.pointer (some ⟨bq1, 3, none⟩))) rfl (by kernel_rfl) (by kernel_rfl) (by kernel_rfl) (fun _ _ _ h => h) (Ex.cast (Ex.fieldAddr rfl Try.underlying38 rfl T.sz3 (by decide)) rfl) (ulC (ulC ulN)) (by decide) ?_
  refine GH.take 3 (v := (.int .i64 e1)) rfl (by kernel_rfl) (by kernel_rfl) (by kernel_rfl) (fun _ _ _ h => h) (Ex.load rfl T.ag3 (i := 1) rfl rfl) (ulC (ulC ulN)) (by decide) ?_
  refine GH.take 4 (v := (.int .i64 e)) rfl (by kernel_rfl) (by kernel_rfl) (by kernel_rfl) (fun _ _ _ h => h) (Ex.move rfl) (ulC (ulC ulN)) (by decide) ?_
  refine GH.take 5 (v := (.int .i64 (((n1 : Nat) : Int)))) rfl (by kernel_rfl) (by kernel_rfl) (by kernel_rfl) (fun _ _ _ h => h) (Ex.sub' rfl rfl (Z := ((n1 : Nat) : Int)) (by rw [w64 (by omega)]; omega)) (ulC (ulC ulN)) (by decide) ?_
  refine GH.take 7 (v := (.pointer (some ⟨bq2, 2, none⟩))) rfl (by kernel_rfl) (by kernel_rfl) (by kernel_rfl) (fun _ _ _ h => h) (Ex.cast (Ex.fieldAddr rfl Try.underlying38 rfl T.sz36 (by decide)) rfl) (ulC (ulC ulN)) (by decide) ?_
  refine GH.take 8 (v := (.slice (some ⟨bz, 0, none⟩) ((Nd.nd z)) cz)) rfl (by kernel_rfl) (by kernel_rfl) (by kernel_rfl) (fun _ _ _ h => h) (Ex.load rfl T.ag36 (i := 0) rfl rfl) (ulC (ulC ulN)) (by decide) ?_
  refine GH.take 9 (v := (.pointer (some ⟨bq2, 3, none⟩))) rfl (by kernel_rfl) (by kernel_rfl) (by kernel_rfl) (fun _ _ _ h => h) (Ex.cast (Ex.fieldAddr rfl Try.underlying38 rfl T.sz3 (by decide)) rfl) (ulC (ulC ulN)) (by decide) ?_
  refine GH.take 10 (v := (.int .i64 e2)) rfl (by kernel_rfl) (by kernel_rfl) (by kernel_rfl) (fun _ _ _ h => h) (Ex.load rfl T.ag3 (i := 0) rfl rfl) (ulC (ulC ulN)) (by decide) ?_
  refine GH.take 11 (v := (.int .i64 e)) rfl (by kernel_rfl) (by kernel_rfl) (by kernel_rfl) (fun _ _ _ h => h) (Ex.move rfl) (ulC (ulC ulN)) (by decide) ?_
  refine GH.take 12 (v := (.int .i64 (((n2 : Nat) : Int)))) rfl (by kernel_rfl) (by kernel_rfl) (by kernel_rfl) (fun _ _ _ h => h) (Ex.sub' rfl rfl (Z := ((n2 : Nat) : Int)) (by rw [w64 (by omega)]; omega)) (ulC (ulC ulN)) (by decide) ?_
  refine GH.one 6 rfl (by kernel_rfl) (Stp.callR (vs := [(.slice adx 0 cx), (.int .i64 (((n1 : Nat) : Int)))]) rfl rfl T.own61 (by decide) (fun wc hw => up_0 adx cx n1 wc)) (fun _ => (ulC (ulC ulN))) (fun xq21 hq22 => ?_)
  refine GH.one 13 rfl (by kernel_rfl) (Stp.callR (vs := [(.slice (some ⟨bz, 0, none⟩) ((Nd.nd z)) cz), (.int .i64 (((n2 : Nat) : Int)))]) rfl rfl T.own61 (by decide) (fun wc hw => up_b z bz cz n2 (Nd.nd z + n2 / 32 + 1) wc (hw.rd hrz (fun x => x)) (by omega) (by omega) (by omega) rfl)) (fun _ => (ulS (ulC (ulC ulN)))) (fun xq23 hq24 => ?_)
  refine GH.one 14 rfl (by kernel_rfl) (Stp.callR (vs := [(.slice none 0 0), (.slice (some ⟨xq23, 0, none⟩) ((Nd.nd (z * 2 ^ n2))) ((Nd.nd z + n2 / 32 + 1)))]) rfl rfl T.own60 (by decide) (fun wc hw => cmpV_nb 0 none 0 (z * 2 ^ n2) xq23 ((Nd.nd z + n2 / 32 + 1)) wc rfl (Nd.Nb.of (hw.rdOf (i := 0) rfl 0) Nd.up_lt) (by omega))) (fun _ => (ulS (ulC (ulC ulN)))) (fun xq25 hq26 => ?_)
  refine GH.take 15 (v := (.bool (decide (((if 0 < (z * 2 ^ n2) then (-1 : Int) else if 0 = (z * 2 ^ n2) then 0 else 1)) ≤ 0)))) rfl (by kernel_rfl) (by kernel_rfl) (by kernel_rfl) (fun _ _ _ h => h) (Ex.leq rfl rfl) (ulS (ulC (ulC ulN))) (by decide) ?_
  refine GH.done (by kernel_rfl) ?_
  refine GE.thenN ?_
  refine GE.tail rfl (Ex.wp (v := (.bool (decide (((if 0 < (z * 2 ^ n2) then (-1 : Int) else if 0 = (z * 2 ^ n2) then 0 else 1)) ≤ 0)))) (Ex.assign rfl) (by decide)) (fun _ _ => ?_)
  refine GE.thenN ?_
  refine GC.ret ?_
  refine GC.ret1 rfl (Rv.tmp rfl) (fun wN HN => ?_)
  exact HN.ret () trivial (congrArg Value.bool ((Lb.cmp_le _ _).trans (decide_eq_true (Nat.zero_le _)))) (List.nil_sublist _) rfl

set_option maxRecDepth 100000 in
set_option maxHeartbeats 1000000 in
theorem size_l (a : Int) (w : World) (ha : 0 ≤ a ∧ a < 4294967296) (hfa : a % 2147483648 < 2139095040) :
  Calls Try.prog 29 #[(.int .u32 a)] w (Ret w (fun _ : Nat => True) (fun z => (.agg #[(.int .i64 2), (.bool false), (.slice (some ⟨z, 0, none⟩) ((Nd.nd (Bt.mant a).toNat)) 2), (.int .i64 ((Bt.expo a))), (.bool false)])) (fun z => [⟨z, [(.int .u32 ((((Bt.mant a).toNat : Nat) : Int))), (.int .u32 0)], 23, true⟩])) := by
 refine enter (M := None) (L := []) (n := 10) (l := [(0, (.int .u32 a))]) Try.func29 rfl rfl (Args.cons rfl (Args.nil _)) (Hp.start _ _) ?_
 refine GC.seq ?_
 refine GC.region ?_
 refine GL.step (Stp.alloc T.zr38 (by decide)) (fun bq1 _ => ?_)
 refine GL.nil ?_
 refine GE.thenN ?_
 refine GC.seq ?_
 refine GC.region ?_
 refine GL.step (Stp.callR (vs := []) rfl rfl T.own58 (by decide) (fun wc hw => j58_3  wc )) (fun xq2 hq3 => ?_)
 refine GL.val (Ex.move rfl) (by decide) ?_
 refine GL.val (v := (.int .u64 a)) (Ex.conv rfl Try.underlying23 Try.underlying70 (Z := a) (wu64b (by omega))) (by decide) ?_
 refine GL.step (Stp.callR (vs := [(.agg #[(.int .i64 23), (.int .i64 8)]), (.int .u64 a)]) rfl rfl T.own59 (by decide) (fun wc hw => of_all a wc ha hfa)) (fun xq4 hq5 => ?_)
 refine GL.step (Stp.alloc T.zr38 (by decide)) (fun bq6 _ => ?_)
 refine GL.step (Stp.st0 (cs' := [(.int .i64 2), (.bool ((decide (a / 2147483648 % 2 = 1)))), (.slice (some ⟨xq4, 0, none⟩) ((Nd.nd (Bt.mant a).toNat)) 2), (.int .i64 ((Bt.expo a))), (.bool false)]) rfl rfl rfl T.sz38 rfl rfl rfl) (fun _ _ => ?_)
 refine GL.nil ?_
 refine GE.thenN ?_
 refine GC.seq ?_
 refine GC.region ?_
 refine GL.val (v := (.pointer (some ⟨bq6, 1, none⟩))) (Ex.cast (Ex.fieldAddr rfl Try.underlying38 rfl T.sz4 (by decide)) rfl) (by decide) ?_
 refine GL.step (Stp.st0 (cs' := [(.int .i64 2), (.bool false), (.slice (some ⟨xq4, 0, none⟩) ((Nd.nd (Bt.mant a).toNat)) 2), (.int .i64 ((Bt.expo a))), (.bool false)]) rfl rfl rfl T.sz4 rfl rfl rfl) (fun _ _ => ?_)
 refine GL.nil ?_
 refine GE.thenN ?_
 refine GC.seq ?_
 refine GC.region ?_
 refine GL.val (v := (.agg #[(.int .i64 2), (.bool false), (.slice (some ⟨xq4, 0, none⟩) ((Nd.nd (Bt.mant a).toNat)) 2), (.int .i64 ((Bt.expo a))), (.bool false)])) (Ex.loadA rfl T.ag38 T.sz38 (i := 0) rfl (vs := [(.int .i64 2), (.bool false), (.slice (some ⟨xq4, 0, none⟩) ((Nd.nd (Bt.mant a).toNat)) 2), (.int .i64 ((Bt.expo a))), (.bool false)]) rfl rfl) (by decide) ?_
 refine GL.step (Stp.st2 (cs' := [(.int .i64 2), (.bool false), (.slice (some ⟨xq4, 0, none⟩) ((Nd.nd (Bt.mant a).toNat)) 2), (.int .i64 ((Bt.expo a))), (.bool false)]) rfl rfl rfl T.sz38 rfl rfl rfl) (fun _ _ => ?_)
 refine GL.nil ?_
 refine GE.thenN ?_
 refine GC.ret ?_
 refine GC.ret1 rfl (Rv.cellA rfl T.ag38 T.sz38 (L := _) (i := 2) rfl (vs := [(.int .i64 2), (.bool false), (.slice (some ⟨xq4, 0, none⟩) ((Nd.nd (Bt.mant a).toNat)) 2), (.int .i64 ((Bt.expo a))), (.bool false)]) rfl rfl) (fun wN HN => ?_)
 exact HN.ret xq4 trivial rfl (ulS (ulC (ulS ulN))) rfl

set_option maxRecDepth 100000 in
set_option maxHeartbeats 1000000 in
theorem power_l (e : Int) (w : World) :
  Calls Try.prog 31 #[(.int .i64 e)] w (Ret w (fun _ : Nat => True) (fun z => (.agg #[(.int .i64 2), (.bool false), (.slice (some ⟨z, 0, none⟩) ((Nd.nd 1)) 2), (.int .i64 e), (.bool false)])) (fun z => [⟨z, [(.int .u32 1), (.int .u32 0)], 23, true⟩])) := by
 refine enter (M := None) (L := []) (n := 6) (l := [(0, (.int .i64 e))]) Try.func31 rfl rfl (Args.cons rfl (Args.nil _)) (Hp.start _ _) ?_
 refine GC.seq ?_
 refine GC.region ?_
 refine GL.step (Stp.alloc T.zr38 (by decide)) (fun bq1 _ => ?_)
 refine GL.nil ?_
 refine GE.thenN ?_
 refine GC.seq ?_
 refine GC.region ?_
 refine GL.step (Stp.callR (vs := [(.int .u64 1)]) rfl rfl T.own62 (by decide) (fun wc hw => natof_1 wc)) (fun xq2 hq3 => ?_)
 refine GL.val (Ex.move rfl) (by decide) ?_
 refine GL.val (v := (.agg #[(.int .i64 2), (.bool false), (.slice (some ⟨xq2, 0, none⟩) ((Nd.nd 1)) 2), (.int .i64 e), (.bool false)])) (Ex.build (vs := [(0, (.int .i64 2)), (2, (.slice (some ⟨xq2, 0, none⟩) ((Nd.nd 1)) 2)), (3, (.int .i64 e))]) rfl (by first | rfl | kernel_rfl)) (by decide) ?_
 refine GL.step (Stp.st1 (cs' := [(.int .i64 2), (.bool false), (.slice (some ⟨xq2, 0, none⟩) ((Nd.nd 1)) 2), (.int .i64 e), (.bool false)]) rfl rfl rfl T.sz38 rfl rfl rfl) (fun _ _ => ?_)
 refine GL.nil ?_
 refine GE.thenN ?_
 refine GC.ret ?_
 refine GC.ret1 rfl (Rv.cellA rfl T.ag38 T.sz38 (L := _) (i := 1) rfl (vs := [(.int .i64 2), (.bool false), (.slice (some ⟨xq2, 0, none⟩) ((Nd.nd 1)) 2), (.int .i64 e), (.bool false)]) rfl rfl) (fun wN HN => ?_)
 exact HN.ret xq2 trivial rfl (ulC (ulS ulN)) rfl

set_option maxRecDepth 100000 in
set_option maxHeartbeats 1000000 in
theorem off_same (a b e : Int) (n1 n2 : Nat) (w : World) (ha : 0 ≤ a ∧ a < 4294967296) (hfa : a % 2147483648 < 2139095040) (hb : 0 ≤ b ∧ b < 4294967296) (hfb : b % 2147483648 < 2139095040) (he1 : Bt.expo a = e + ((n1 : Nat) : Int)) (he2 : Bt.expo b = e + ((n2 : Nat) : Int)) (hn12 : n1 = 0 ∨ n2 = 0) (hn1 : n1 ≤ 3000) (hn2 : n2 ≤ 3000) (heb : -100000 ≤ e ∧ e ≤ 100000) (hg : (decide (a / 2147483648 % 2 = 1)) = !(decide (b / 2147483648 % 2 = 1))) :
  Calls Try.prog 34 #[(.int .u32 a), (.int .u32 b)] w (Ret w (fun z' : Nat × Nat => Nd.nd (Lb.dfr (decide (a / 2147483648 % 2 = 1)) (decide (b / 2147483648 % 2 = 1)) ((Bt.mant a).toNat * 2 ^ n1) ((Bt.mant b).toNat * 2 ^ n2)) ≤ z'.2) (fun z' => (.agg #[(.int .i64 2), (.bool false), (.slice (some ⟨z'.1, 0, none⟩) ((Nd.nd (Lb.dfr (decide (a / 2147483648 % 2 = 1)) (decide (b / 2147483648 % 2 = 1)) ((Bt.mant a).toNat * 2 ^ n1) ((Bt.mant b).toNat * 2 ^ n2)))) z'.2), (.int .i64 e), (.bool false)])) (fun z' => [⟨z'.1, (Nd.dl z'.2 (Lb.dfr (decide (a / 2147483648 % 2 = 1)) (decide (b / 2147483648 % 2 = 1)) ((Bt.mant a).toNat * 2 ^ n1) ((Bt.mant b).toNat * 2 ^ n2))).map u32, 23, true⟩])) := by
 rw [Lb.dfr_same hg]
 have hma : (Bt.mant a).toNat < 4294967296 := by unfold Bt.mant; split <;> omega
 have hmb : (Bt.mant b).toNat < 4294967296 := by unfold Bt.mant; split <;> omega
 have hna : Nd.nd (Bt.mant a).toNat ≤ 50 := by rw [Nd.nd_one hma]; split <;> omega
 have hnb : Nd.nd (Bt.mant b).toNat ≤ 50 := by rw [Nd.nd_one hmb]; split <;> omega
 refine enter (M := None) (L := []) (n := 25) (l := [(0, (.int .u32 a)), (1, (.int .u32 b))]) Try.func34 rfl rfl (Args.cons rfl (Args.cons rfl (Args.nil _))) (Hp.start _ _) ?_
 refine GC.seq ?_
 refine GC.region ?_
 refine GL.step (Stp.alloc T.zr38 (by decide)) (fun bq1 _ => ?_)
 refine GL.nil ?_
 refine GE.thenN ?_
 refine GC.seq ?_
 refine GC.region ?_
 refine GL.step (Stp.callR (vs := []) rfl rfl T.own58 (by decide) (fun wc hw => j58_3  wc )) (fun xq2 hq3 => ?_)
 refine GL.val (Ex.move rfl) (by decide) ?_
 refine GL.val (v := (.int .u64 a)) (Ex.conv rfl Try.underlying23 Try.underlying70 (Z := a) (wu64b (by omega))) (by decide) ?_
 refine GL.step (Stp.callR (vs := [(.agg #[(.int .i64 23), (.int .i64 8)]), (.int .u64 a)]) rfl rfl T.own59 (by decide) (fun wc hw => of_all a wc ha hfa)) (fun xq4 hq5 => ?_)
 refine GL.step (Stp.callR (vs := []) rfl rfl T.own58 (by decide) (fun wc hw => j58_3  wc )) (fun xq6 hq7 => ?_)
 refine GL.val (Ex.move rfl) (by decide) ?_
 refine GL.val (v := (.int .u64 b)) (Ex.conv rfl Try.underlying23 Try.underlying70 (Z := b) (wu64b (by omega))) (by decide) ?_
 refine GL.step (Stp.callR (vs := [(.agg #[(.int .i64 23), (.int .i64 8)]), (.int .u64 b)]) rfl rfl T.own59 (by decide) (fun wc hw => of_all b wc hb hfb)) (fun xq8 hq9 => ?_)
 refine GL.step (Stp.alloc T.zr38 (by decide)) (fun bq10 _ => ?_)
 refine GL.step (Stp.alloc T.zr38 (by decide)) (fun bq11 _ => ?_)
 refine GL.step (Stp.st1 (cs' := [(.int .i64 2), (.bool ((decide (a / 2147483648 % 2 = 1)))), (.slice (some ⟨xq4, 0, none⟩) ((Nd.nd (Bt.mant a).toNat)) 2), (.int .i64 ((Bt.expo a))), (.bool false)]) rfl rfl rfl T.sz38 rfl rfl rfl) (fun _ _ => ?_)
 refine GL.step (Stp.st0 (cs' := [(.int .i64 2), (.bool ((decide (b / 2147483648 % 2 = 1)))), (.slice (some ⟨xq8, 0, none⟩) ((Nd.nd (Bt.mant b).toNat)) 2), (.int .i64 ((Bt.expo b))), (.bool false)]) rfl rfl rfl T.sz38 rfl rfl rfl) (fun _ _ => ?_)
 refine GL.nil ?_
 refine GE.thenN ?_
 refine GC.seq ?_
 refine GC.region ?_
 refine GL.val (v := (.pointer (some ⟨bq11, 1, none⟩))) (Ex.cast (Ex.fieldAddr rfl Try.underlying38 rfl T.sz4 (by decide)) rfl) (by decide) ?_
 refine GL.val (Ex.load rfl T.ag4 (i := 0) rfl rfl) (by decide) ?_
 refine GL.val (v := (.bool (!((decide (b / 2147483648 % 2 = 1)))))) (Ex.not rfl) (by decide) ?_
 refine GL.val (v := (.pointer (some ⟨bq11, 1, none⟩))) (Ex.cast (Ex.fieldAddr rfl Try.underlying38 rfl T.sz4 (by decide)) rfl) (by decide) ?_
 refine GL.step (Stp.st0 (cs' := [(.int .i64 2), (.bool (!((decide (b / 2147483648 % 2 = 1))))), (.slice (some ⟨xq8, 0, none⟩) ((Nd.nd (Bt.mant b).toNat)) 2), (.int .i64 ((Bt.expo b))), (.bool false)]) rfl rfl rfl T.sz4 rfl rfl rfl) (fun _ _ => ?_)
 refine GL.nil ?_
 refine GE.thenN ?_
 refine GC.seq ?_
 refine GC.region ?_
 refine GL.val (v := (.agg #[(.int .i64 2), (.bool ((decide (a / 2147483648 % 2 = 1)))), (.slice (some ⟨xq4, 0, none⟩) ((Nd.nd (Bt.mant a).toNat)) 2), (.int .i64 ((Bt.expo a))), (.bool false)])) (Ex.loadA rfl T.ag38 T.sz38 (i := 1) rfl (vs := [(.int .i64 2), (.bool ((decide (a / 2147483648 % 2 = 1)))), (.slice (some ⟨xq4, 0, none⟩) ((Nd.nd (Bt.mant a).toNat)) 2), (.int .i64 ((Bt.expo a))), (.bool false)]) rfl rfl) (by decide) ?_
 refine GL.val (v := (.agg #[(.int .i64 2), (.bool (!((decide (b / 2147483648 % 2 = 1))))), (.slice (some ⟨xq8, 0, none⟩) ((Nd.nd (Bt.mant b).toNat)) 2), (.int .i64 ((Bt.expo b))), (.bool false)])) (Ex.loadA rfl T.ag38 T.sz38 (i := 0) rfl (vs := [(.int .i64 2), (.bool (!((decide (b / 2147483648 % 2 = 1))))), (.slice (some ⟨xq8, 0, none⟩) ((Nd.nd (Bt.mant b).toNat)) 2), (.int .i64 ((Bt.expo b))), (.bool false)]) rfl rfl) (by decide) ?_
 refine GL.step (Stp.callR (vs := [(.agg #[(.int .i64 2), (.bool ((decide (a / 2147483648 % 2 = 1)))), (.slice (some ⟨xq4, 0, none⟩) ((Nd.nd (Bt.mant a).toNat)) 2), (.int .i64 ((Bt.expo a))), (.bool false)]), (.agg #[(.int .i64 2), (.bool (!((decide (b / 2147483648 % 2 = 1))))), (.slice (some ⟨xq8, 0, none⟩) ((Nd.nd (Bt.mant b).toNat)) 2), (.int .i64 ((Bt.expo b))), (.bool false)])]) rfl rfl T.own33 (by decide) (fun wc hw => pnum_same (Bt.mant a).toNat xq4 2 (Bt.mant b).toNat xq8 2 e (Bt.expo a) (Bt.expo b) n1 n2 (decide (a / 2147483648 % 2 = 1)) (!(decide (b / 2147483648 % 2 = 1))) wc (Nd.Nb.one (Lg.rd1 (hw.rdOf (i := 3) rfl 0)) (by omega)) (by omega) (Nd.Nb.one (Lg.rd1 (hw.rdOf (i := 2) rfl 0)) (by omega)) (by omega) he1 he2 hn12 hn1 hn2 heb hg)) (fun xq12 hq13 => ?_)
 have hpx := hq13
 refine GL.step (Stp.alloc T.zr38 (by decide)) (fun bq14 _ => ?_)
 refine GL.step (Stp.st0 (cs' := [(.int .i64 2), (.bool ((decide (a / 2147483648 % 2 = 1)))), (.slice (some ⟨xq12.1, 0, none⟩) ((Nd.nd (((Bt.mant a).toNat * 2 ^ n1) + ((Bt.mant b).toNat * 2 ^ n2)))) xq12.2), (.int .i64 e), (.bool false)]) rfl rfl rfl T.sz38 rfl rfl rfl) (fun _ _ => ?_)
 refine GL.nil ?_
 refine GE.thenN ?_
 refine GC.seq ?_
 refine GC.region ?_
 refine GL.val (v := (.pointer (some ⟨bq14, 1, none⟩))) (Ex.cast (Ex.fieldAddr rfl Try.underlying38 rfl T.sz4 (by decide)) rfl) (by decide) ?_
 refine GL.step (Stp.st0 (cs' := [(.int .i64 2), (.bool false), (.slice (some ⟨xq12.1, 0, none⟩) ((Nd.nd (((Bt.mant a).toNat * 2 ^ n1) + ((Bt.mant b).toNat * 2 ^ n2)))) xq12.2), (.int .i64 e), (.bool false)]) rfl rfl rfl T.sz4 rfl rfl rfl) (fun _ _ => ?_)
 refine GL.nil ?_
 refine GE.thenN ?_
 refine GC.seq ?_
 refine GC.region ?_
 refine GL.val (v := (.agg #[(.int .i64 2), (.bool false), (.slice (some ⟨xq12.1, 0, none⟩) ((Nd.nd (((Bt.mant a).toNat * 2 ^ n1) + ((Bt.mant b).toNat * 2 ^ n2)))) xq12.2), (.int .i64 e), (.bool false)])) (Ex.loadA rfl T.ag38 T.sz38 (i := 0) rfl (vs := [(.int .i64 2), (.bool false), (.slice (some ⟨xq12.1, 0, none⟩) ((Nd.nd (((Bt.mant a).toNat * 2 ^ n1) + ((Bt.mant b).toNat * 2 ^ n2)))) xq12.2), (.int .i64 e), (.bool false)]) rfl rfl) (by decide) ?_
 refine GL.step (Stp.st6 (cs' := [(.int .i64 2), (.bool false), (.slice (some ⟨xq12.1, 0, none⟩) ((Nd.nd (((Bt.mant a).toNat * 2 ^ n1) + ((Bt.mant b).toNat * 2 ^ n2)))) xq12.2), (.int .i64 e), (.bool false)]) rfl rfl rfl T.sz38 rfl rfl rfl) (fun _ _ => ?_)
 refine GL.nil ?_
 refine GE.thenN ?_
 refine GC.ret ?_
 refine GC.ret1 rfl (Rv.cellA rfl T.ag38 T.sz38 (L := _) (i := 6) rfl (vs := [(.int .i64 2), (.bool false), (.slice (some ⟨xq12.1, 0, none⟩) ((Nd.nd (((Bt.mant a).toNat * 2 ^ n1) + ((Bt.mant b).toNat * 2 ^ n2)))) xq12.2), (.int .i64 e), (.bool false)]) rfl rfl) (fun wN HN => ?_)
 exact HN.ret xq12 hpx rfl (ulS (ulC (ulS (ulS (ulS (ulS (ulS ulN))))))) rfl

set_option maxRecDepth 100000 in
set_option maxHeartbeats 1000000 in
theorem off_gt (a b e : Int) (n1 n2 : Nat) (w : World) (ha : 0 ≤ a ∧ a < 4294967296) (hfa : a % 2147483648 < 2139095040) (hb : 0 ≤ b ∧ b < 4294967296) (hfb : b % 2147483648 < 2139095040) (he1 : Bt.expo a = e + ((n1 : Nat) : Int)) (he2 : Bt.expo b = e + ((n2 : Nat) : Int)) (hn12 : n1 = 0 ∨ n2 = 0) (hn1 : n1 ≤ 3000) (hn2 : n2 ≤ 3000) (heb : -100000 ≤ e ∧ e ≤ 100000) (hg : (decide (a / 2147483648 % 2 = 1)) ≠ !(decide (b / 2147483648 % 2 = 1))) (hcs : (Bt.mant b).toNat * 2 ^ n2 < (Bt.mant a).toNat * 2 ^ n1) :
  Calls Try.prog 34 #[(.int .u32 a), (.int .u32 b)] w (Ret w (fun z' : Nat × Nat => Nd.nd (Lb.dfr (decide (a / 2147483648 % 2 = 1)) (decide (b / 2147483648 % 2 = 1)) ((Bt.mant a).toNat * 2 ^ n1) ((Bt.mant b).toNat * 2 ^ n2)) ≤ z'.2) (fun z' => (.agg #[(.int .i64 2), (.bool false), (.slice (some ⟨z'.1, 0, none⟩) ((Nd.nd (Lb.dfr (decide (a / 2147483648 % 2 = 1)) (decide (b / 2147483648 % 2 = 1)) ((Bt.mant a).toNat * 2 ^ n1) ((Bt.mant b).toNat * 2 ^ n2)))) z'.2), (.int .i64 e), (.bool false)])) (fun z' => [⟨z'.1, (Nd.dl z'.2 (Lb.dfr (decide (a / 2147483648 % 2 = 1)) (decide (b / 2147483648 % 2 = 1)) ((Bt.mant a).toNat * 2 ^ n1) ((Bt.mant b).toNat * 2 ^ n2))).map u32, 23, true⟩])) := by
 rw [Lb.dfr_gt hg hcs]
 have hma : (Bt.mant a).toNat < 4294967296 := by unfold Bt.mant; split <;> omega
 have hmb : (Bt.mant b).toNat < 4294967296 := by unfold Bt.mant; split <;> omega
 have hna : Nd.nd (Bt.mant a).toNat ≤ 50 := by rw [Nd.nd_one hma]; split <;> omega
 have hnb : Nd.nd (Bt.mant b).toNat ≤ 50 := by rw [Nd.nd_one hmb]; split <;> omega
 refine enter (M := None) (L := []) (n := 25) (l := [(0, (.int .u32 a)), (1, (.int .u32 b))]) Try.func34 rfl rfl (Args.cons rfl (Args.cons rfl (Args.nil _))) (Hp.start _ _) ?_
 refine GC.seq ?_
 refine GC.region ?_
 refine GL.step (Stp.alloc T.zr38 (by decide)) (fun bq1 _ => ?_)
 refine GL.nil ?_
 refine GE.thenN ?_
 refine GC.seq ?_
 refine GC.region ?_
 refine GL.step (Stp.callR (vs := []) rfl rfl T.own58 (by decide) (fun wc hw => j58_3  wc )) (fun xq2 hq3 => ?_)
 refine GL.val (Ex.move rfl) (by decide) ?_
 refine GL.val (v := (.int .u64 a)) (Ex.conv rfl Try.underlying23 Try.underlying70 (Z := a) (wu64b (by omega))) (by decide) ?_
 refine GL.step (Stp.callR (vs := [(.agg #[(.int .i64 23), (.int .i64 8)]), (.int .u64 a)]) rfl rfl T.own59 (by decide) (fun wc hw => of_all a wc ha hfa)) (fun xq4 hq5 => ?_)
 refine GL.step (Stp.callR (vs := []) rfl rfl T.own58 (by decide) (fun wc hw => j58_3  wc )) (fun xq6 hq7 => ?_)
 refine GL.val (Ex.move rfl) (by decide) ?_
 refine GL.val (v := (.int .u64 b)) (Ex.conv rfl Try.underlying23 Try.underlying70 (Z := b) (wu64b (by omega))) (by decide) ?_
 refine GL.step (Stp.callR (vs := [(.agg #[(.int .i64 23), (.int .i64 8)]), (.int .u64 b)]) rfl rfl T.own59 (by decide) (fun wc hw => of_all b wc hb hfb)) (fun xq8 hq9 => ?_)
 refine GL.step (Stp.alloc T.zr38 (by decide)) (fun bq10 _ => ?_)
 refine GL.step (Stp.alloc T.zr38 (by decide)) (fun bq11 _ => ?_)
 refine GL.step (Stp.st1 (cs' := [(.int .i64 2), (.bool ((decide (a / 2147483648 % 2 = 1)))), (.slice (some ⟨xq4, 0, none⟩) ((Nd.nd (Bt.mant a).toNat)) 2), (.int .i64 ((Bt.expo a))), (.bool false)]) rfl rfl rfl T.sz38 rfl rfl rfl) (fun _ _ => ?_)
 refine GL.step (Stp.st0 (cs' := [(.int .i64 2), (.bool ((decide (b / 2147483648 % 2 = 1)))), (.slice (some ⟨xq8, 0, none⟩) ((Nd.nd (Bt.mant b).toNat)) 2), (.int .i64 ((Bt.expo b))), (.bool false)]) rfl rfl rfl T.sz38 rfl rfl rfl) (fun _ _ => ?_)
 refine GL.nil ?_
 refine GE.thenN ?_
 refine GC.seq ?_
 refine GC.region ?_
 refine GL.val (v := (.pointer (some ⟨bq11, 1, none⟩))) (Ex.cast (Ex.fieldAddr rfl Try.underlying38 rfl T.sz4 (by decide)) rfl) (by decide) ?_
 refine GL.val (Ex.load rfl T.ag4 (i := 0) rfl rfl) (by decide) ?_
 refine GL.val (v := (.bool (!((decide (b / 2147483648 % 2 = 1)))))) (Ex.not rfl) (by decide) ?_
 refine GL.val (v := (.pointer (some ⟨bq11, 1, none⟩))) (Ex.cast (Ex.fieldAddr rfl Try.underlying38 rfl T.sz4 (by decide)) rfl) (by decide) ?_
 refine GL.step (Stp.st0 (cs' := [(.int .i64 2), (.bool (!((decide (b / 2147483648 % 2 = 1))))), (.slice (some ⟨xq8, 0, none⟩) ((Nd.nd (Bt.mant b).toNat)) 2), (.int .i64 ((Bt.expo b))), (.bool false)]) rfl rfl rfl T.sz4 rfl rfl rfl) (fun _ _ => ?_)
 refine GL.nil ?_
 refine GE.thenN ?_
 refine GC.seq ?_
 refine GC.region ?_
 refine GL.val (v := (.agg #[(.int .i64 2), (.bool ((decide (a / 2147483648 % 2 = 1)))), (.slice (some ⟨xq4, 0, none⟩) ((Nd.nd (Bt.mant a).toNat)) 2), (.int .i64 ((Bt.expo a))), (.bool false)])) (Ex.loadA rfl T.ag38 T.sz38 (i := 1) rfl (vs := [(.int .i64 2), (.bool ((decide (a / 2147483648 % 2 = 1)))), (.slice (some ⟨xq4, 0, none⟩) ((Nd.nd (Bt.mant a).toNat)) 2), (.int .i64 ((Bt.expo a))), (.bool false)]) rfl rfl) (by decide) ?_
 refine GL.val (v := (.agg #[(.int .i64 2), (.bool (!((decide (b / 2147483648 % 2 = 1))))), (.slice (some ⟨xq8, 0, none⟩) ((Nd.nd (Bt.mant b).toNat)) 2), (.int .i64 ((Bt.expo b))), (.bool false)])) (Ex.loadA rfl T.ag38 T.sz38 (i := 0) rfl (vs := [(.int .i64 2), (.bool (!((decide (b / 2147483648 % 2 = 1))))), (.slice (some ⟨xq8, 0, none⟩) ((Nd.nd (Bt.mant b).toNat)) 2), (.int .i64 ((Bt.expo b))), (.bool false)]) rfl rfl) (by decide) ?_
 refine GL.step (Stp.callR (vs := [(.agg #[(.int .i64 2), (.bool ((decide (a / 2147483648 % 2 = 1)))), (.slice (some ⟨xq4, 0, none⟩) ((Nd.nd (Bt.mant a).toNat)) 2), (.int .i64 ((Bt.expo a))), (.bool false)]), (.agg #[(.int .i64 2), (.bool (!((decide (b / 2147483648 % 2 = 1))))), (.slice (some ⟨xq8, 0, none⟩) ((Nd.nd (Bt.mant b).toNat)) 2), (.int .i64 ((Bt.expo b))), (.bool false)])]) rfl rfl T.own33 (by decide) (fun wc hw => pnum_gt (Bt.mant a).toNat xq4 2 (Bt.mant b).toNat xq8 2 e (Bt.expo a) (Bt.expo b) n1 n2 (decide (a / 2147483648 % 2 = 1)) (!(decide (b / 2147483648 % 2 = 1))) wc (Nd.Nb.one (Lg.rd1 (hw.rdOf (i := 3) rfl 0)) (by omega)) (by omega) (Nd.Nb.one (Lg.rd1 (hw.rdOf (i := 2) rfl 0)) (by omega)) (by omega) he1 he2 hn12 hn1 hn2 heb hg hcs)) (fun xq12 hq13 => ?_)
 have hpx := hq13
 refine GL.step (Stp.alloc T.zr38 (by decide)) (fun bq14 _ => ?_)
 refine GL.step (Stp.st0 (cs' := [(.int .i64 2), (.bool ((decide (a / 2147483648 % 2 = 1)))), (.slice (some ⟨xq12.1, 0, none⟩) ((Nd.nd (((Bt.mant a).toNat * 2 ^ n1) - ((Bt.mant b).toNat * 2 ^ n2)))) xq12.2), (.int .i64 e), (.bool false)]) rfl rfl rfl T.sz38 rfl rfl rfl) (fun _ _ => ?_)
 refine GL.nil ?_
 refine GE.thenN ?_
 refine GC.seq ?_
 refine GC.region ?_
 refine GL.val (v := (.pointer (some ⟨bq14, 1, none⟩))) (Ex.cast (Ex.fieldAddr rfl Try.underlying38 rfl T.sz4 (by decide)) rfl) (by decide) ?_
 refine GL.step (Stp.st0 (cs' := [(.int .i64 2), (.bool false), (.slice (some ⟨xq12.1, 0, none⟩) ((Nd.nd (((Bt.mant a).toNat * 2 ^ n1) - ((Bt.mant b).toNat * 2 ^ n2)))) xq12.2), (.int .i64 e), (.bool false)]) rfl rfl rfl T.sz4 rfl rfl rfl) (fun _ _ => ?_)
 refine GL.nil ?_
 refine GE.thenN ?_
 refine GC.seq ?_
 refine GC.region ?_
 refine GL.val (v := (.agg #[(.int .i64 2), (.bool false), (.slice (some ⟨xq12.1, 0, none⟩) ((Nd.nd (((Bt.mant a).toNat * 2 ^ n1) - ((Bt.mant b).toNat * 2 ^ n2)))) xq12.2), (.int .i64 e), (.bool false)])) (Ex.loadA rfl T.ag38 T.sz38 (i := 0) rfl (vs := [(.int .i64 2), (.bool false), (.slice (some ⟨xq12.1, 0, none⟩) ((Nd.nd (((Bt.mant a).toNat * 2 ^ n1) - ((Bt.mant b).toNat * 2 ^ n2)))) xq12.2), (.int .i64 e), (.bool false)]) rfl rfl) (by decide) ?_
 refine GL.step (Stp.st6 (cs' := [(.int .i64 2), (.bool false), (.slice (some ⟨xq12.1, 0, none⟩) ((Nd.nd (((Bt.mant a).toNat * 2 ^ n1) - ((Bt.mant b).toNat * 2 ^ n2)))) xq12.2), (.int .i64 e), (.bool false)]) rfl rfl rfl T.sz38 rfl rfl rfl) (fun _ _ => ?_)
 refine GL.nil ?_
 refine GE.thenN ?_
 refine GC.ret ?_
 refine GC.ret1 rfl (Rv.cellA rfl T.ag38 T.sz38 (L := _) (i := 6) rfl (vs := [(.int .i64 2), (.bool false), (.slice (some ⟨xq12.1, 0, none⟩) ((Nd.nd (((Bt.mant a).toNat * 2 ^ n1) - ((Bt.mant b).toNat * 2 ^ n2)))) xq12.2), (.int .i64 e), (.bool false)]) rfl rfl) (fun wN HN => ?_)
 exact HN.ret xq12 hpx rfl (ulS (ulC (ulS (ulS (ulS (ulS (ulS ulN))))))) rfl

set_option maxRecDepth 100000 in
set_option maxHeartbeats 1000000 in
theorem off_lt (a b e : Int) (n1 n2 : Nat) (w : World) (ha : 0 ≤ a ∧ a < 4294967296) (hfa : a % 2147483648 < 2139095040) (hb : 0 ≤ b ∧ b < 4294967296) (hfb : b % 2147483648 < 2139095040) (he1 : Bt.expo a = e + ((n1 : Nat) : Int)) (he2 : Bt.expo b = e + ((n2 : Nat) : Int)) (hn12 : n1 = 0 ∨ n2 = 0) (hn1 : n1 ≤ 3000) (hn2 : n2 ≤ 3000) (heb : -100000 ≤ e ∧ e ≤ 100000) (hg : (decide (a / 2147483648 % 2 = 1)) ≠ !(decide (b / 2147483648 % 2 = 1))) (hcs : (Bt.mant a).toNat * 2 ^ n1 < (Bt.mant b).toNat * 2 ^ n2) :
  Calls Try.prog 34 #[(.int .u32 a), (.int .u32 b)] w (Ret w (fun z' : Nat × Nat => Nd.nd (Lb.dfr (decide (a / 2147483648 % 2 = 1)) (decide (b / 2147483648 % 2 = 1)) ((Bt.mant a).toNat * 2 ^ n1) ((Bt.mant b).toNat * 2 ^ n2)) ≤ z'.2) (fun z' => (.agg #[(.int .i64 2), (.bool false), (.slice (some ⟨z'.1, 0, none⟩) ((Nd.nd (Lb.dfr (decide (a / 2147483648 % 2 = 1)) (decide (b / 2147483648 % 2 = 1)) ((Bt.mant a).toNat * 2 ^ n1) ((Bt.mant b).toNat * 2 ^ n2)))) z'.2), (.int .i64 e), (.bool false)])) (fun z' => [⟨z'.1, (Nd.dl z'.2 (Lb.dfr (decide (a / 2147483648 % 2 = 1)) (decide (b / 2147483648 % 2 = 1)) ((Bt.mant a).toNat * 2 ^ n1) ((Bt.mant b).toNat * 2 ^ n2))).map u32, 23, true⟩])) := by
 rw [Lb.dfr_lt hg hcs]
 have hma : (Bt.mant a).toNat < 4294967296 := by unfold Bt.mant; split <;> omega
 have hmb : (Bt.mant b).toNat < 4294967296 := by unfold Bt.mant; split <;> omega
 have hna : Nd.nd (Bt.mant a).toNat ≤ 50 := by rw [Nd.nd_one hma]; split <;> omega
 have hnb : Nd.nd (Bt.mant b).toNat ≤ 50 := by rw [Nd.nd_one hmb]; split <;> omega
 refine enter (M := None) (L := []) (n := 25) (l := [(0, (.int .u32 a)), (1, (.int .u32 b))]) Try.func34 rfl rfl (Args.cons rfl (Args.cons rfl (Args.nil _))) (Hp.start _ _) ?_
 refine GC.seq ?_
 refine GC.region ?_
 refine GL.step (Stp.alloc T.zr38 (by decide)) (fun bq1 _ => ?_)
 refine GL.nil ?_
 refine GE.thenN ?_
 refine GC.seq ?_
 refine GC.region ?_
 refine GL.step (Stp.callR (vs := []) rfl rfl T.own58 (by decide) (fun wc hw => j58_3  wc )) (fun xq2 hq3 => ?_)
 refine GL.val (Ex.move rfl) (by decide) ?_
 refine GL.val (v := (.int .u64 a)) (Ex.conv rfl Try.underlying23 Try.underlying70 (Z := a) (wu64b (by omega))) (by decide) ?_
 refine GL.step (Stp.callR (vs := [(.agg #[(.int .i64 23), (.int .i64 8)]), (.int .u64 a)]) rfl rfl T.own59 (by decide) (fun wc hw => of_all a wc ha hfa)) (fun xq4 hq5 => ?_)
 refine GL.step (Stp.callR (vs := []) rfl rfl T.own58 (by decide) (fun wc hw => j58_3  wc )) (fun xq6 hq7 => ?_)
 refine GL.val (Ex.move rfl) (by decide) ?_
 refine GL.val (v := (.int .u64 b)) (Ex.conv rfl Try.underlying23 Try.underlying70 (Z := b) (wu64b (by omega))) (by decide) ?_
 refine GL.step (Stp.callR (vs := [(.agg #[(.int .i64 23), (.int .i64 8)]), (.int .u64 b)]) rfl rfl T.own59 (by decide) (fun wc hw => of_all b wc hb hfb)) (fun xq8 hq9 => ?_)
 refine GL.step (Stp.alloc T.zr38 (by decide)) (fun bq10 _ => ?_)
 refine GL.step (Stp.alloc T.zr38 (by decide)) (fun bq11 _ => ?_)
 refine GL.step (Stp.st1 (cs' := [(.int .i64 2), (.bool ((decide (a / 2147483648 % 2 = 1)))), (.slice (some ⟨xq4, 0, none⟩) ((Nd.nd (Bt.mant a).toNat)) 2), (.int .i64 ((Bt.expo a))), (.bool false)]) rfl rfl rfl T.sz38 rfl rfl rfl) (fun _ _ => ?_)
 refine GL.step (Stp.st0 (cs' := [(.int .i64 2), (.bool ((decide (b / 2147483648 % 2 = 1)))), (.slice (some ⟨xq8, 0, none⟩) ((Nd.nd (Bt.mant b).toNat)) 2), (.int .i64 ((Bt.expo b))), (.bool false)]) rfl rfl rfl T.sz38 rfl rfl rfl) (fun _ _ => ?_)
 refine GL.nil ?_
 refine GE.thenN ?_
 refine GC.seq ?_
 refine GC.region ?_
 refine GL.val (v := (.pointer (some ⟨bq11, 1, none⟩))) (Ex.cast (Ex.fieldAddr rfl Try.underlying38 rfl T.sz4 (by decide)) rfl) (by decide) ?_
 refine GL.val (Ex.load rfl T.ag4 (i := 0) rfl rfl) (by decide) ?_
 refine GL.val (v := (.bool (!((decide (b / 2147483648 % 2 = 1)))))) (Ex.not rfl) (by decide) ?_
 refine GL.val (v := (.pointer (some ⟨bq11, 1, none⟩))) (Ex.cast (Ex.fieldAddr rfl Try.underlying38 rfl T.sz4 (by decide)) rfl) (by decide) ?_
 refine GL.step (Stp.st0 (cs' := [(.int .i64 2), (.bool (!((decide (b / 2147483648 % 2 = 1))))), (.slice (some ⟨xq8, 0, none⟩) ((Nd.nd (Bt.mant b).toNat)) 2), (.int .i64 ((Bt.expo b))), (.bool false)]) rfl rfl rfl T.sz4 rfl rfl rfl) (fun _ _ => ?_)
 refine GL.nil ?_
 refine GE.thenN ?_
 refine GC.seq ?_
 refine GC.region ?_
 refine GL.val (v := (.agg #[(.int .i64 2), (.bool ((decide (a / 2147483648 % 2 = 1)))), (.slice (some ⟨xq4, 0, none⟩) ((Nd.nd (Bt.mant a).toNat)) 2), (.int .i64 ((Bt.expo a))), (.bool false)])) (Ex.loadA rfl T.ag38 T.sz38 (i := 1) rfl (vs := [(.int .i64 2), (.bool ((decide (a / 2147483648 % 2 = 1)))), (.slice (some ⟨xq4, 0, none⟩) ((Nd.nd (Bt.mant a).toNat)) 2), (.int .i64 ((Bt.expo a))), (.bool false)]) rfl rfl) (by decide) ?_
 refine GL.val (v := (.agg #[(.int .i64 2), (.bool (!((decide (b / 2147483648 % 2 = 1))))), (.slice (some ⟨xq8, 0, none⟩) ((Nd.nd (Bt.mant b).toNat)) 2), (.int .i64 ((Bt.expo b))), (.bool false)])) (Ex.loadA rfl T.ag38 T.sz38 (i := 0) rfl (vs := [(.int .i64 2), (.bool (!((decide (b / 2147483648 % 2 = 1))))), (.slice (some ⟨xq8, 0, none⟩) ((Nd.nd (Bt.mant b).toNat)) 2), (.int .i64 ((Bt.expo b))), (.bool false)]) rfl rfl) (by decide) ?_
 refine GL.step (Stp.callR (vs := [(.agg #[(.int .i64 2), (.bool ((decide (a / 2147483648 % 2 = 1)))), (.slice (some ⟨xq4, 0, none⟩) ((Nd.nd (Bt.mant a).toNat)) 2), (.int .i64 ((Bt.expo a))), (.bool false)]), (.agg #[(.int .i64 2), (.bool (!((decide (b / 2147483648 % 2 = 1))))), (.slice (some ⟨xq8, 0, none⟩) ((Nd.nd (Bt.mant b).toNat)) 2), (.int .i64 ((Bt.expo b))), (.bool false)])]) rfl rfl T.own33 (by decide) (fun wc hw => pnum_lt (Bt.mant a).toNat xq4 2 (Bt.mant b).toNat xq8 2 e (Bt.expo a) (Bt.expo b) n1 n2 (decide (a / 2147483648 % 2 = 1)) (!(decide (b / 2147483648 % 2 = 1))) wc (Nd.Nb.one (Lg.rd1 (hw.rdOf (i := 3) rfl 0)) (by omega)) (by omega) (Nd.Nb.one (Lg.rd1 (hw.rdOf (i := 2) rfl 0)) (by omega)) (by omega) he1 he2 hn12 hn1 hn2 heb hg hcs)) (fun xq12 hq13 => ?_)
 have hpx := hq13
 refine GL.step (Stp.alloc T.zr38 (by decide)) (fun bq14 _ => ?_)
 refine GL.step (Stp.st0 (cs' := [(.int .i64 2), (.bool ((!(decide (b / 2147483648 % 2 = 1))))), (.slice (some ⟨xq12.1, 0, none⟩) ((Nd.nd (((Bt.mant b).toNat * 2 ^ n2) - ((Bt.mant a).toNat * 2 ^ n1)))) xq12.2), (.int .i64 e), (.bool false)]) rfl rfl rfl T.sz38 rfl rfl rfl) (fun _ _ => ?_)
 refine GL.nil ?_
 refine GE.thenN ?_
 refine GC.seq ?_
 refine GC.region ?_
 refine GL.val (v := (.pointer (some ⟨bq14, 1, none⟩))) (Ex.cast (Ex.fieldAddr rfl Try.underlying38 rfl T.sz4 (by decide)) rfl) (by decide) ?_
 refine GL.step (Stp.st0 (cs' := [(.int .i64 2), (.bool false), (.slice (some ⟨xq12.1, 0, none⟩) ((Nd.nd (((Bt.mant b).toNat * 2 ^ n2) - ((Bt.mant a).toNat * 2 ^ n1)))) xq12.2), (.int .i64 e), (.bool false)]) rfl rfl rfl T.sz4 rfl rfl rfl) (fun _ _ => ?_)
 refine GL.nil ?_
 refine GE.thenN ?_
 refine GC.seq ?_
 refine GC.region ?_
 refine GL.val (v := (.agg #[(.int .i64 2), (.bool false), (.slice (some ⟨xq12.1, 0, none⟩) ((Nd.nd (((Bt.mant b).toNat * 2 ^ n2) - ((Bt.mant a).toNat * 2 ^ n1)))) xq12.2), (.int .i64 e), (.bool false)])) (Ex.loadA rfl T.ag38 T.sz38 (i := 0) rfl (vs := [(.int .i64 2), (.bool false), (.slice (some ⟨xq12.1, 0, none⟩) ((Nd.nd (((Bt.mant b).toNat * 2 ^ n2) - ((Bt.mant a).toNat * 2 ^ n1)))) xq12.2), (.int .i64 e), (.bool false)]) rfl rfl) (by decide) ?_
 refine GL.step (Stp.st6 (cs' := [(.int .i64 2), (.bool false), (.slice (some ⟨xq12.1, 0, none⟩) ((Nd.nd (((Bt.mant b).toNat * 2 ^ n2) - ((Bt.mant a).toNat * 2 ^ n1)))) xq12.2), (.int .i64 e), (.bool false)]) rfl rfl rfl T.sz38 rfl rfl rfl) (fun _ _ => ?_)
 refine GL.nil ?_
 refine GE.thenN ?_
 refine GC.ret ?_
 refine GC.ret1 rfl (Rv.cellA rfl T.ag38 T.sz38 (L := _) (i := 6) rfl (vs := [(.int .i64 2), (.bool false), (.slice (some ⟨xq12.1, 0, none⟩) ((Nd.nd (((Bt.mant b).toNat * 2 ^ n2) - ((Bt.mant a).toNat * 2 ^ n1)))) xq12.2), (.int .i64 e), (.bool false)]) rfl rfl) (fun wN HN => ?_)
 exact HN.ret xq12 hpx rfl (ulS (ulC (ulS (ulS (ulS (ulS (ulS ulN))))))) rfl

set_option maxRecDepth 100000 in
set_option maxHeartbeats 1000000 in
theorem off_eq (a b e : Int) (n1 n2 : Nat) (w : World) (ha : 0 ≤ a ∧ a < 4294967296) (hfa : a % 2147483648 < 2139095040) (hb : 0 ≤ b ∧ b < 4294967296) (hfb : b % 2147483648 < 2139095040) (he1 : Bt.expo a = e + ((n1 : Nat) : Int)) (he2 : Bt.expo b = e + ((n2 : Nat) : Int)) (hn12 : n1 = 0 ∨ n2 = 0) (hn1 : n1 ≤ 3000) (hn2 : n2 ≤ 3000) (heb : -100000 ≤ e ∧ e ≤ 100000) (hg : (decide (a / 2147483648 % 2 = 1)) ≠ !(decide (b / 2147483648 % 2 = 1))) (hcs : (Bt.mant a).toNat * 2 ^ n1 = (Bt.mant b).toNat * 2 ^ n2) :
  Calls Try.prog 34 #[(.int .u32 a), (.int .u32 b)] w (Ret w (fun _ : Unit => True) (fun _ => (.agg #[(.int .i64 2), (.bool false), (.slice none 0 0), (.int .i64 e), (.bool false)])) (fun _ => [])) := by
 have hma : (Bt.mant a).toNat < 4294967296 := by unfold Bt.mant; split <;> omega
 have hmb : (Bt.mant b).toNat < 4294967296 := by unfold Bt.mant; split <;> omega
 have hna : Nd.nd (Bt.mant a).toNat ≤ 50 := by rw [Nd.nd_one hma]; split <;> omega
 have hnb : Nd.nd (Bt.mant b).toNat ≤ 50 := by rw [Nd.nd_one hmb]; split <;> omega
 refine enter (M := None) (L := []) (n := 25) (l := [(0, (.int .u32 a)), (1, (.int .u32 b))]) Try.func34 rfl rfl (Args.cons rfl (Args.cons rfl (Args.nil _))) (Hp.start _ _) ?_
 refine GC.seq ?_
 refine GC.region ?_
 refine GL.step (Stp.alloc T.zr38 (by decide)) (fun bq1 _ => ?_)
 refine GL.nil ?_
 refine GE.thenN ?_
 refine GC.seq ?_
 refine GC.region ?_
 refine GL.step (Stp.callR (vs := []) rfl rfl T.own58 (by decide) (fun wc hw => j58_3  wc )) (fun xq2 hq3 => ?_)
 refine GL.val (Ex.move rfl) (by decide) ?_
 refine GL.val (v := (.int .u64 a)) (Ex.conv rfl Try.underlying23 Try.underlying70 (Z := a) (wu64b (by omega))) (by decide) ?_
 refine GL.step (Stp.callR (vs := [(.agg #[(.int .i64 23), (.int .i64 8)]), (.int .u64 a)]) rfl rfl T.own59 (by decide) (fun wc hw => of_all a wc ha hfa)) (fun xq4 hq5 => ?_)
 refine GL.step (Stp.callR (vs := []) rfl rfl T.own58 (by decide) (fun wc hw => j58_3  wc )) (fun xq6 hq7 => ?_)
 refine GL.val (Ex.move rfl) (by decide) ?_
 refine GL.val (v := (.int .u64 b)) (Ex.conv rfl Try.underlying23 Try.underlying70 (Z := b) (wu64b (by omega))) (by decide) ?_
 refine GL.step (Stp.callR (vs := [(.agg #[(.int .i64 23), (.int .i64 8)]), (.int .u64 b)]) rfl rfl T.own59 (by decide) (fun wc hw => of_all b wc hb hfb)) (fun xq8 hq9 => ?_)
 refine GL.step (Stp.alloc T.zr38 (by decide)) (fun bq10 _ => ?_)
 refine GL.step (Stp.alloc T.zr38 (by decide)) (fun bq11 _ => ?_)
 refine GL.step (Stp.st1 (cs' := [(.int .i64 2), (.bool ((decide (a / 2147483648 % 2 = 1)))), (.slice (some ⟨xq4, 0, none⟩) ((Nd.nd (Bt.mant a).toNat)) 2), (.int .i64 ((Bt.expo a))), (.bool false)]) rfl rfl rfl T.sz38 rfl rfl rfl) (fun _ _ => ?_)
 refine GL.step (Stp.st0 (cs' := [(.int .i64 2), (.bool ((decide (b / 2147483648 % 2 = 1)))), (.slice (some ⟨xq8, 0, none⟩) ((Nd.nd (Bt.mant b).toNat)) 2), (.int .i64 ((Bt.expo b))), (.bool false)]) rfl rfl rfl T.sz38 rfl rfl rfl) (fun _ _ => ?_)
 refine GL.nil ?_
 refine GE.thenN ?_
 refine GC.seq ?_
 refine GC.region ?_
 refine GL.val (v := (.pointer (some ⟨bq11, 1, none⟩))) (Ex.cast (Ex.fieldAddr rfl Try.underlying38 rfl T.sz4 (by decide)) rfl) (by decide) ?_
 refine GL.val (Ex.load rfl T.ag4 (i := 0) rfl rfl) (by decide) ?_
 refine GL.val (v := (.bool (!((decide (b / 2147483648 % 2 = 1)))))) (Ex.not rfl) (by decide) ?_
 refine GL.val (v := (.pointer (some ⟨bq11, 1, none⟩))) (Ex.cast (Ex.fieldAddr rfl Try.underlying38 rfl T.sz4 (by decide)) rfl) (by decide) ?_
 refine GL.step (Stp.st0 (cs' := [(.int .i64 2), (.bool (!((decide (b / 2147483648 % 2 = 1))))), (.slice (some ⟨xq8, 0, none⟩) ((Nd.nd (Bt.mant b).toNat)) 2), (.int .i64 ((Bt.expo b))), (.bool false)]) rfl rfl rfl T.sz4 rfl rfl rfl) (fun _ _ => ?_)
 refine GL.nil ?_
 refine GE.thenN ?_
 refine GC.seq ?_
 refine GC.region ?_
 refine GL.val (v := (.agg #[(.int .i64 2), (.bool ((decide (a / 2147483648 % 2 = 1)))), (.slice (some ⟨xq4, 0, none⟩) ((Nd.nd (Bt.mant a).toNat)) 2), (.int .i64 ((Bt.expo a))), (.bool false)])) (Ex.loadA rfl T.ag38 T.sz38 (i := 1) rfl (vs := [(.int .i64 2), (.bool ((decide (a / 2147483648 % 2 = 1)))), (.slice (some ⟨xq4, 0, none⟩) ((Nd.nd (Bt.mant a).toNat)) 2), (.int .i64 ((Bt.expo a))), (.bool false)]) rfl rfl) (by decide) ?_
 refine GL.val (v := (.agg #[(.int .i64 2), (.bool (!((decide (b / 2147483648 % 2 = 1))))), (.slice (some ⟨xq8, 0, none⟩) ((Nd.nd (Bt.mant b).toNat)) 2), (.int .i64 ((Bt.expo b))), (.bool false)])) (Ex.loadA rfl T.ag38 T.sz38 (i := 0) rfl (vs := [(.int .i64 2), (.bool (!((decide (b / 2147483648 % 2 = 1))))), (.slice (some ⟨xq8, 0, none⟩) ((Nd.nd (Bt.mant b).toNat)) 2), (.int .i64 ((Bt.expo b))), (.bool false)]) rfl rfl) (by decide) ?_
 refine GL.step (Stp.callR (vs := [(.agg #[(.int .i64 2), (.bool ((decide (a / 2147483648 % 2 = 1)))), (.slice (some ⟨xq4, 0, none⟩) ((Nd.nd (Bt.mant a).toNat)) 2), (.int .i64 ((Bt.expo a))), (.bool false)]), (.agg #[(.int .i64 2), (.bool (!((decide (b / 2147483648 % 2 = 1))))), (.slice (some ⟨xq8, 0, none⟩) ((Nd.nd (Bt.mant b).toNat)) 2), (.int .i64 ((Bt.expo b))), (.bool false)])]) rfl rfl T.own33 (by decide) (fun wc hw => pnum_eq (Bt.mant a).toNat xq4 2 (Bt.mant b).toNat xq8 2 e (Bt.expo a) (Bt.expo b) n1 n2 (decide (a / 2147483648 % 2 = 1)) (!(decide (b / 2147483648 % 2 = 1))) wc (Nd.Nb.one (Lg.rd1 (hw.rdOf (i := 3) rfl 0)) (by omega)) (by omega) (Nd.Nb.one (Lg.rd1 (hw.rdOf (i := 2) rfl 0)) (by omega)) (by omega) he1 he2 hn12 hn1 hn2 heb hg hcs)) (fun xq12 hq13 => ?_)
 refine GL.step (Stp.alloc T.zr38 (by decide)) (fun bq14 _ => ?_)
 refine GL.step (Stp.st0 (cs' := [(.int .i64 2), (.bool false), (.slice none 0 0), (.int .i64 e), (.bool false)]) rfl rfl rfl T.sz38 rfl rfl rfl) (fun _ _ => ?_)
 refine GL.nil ?_
 refine GE.thenN ?_
 refine GC.seq ?_
 refine GC.region ?_
 refine GL.val (v := (.pointer (some ⟨bq14, 1, none⟩))) (Ex.cast (Ex.fieldAddr rfl Try.underlying38 rfl T.sz4 (by decide)) rfl) (by decide) ?_
 refine GL.step (Stp.st0 (cs' := [(.int .i64 2), (.bool false), (.slice none 0 0), (.int .i64 e), (.bool false)]) rfl rfl rfl T.sz4 rfl rfl rfl) (fun _ _ => ?_)
 refine GL.nil ?_
 refine GE.thenN ?_
 refine GC.seq ?_
 refine GC.region ?_
 refine GL.val (v := (.agg #[(.int .i64 2), (.bool false), (.slice none 0 0), (.int .i64 e), (.bool false)])) (Ex.loadA rfl T.ag38 T.sz38 (i := 0) rfl (vs := [(.int .i64 2), (.bool false), (.slice none 0 0), (.int .i64 e), (.bool false)]) rfl rfl) (by decide) ?_
 refine GL.step (Stp.st5 (cs' := [(.int .i64 2), (.bool false), (.slice none 0 0), (.int .i64 e), (.bool false)]) rfl rfl rfl T.sz38 rfl rfl rfl) (fun _ _ => ?_)
 refine GL.nil ?_
 refine GE.thenN ?_
 refine GC.ret ?_
 refine GC.ret1 rfl (Rv.cellA rfl T.ag38 T.sz38 (L := _) (i := 5) rfl (vs := [(.int .i64 2), (.bool false), (.slice none 0 0), (.int .i64 e), (.bool false)]) rfl rfl) (fun wN HN => ?_)
 exact HN.ret () trivial rfl (List.nil_sublist _) rfl

theorem off_ne (a b e : Int) (n1 n2 : Nat) (w : World) (ha : 0 ≤ a ∧ a < 4294967296) (hfa : a % 2147483648 < 2139095040) (hb : 0 ≤ b ∧ b < 4294967296) (hfb : b % 2147483648 < 2139095040) (he1 : Bt.expo a = e + ((n1 : Nat) : Int)) (he2 : Bt.expo b = e + ((n2 : Nat) : Int)) (hn12 : n1 = 0 ∨ n2 = 0) (hn1 : n1 ≤ 3000) (hn2 : n2 ≤ 3000) (heb : -100000 ≤ e ∧ e ≤ 100000) (hab : a ≠ b) : Calls Try.prog 34 #[.int .u32 a, .int .u32 b] w (Ret w (fun z' : Nat × Nat => Nd.nd (Lb.dfr (decide (a / 2147483648 % 2 = 1)) (decide (b / 2147483648 % 2 = 1)) ((Bt.mant a).toNat * 2 ^ n1) ((Bt.mant b).toNat * 2 ^ n2)) ≤ z'.2) (fun z' => (.agg #[(.int .i64 2), (.bool false), (.slice (some ⟨z'.1, 0, none⟩) ((Nd.nd (Lb.dfr (decide (a / 2147483648 % 2 = 1)) (decide (b / 2147483648 % 2 = 1)) ((Bt.mant a).toNat * 2 ^ n1) ((Bt.mant b).toNat * 2 ^ n2)))) z'.2), (.int .i64 e), (.bool false)])) (fun z' => [⟨z'.1, (Nd.dl z'.2 (Lb.dfr (decide (a / 2147483648 % 2 = 1)) (decide (b / 2147483648 % 2 = 1)) ((Bt.mant a).toNat * 2 ^ n1) ((Bt.mant b).toNat * 2 ^ n2))).map u32, 23, true⟩])) := by
 by_cases hg : (decide (a / 2147483648 % 2 = 1)) = !(decide (b / 2147483648 % 2 = 1))
 ·exact off_same a b e n1 n2 w ha hfa hb hfb he1 he2 hn12 hn1 hn2 heb hg
 ·rcases Nat.lt_trichotomy ((Bt.mant a).toNat * 2 ^ n1) ((Bt.mant b).toNat * 2 ^ n2) with q | q | q
  ·exact off_lt a b e n1 n2 w ha hfa hb hfb he1 he2 hn12 hn1 hn2 heb hg q
  ·exact absurd (Lb.eq_of ha hfa hb hfb he1 he2 (by have := Lb.expo_bd ha hfa; have := Lb.expo_bd hb hfb; omega) hg q) hab
  ·exact off_gt a b e n1 n2 w ha hfa hb hfb he1 he2 hn12 hn1 hn2 heb hg q

set_option maxRecDepth 100000 in
set_option maxHeartbeats 1000000 in
theorem fromycc_p (y p o : Int) (w : World) (hU : Fv.Holds .f64 .f32 (Sb.fu y p o)) (hW : Fv.Holds .f64 .f32 (Sb.fw y p)) (hZ : Fv.Holds .f64 .f32 (Sb.fz y p o)) :
  Calls Try.prog 16 #[(.int .u32 y), (.int .u32 p), (.int .u32 o)] w (Ret w (fun _ : Unit => True) (fun _ => (.tuple #[(.int .u32 ((Fv.T (Sb.fu y p o)))), (.int .u32 ((Fv.T (Sb.fw y p)))), (.int .u32 ((Fv.T (Sb.fz y p o))))])) (fun _ => [])) := by
 refine enter (M := None) (L := []) (n := 31) (l := [(0, (.int .u32 y)), (1, (.int .u32 p)), (2, (.int .u32 o))]) Try.func16 rfl rfl (Args.cons rfl (Args.cons rfl (Args.cons rfl (Args.nil _)))) (Hp.start _ _) ?_
 refine GC.seq ?_
 refine GC.region ?_
 refine GL.val (Ex.assign rfl) (by decide) ?_
 refine GL.val (Ex.assign rfl) (by decide) ?_
 refine GL.val (Ex.assign rfl) (by decide) ?_
 refine GL.nil ?_
 refine GE.thenN ?_
 refine GC.seq ?_
 refine GC.region ?_
 refine GL.val (Ex.move rfl) (by decide) ?_
 refine GL.step (Stp.callR (vs := [(.int .u32 y)]) rfl rfl T.own39 (by decide) (fun wc hw => value_p y wc)) (fun xq1 hq2 => ?_)
 refine GL.val (Ex.move rfl) (by decide) ?_
 refine GL.step (Stp.callR (vs := [(.int .u32 p)]) rfl rfl T.own39 (by decide) (fun wc hw => value_p p wc)) (fun xq3 hq4 => ?_)
 refine GL.step (Stp.fop (fx := (Fv.V y)) (fy := (Fv.V p)) rfl rfl rfl hq2 hq4 (by decide)) (fun xq5 hq6 => ?_)
 refine GL.val (Ex.assign rfl) (by decide) ?_
 refine GL.nil ?_
 refine GE.thenN ?_
 refine GC.seq ?_
 refine GC.region ?_
 refine GL.val (Ex.move rfl) (by decide) ?_
 refine GL.val (Ex.move rfl) (by decide) ?_
 refine GL.step (Stp.callR (vs := [(.int .u32 o)]) rfl rfl T.own39 (by decide) (fun wc hw => value_p o wc)) (fun xq7 hq8 => ?_)
 refine GL.step (Stp.fop (fx := (Fv.op .sub .f64 (Fv.V y) (Fv.V p))) (fy := (Fv.V o)) rfl rfl rfl hq6 hq8 (by decide)) (fun xq9 hq10 => ?_)
 refine GL.step (Stp.callR (vs := [(.float .f64 xq9)]) rfl rfl T.own40 (by decide) (fun wc hw => told_p xq9 (Fv.op .add .f64 (Fv.op .sub .f64 (Fv.V y) (Fv.V p)) (Fv.V o)) wc hq10 hU)) (fun xq11 hq12 => ?_)
 refine GL.val (Ex.move rfl) (by decide) ?_
 refine GL.step (Stp.callR (vs := [(.int .u32 y)]) rfl rfl T.own39 (by decide) (fun wc hw => value_p y wc)) (fun xq13 hq14 => ?_)
 refine GL.val (Ex.move rfl) (by decide) ?_
 refine GL.step (Stp.callR (vs := [(.int .u32 p)]) rfl rfl T.own39 (by decide) (fun wc hw => value_p p wc)) (fun xq15 hq16 => ?_)
 refine GL.step (Stp.fop (fx := (Fv.V y)) (fy := (Fv.V p)) rfl rfl rfl hq14 hq16 (by decide)) (fun xq17 hq18 => ?_)
 refine GL.step (Stp.callR (vs := [(.float .f64 xq17)]) rfl rfl T.own40 (by decide) (fun wc hw => told_p xq17 (Fv.op .add .f64 (Fv.V y) (Fv.V p)) wc hq18 hW)) (fun xq19 hq20 => ?_)
 refine GL.val (Ex.move rfl) (by decide) ?_
 refine GL.val (Ex.move rfl) (by decide) ?_
 refine GL.step (Stp.callR (vs := [(.int .u32 o)]) rfl rfl T.own39 (by decide) (fun wc hw => value_p o wc)) (fun xq21 hq22 => ?_)
 refine GL.step (Stp.fop (fx := (Fv.op .sub .f64 (Fv.V y) (Fv.V p))) (fy := (Fv.V o)) rfl rfl rfl hq6 hq22 (by decide)) (fun xq23 hq24 => ?_)
 refine GL.step (Stp.callR (vs := [(.float .f64 xq23)]) rfl rfl T.own40 (by decide) (fun wc hw => told_p xq23 (Fv.op .sub .f64 (Fv.op .sub .f64 (Fv.V y) (Fv.V p)) (Fv.V o)) wc hq24 hZ)) (fun xq25 hq26 => ?_)
 refine GL.val (Ex.assign rfl) (by decide) ?_
 refine GL.val (Ex.assign rfl) (by decide) ?_
 refine GL.val (Ex.assign rfl) (by decide) ?_
 refine GL.nil ?_
 refine GE.thenN ?_
 refine GC.ret ?_
 refine GC.ret3 rfl (Rv.tmp rfl) (Rv.tmp rfl) (Rv.tmp rfl) (fun wN HN => ?_)
 exact HN.ret () trivial (by rfl) (List.nil_sublist _) rfl

set_option maxRecDepth 100000 in
set_option maxHeartbeats 1000000 in
theorem back17 (r g b u1 v1 z1 q ed : Int) (bb b1 b2 c nd md : Nat) (w : World) (hFr : Sb.Fn r) (hFg : Sb.Fn g) (hFb : Sb.Fn b) (hFq : Sb.Fn q) (hNu1 : Sb.Near r u1 q c) (hNv1 : Sb.Near g v1 q c) (hNz1 : Sb.Near b z1 q c) (hc : c = 1151) (hed : Bt.expo q - 24 = ed + ((nd : Nat) : Int)) (hfd : -147 = ed + ((md : Nat) : Int)) (hgd : nd = 0 ∨ md = 0) (hj : Nd.nd ((Bt.mant q).toNat * 5 * 2 ^ nd + 1 * 2 ^ md) ≤ b2) {Q : Exit → Act → World → Prop} (hQ : ∀ (c : List PanicEntry) (a : Act) (d : Nat) (v : Value) (w : World), Q (.panic c) (a.put (some d) v) w → Q (.panic c) a w) (K : ∀ ju : Unit, GE 155 None w [(0, (.int .u32 r)), (1, (.int .u32 g)), (2, (.int .u32 b)), (6, (.bool false)), (112, (.bool false))] [] (Q .normal)) :
  GC Try.prog Q 155 None w [(0, (.int .u32 r)), (1, (.int .u32 g)), (2, (.int .u32 b)), (6, (.bool false)), (8, (.pointer (some ⟨bb, 0, none⟩))), (12, (.int .u32 u1)), (13, (.int .u32 v1)), (14, (.int .u32 z1))] [⟨bb, [(.int .i64 2), (.bool false), (.slice (some ⟨b1, 0, none⟩) ((Nd.nd ((Bt.mant q).toNat * 5 * 2 ^ nd + 1 * 2 ^ md))) b2), (.int .i64 ed), (.bool false)], 38, true⟩, ⟨b1, (Nd.dl b2 ((Bt.mant q).toNat * 5 * 2 ^ nd + 1 * 2 ^ md)).map u32, 23, true⟩] (seqF (seqF (seqS (seqS (seqS (seqS (seqS (seqS (seqS (seqS (seqS (seqS (seqS (seqS (Try.f8.body.getD .skip))))))))))))))) := by
 have hFu1 := hNu1.1
 have hfu : u1 % 2147483648 < 2139095040 := hFu1.2
 have hFv1 := hNv1.1
 have hfv : v1 % 2147483648 < 2139095040 := hFv1.2
 have hFz1 := hNz1.1
 have hfz : z1 % 2147483648 < 2139095040 := hFz1.2
 have hxq := Lb.expo_bd hFq.1 hFq.2
 have hxr := Lb.expo_bd hFr.1 hFr.2
 have hxg := Lb.expo_bd hFg.1 hFg.2
 have hxb := Lb.expo_bd hFb.1 hFb.2
 have hxu1 := Lb.expo_bd hFu1.1 hFu1.2
 have hxv1 := Lb.expo_bd hFv1.1 hFv1.2
 have hxz1 := Lb.expo_bd hFz1.1 hFz1.2
 have hnd : nd ≤ 300 := by omega
 have hmd : md ≤ 300 := by omega
 clear hxq
 by_cases s1 : r = u1
 ·rw [← s1]
  obtain ⟨es1, ns1, ms1, hes1, hfs1, hgs1, hhs1⟩ := Lb.mins (Bt.expo r) ed
  have hss1 : (-100000 ≤ es1 ∧ es1 ≤ 100000) ∧ ns1 ≤ 3000 ∧ ms1 ≤ 3000 := ⟨⟨by omega, by omega⟩, by omega, by omega⟩
  clear hxu1
  by_cases s2 : g = v1
  ·rw [← s2]
   obtain ⟨es2, ns2, ms2, hes2, hfs2, hgs2, hhs2⟩ := Lb.mins (Bt.expo g) ed
   have hss2 : (-100000 ≤ es2 ∧ es2 ≤ 100000) ∧ ns2 ≤ 3000 ∧ ms2 ≤ 3000 := ⟨⟨by omega, by omega⟩, by omega, by omega⟩
   clear hxv1
   by_cases s3 : b = z1
   ·rw [← s3]
    obtain ⟨es3, ns3, ms3, hes3, hfs3, hgs3, hhs3⟩ := Lb.mins (Bt.expo b) ed
    have hss3 : (-100000 ≤ es3 ∧ es3 ≤ 100000) ∧ ns3 ≤ 3000 ∧ ms3 ≤ 3000 := ⟨⟨by omega, by omega⟩, by omega, by omega⟩
    clear hxz1
    refine GC.join (σ := Unit) (fun j => True) (fun j => [(0, (.int .u32 r)), (1, (.int .u32 g)), (2, (.int .u32 b)), (6, (.bool false)), (112, (.bool false))]) (fun j => []) ?_ (fun ju hj => ?_)
    ·refine GC.draw [⟨bb, [(.int .i64 2), (.bool false), (.slice (some ⟨b1, 0, none⟩) ((Nd.nd ((Bt.mant q).toNat * 5 * 2 ^ nd + 1 * 2 ^ md))) b2), (.int .i64 ed), (.bool false)], 38, true⟩, ⟨b1, (Nd.dl b2 ((Bt.mant q).toNat * 5 * 2 ^ nd + 1 * 2 ^ md)).map u32, 23, true⟩] T.mixed (fuel := 37) rfl rfl ?_
     refine GH.take 0 (v := (.int .u32 r)) rfl (by kernel_rfl) (by kernel_rfl) (by kernel_rfl) (fun _ _ _ h => hQ _ _ _ _ _ h) (Ex.move rfl) (ulC (ulC ulN)) (by decide) ?_
     refine GH.one 1 rfl (by kernel_rfl) (Stp.callR (vs := [(.int .u32 r)]) rfl rfl T.own28 (by decide) (fun wc hw => finite_l r wc hFr.1)) (fun _ => (ulC (ulC ulN))) (fun xq1 hq2 => ?_)
     refine GH.take 2 (v := (.bool false)) rfl (by kernel_rfl) (by kernel_rfl) (by kernel_rfl) (fun _ _ _ h => hQ _ _ _ _ _ h) (Ex.cast (Ex.not rfl) (congrArg Value.bool (congrArg (fun z => !z) (decide_eq_true (by first | exact hfu | exact hfv | exact hfz | exact hFr.2 | exact hFg.2 | exact hFb.2))))) (ulC (ulC ulN)) (by decide) ?_
     refine GH.take 3 (v := (.bool false)) rfl (by kernel_rfl) (by kernel_rfl) (by kernel_rfl) (fun _ _ _ h => hQ _ _ _ _ _ h) (Ex.move rfl) (ulC (ulC ulN)) (by decide) ?_
     refine GH.takeG 4 (tj := 79) (v := (.int .u32 g)) rfl rfl rfl (by kernel_rfl) (by kernel_rfl) (by kernel_rfl) (fun _ _ _ h => hQ _ _ _ _ _ h) (Ex.move rfl) (ulC (ulC ulN)) (by decide) ?_
     refine GH.oneG 5 (tj := 79) rfl rfl rfl (by kernel_rfl) (Stp.callR (vs := [(.int .u32 g)]) rfl rfl T.own28 (by decide) (fun wc hw => finite_l g wc hFg.1)) (fun _ => (ulC (ulC ulN))) (fun xq3 hq4 => ?_)
     refine GH.takeG 6 (tj := 79) (v := (.bool false)) rfl rfl rfl (by kernel_rfl) (by kernel_rfl) (by kernel_rfl) (fun _ _ _ h => hQ _ _ _ _ _ h) (Ex.cast (Ex.not rfl) (congrArg Value.bool (congrArg (fun z => !z) (decide_eq_true (by first | exact hfu | exact hfv | exact hfz | exact hFr.2 | exact hFg.2 | exact hFb.2))))) (ulC (ulC ulN)) (by decide) ?_
     refine GH.take 7 (v := (.bool false)) rfl (by kernel_rfl) (by kernel_rfl) (by kernel_rfl) (fun _ _ _ h => hQ _ _ _ _ _ h) (Ex.pickF rfl rfl) (ulC (ulC ulN)) (by decide) ?_
     refine GH.take 8 (v := (.bool false)) rfl (by kernel_rfl) (by kernel_rfl) (by kernel_rfl) (fun _ _ _ h => hQ _ _ _ _ _ h) (Ex.move rfl) (ulC (ulC ulN)) (by decide) ?_
     refine GH.takeG 9 (tj := 84) (v := (.int .u32 b)) rfl rfl rfl (by kernel_rfl) (by kernel_rfl) (by kernel_rfl) (fun _ _ _ h => hQ _ _ _ _ _ h) (Ex.move rfl) (ulC (ulC ulN)) (by decide) ?_
     refine GH.oneG 10 (tj := 84) rfl rfl rfl (by kernel_rfl) (Stp.callR (vs := [(.int .u32 b)]) rfl rfl T.own28 (by decide) (fun wc hw => finite_l b wc hFb.1)) (fun _ => (ulC (ulC ulN))) (fun xq5 hq6 => ?_)
     refine GH.takeG 11 (tj := 84) (v := (.bool false)) rfl rfl rfl (by kernel_rfl) (by kernel_rfl) (by kernel_rfl) (fun _ _ _ h => hQ _ _ _ _ _ h) (Ex.cast (Ex.not rfl) (congrArg Value.bool (congrArg (fun z => !z) (decide_eq_true (by first | exact hfu | exact hfv | exact hfz | exact hFr.2 | exact hFg.2 | exact hFb.2))))) (ulC (ulC ulN)) (by decide) ?_
     refine GH.take 12 (v := (.bool false)) rfl (by kernel_rfl) (by kernel_rfl) (by kernel_rfl) (fun _ _ _ h => hQ _ _ _ _ _ h) (Ex.pickF rfl rfl) (ulC (ulC ulN)) (by decide) ?_
     refine GH.take 13 (v := (.bool false)) rfl (by kernel_rfl) (by kernel_rfl) (by kernel_rfl) (fun _ _ _ h => hQ _ _ _ _ _ h) (Ex.move rfl) (ulC (ulC ulN)) (by decide) ?_
     refine GH.takeG 14 (tj := 89) (v := (.int .u32 r)) rfl rfl rfl (by kernel_rfl) (by kernel_rfl) (by kernel_rfl) (fun _ _ _ h => hQ _ _ _ _ _ h) (Ex.move rfl) (ulC (ulC ulN)) (by decide) ?_
     refine GH.takeG 15 (tj := 89) (v := (.int .u32 r)) rfl rfl rfl (by kernel_rfl) (by kernel_rfl) (by kernel_rfl) (fun _ _ _ h => hQ _ _ _ _ _ h) (Ex.move rfl) (ulC (ulC ulN)) (by decide) ?_
     refine GH.takeG 17 (tj := 89) (v := (.agg #[(.int .i64 2), (.bool false), (.slice (some ⟨b1, 0, none⟩) ((Nd.nd ((Bt.mant q).toNat * 5 * 2 ^ nd + 1 * 2 ^ md))) b2), (.int .i64 ed), (.bool false)])) rfl rfl rfl (by kernel_rfl) (by kernel_rfl) (by kernel_rfl) (fun _ _ _ h => hQ _ _ _ _ _ h) (Ex.loadA rfl T.ag38 T.sz38 (i := 0) rfl (vs := [(.int .i64 2), (.bool false), (.slice (some ⟨b1, 0, none⟩) ((Nd.nd ((Bt.mant q).toNat * 5 * 2 ^ nd + 1 * 2 ^ md))) b2), (.int .i64 ed), (.bool false)]) rfl rfl) (ulC (ulC ulN)) (by decide) ?_
     refine GH.oneG 16 (tj := 89) rfl rfl rfl (by kernel_rfl) (Stp.callR (vs := [(.int .u32 r), (.int .u32 r)]) rfl rfl T.own34 (by decide) (fun wc hw => off_eq r r (Bt.expo r) 0 0 wc hFr.1 hFr.2 hFr.1 hFr.2 (by omega) (by omega) (.inl rfl) (by decide) (by decide) (by omega) (Lb.ne_not _) rfl)) (fun _ => (ulC (ulC ulN))) (fun xq7 hq8 => ?_)
     refine GH.oneG 18 (tj := 89) rfl rfl rfl (by kernel_rfl) (Stp.callR (vs := [(.agg #[(.int .i64 2), (.bool false), (.slice none 0 0), (.int .i64 ((Bt.expo r))), (.bool false)]), (.agg #[(.int .i64 2), (.bool false), (.slice (some ⟨b1, 0, none⟩) ((Nd.nd ((Bt.mant q).toNat * 5 * 2 ^ nd + 1 * 2 ^ md))) b2), (.int .i64 ed), (.bool false)])]) rfl rfl T.own30 (by decide) (fun wc hw => within_n none 0 (((Bt.mant q).toNat * 5 * 2 ^ nd + 1 * 2 ^ md)) b1 b2 es1 ((Bt.expo r)) ed ns1 ms1 false false wc (Nd.Nb.of (hw.rdOf (i := 1) rfl 0) (Lb.nd_lt_of hj)) (Nat.le_trans (Sb.nd_bound hFq.1 hnd hmd) (by decide)) hes1 hfs1 hgs1 hss1.2.1 hss1.2.2 hss1.1)) (fun _ => (ulC (ulC ulN))) (fun xq9 hq10 => ?_)
     refine GH.takeG 19 (tj := 89) (v := (.bool false)) rfl rfl rfl (by kernel_rfl) (by kernel_rfl) (by kernel_rfl) (fun _ _ _ h => hQ _ _ _ _ _ h) (Ex.cast (Ex.not rfl) rfl) (ulC (ulC ulN)) (by decide) ?_
     refine GH.take 20 (v := (.bool false)) rfl (by kernel_rfl) (by kernel_rfl) (by kernel_rfl) (fun _ _ _ h => hQ _ _ _ _ _ h) (Ex.pickF rfl rfl) (ulC (ulC ulN)) (by decide) ?_
     refine GH.take 21 (v := (.bool false)) rfl (by kernel_rfl) (by kernel_rfl) (by kernel_rfl) (fun _ _ _ h => hQ _ _ _ _ _ h) (Ex.move rfl) (ulC (ulC ulN)) (by decide) ?_
     refine GH.takeG 22 (tj := 97) (v := (.int .u32 g)) rfl rfl rfl (by kernel_rfl) (by kernel_rfl) (by kernel_rfl) (fun _ _ _ h => hQ _ _ _ _ _ h) (Ex.move rfl) (ulC (ulC ulN)) (by decide) ?_
     refine GH.takeG 23 (tj := 97) (v := (.int .u32 g)) rfl rfl rfl (by kernel_rfl) (by kernel_rfl) (by kernel_rfl) (fun _ _ _ h => hQ _ _ _ _ _ h) (Ex.move rfl) (ulC (ulC ulN)) (by decide) ?_
     refine GH.takeG 25 (tj := 97) (v := (.agg #[(.int .i64 2), (.bool false), (.slice (some ⟨b1, 0, none⟩) ((Nd.nd ((Bt.mant q).toNat * 5 * 2 ^ nd + 1 * 2 ^ md))) b2), (.int .i64 ed), (.bool false)])) rfl rfl rfl (by kernel_rfl) (by kernel_rfl) (by kernel_rfl) (fun _ _ _ h => hQ _ _ _ _ _ h) (Ex.loadA rfl T.ag38 T.sz38 (i := 0) rfl (vs := [(.int .i64 2), (.bool false), (.slice (some ⟨b1, 0, none⟩) ((Nd.nd ((Bt.mant q).toNat * 5 * 2 ^ nd + 1 * 2 ^ md))) b2), (.int .i64 ed), (.bool false)]) rfl rfl) (ulC (ulC ulN)) (by decide) ?_
     refine GH.oneG 24 (tj := 97) rfl rfl rfl (by kernel_rfl) (Stp.callR (vs := [(.int .u32 g), (.int .u32 g)]) rfl rfl T.own34 (by decide) (fun wc hw => off_eq g g (Bt.expo g) 0 0 wc hFg.1 hFg.2 hFg.1 hFg.2 (by omega) (by omega) (.inl rfl) (by decide) (by decide) (by omega) (Lb.ne_not _) rfl)) (fun _ => (ulC (ulC ulN))) (fun xq11 hq12 => ?_)
     refine GH.oneG 26 (tj := 97) rfl rfl rfl (by kernel_rfl) (Stp.callR (vs := [(.agg #[(.int .i64 2), (.bool false), (.slice none 0 0), (.int .i64 ((Bt.expo g))), (.bool false)]), (.agg #[(.int .i64 2), (.bool false), (.slice (some ⟨b1, 0, none⟩) ((Nd.nd ((Bt.mant q).toNat * 5 * 2 ^ nd + 1 * 2 ^ md))) b2), (.int .i64 ed), (.bool false)])]) rfl rfl T.own30 (by decide) (fun wc hw => within_n none 0 (((Bt.mant q).toNat * 5 * 2 ^ nd + 1 * 2 ^ md)) b1 b2 es2 ((Bt.expo g)) ed ns2 ms2 false false wc (Nd.Nb.of (hw.rdOf (i := 1) rfl 0) (Lb.nd_lt_of hj)) (Nat.le_trans (Sb.nd_bound hFq.1 hnd hmd) (by decide)) hes2 hfs2 hgs2 hss2.2.1 hss2.2.2 hss2.1)) (fun _ => (ulC (ulC ulN))) (fun xq13 hq14 => ?_)
     refine GH.takeG 27 (tj := 97) (v := (.bool false)) rfl rfl rfl (by kernel_rfl) (by kernel_rfl) (by kernel_rfl) (fun _ _ _ h => hQ _ _ _ _ _ h) (Ex.cast (Ex.not rfl) rfl) (ulC (ulC ulN)) (by decide) ?_
     refine GH.take 28 (v := (.bool false)) rfl (by kernel_rfl) (by kernel_rfl) (by kernel_rfl) (fun _ _ _ h => hQ _ _ _ _ _ h) (Ex.pickF rfl rfl) (ulC (ulC ulN)) (by decide) ?_
     refine GH.take 29 (v := (.bool false)) rfl (by kernel_rfl) (by kernel_rfl) (by kernel_rfl) (fun _ _ _ h => hQ _ _ _ _ _ h) (Ex.move rfl) (ulC (ulC ulN)) (by decide) ?_
     refine GH.takeG 30 (tj := 105) (v := (.int .u32 b)) rfl rfl rfl (by kernel_rfl) (by kernel_rfl) (by kernel_rfl) (fun _ _ _ h => hQ _ _ _ _ _ h) (Ex.move rfl) (ulC (ulC ulN)) (by decide) ?_
     refine GH.takeG 31 (tj := 105) (v := (.int .u32 b)) rfl rfl rfl (by kernel_rfl) (by kernel_rfl) (by kernel_rfl) (fun _ _ _ h => hQ _ _ _ _ _ h) (Ex.move rfl) (ulC (ulC ulN)) (by decide) ?_
     refine GH.takeG 33 (tj := 105) (v := (.agg #[(.int .i64 2), (.bool false), (.slice (some ⟨b1, 0, none⟩) ((Nd.nd ((Bt.mant q).toNat * 5 * 2 ^ nd + 1 * 2 ^ md))) b2), (.int .i64 ed), (.bool false)])) rfl rfl rfl (by kernel_rfl) (by kernel_rfl) (by kernel_rfl) (fun _ _ _ h => hQ _ _ _ _ _ h) (Ex.loadA rfl T.ag38 T.sz38 (i := 0) rfl (vs := [(.int .i64 2), (.bool false), (.slice (some ⟨b1, 0, none⟩) ((Nd.nd ((Bt.mant q).toNat * 5 * 2 ^ nd + 1 * 2 ^ md))) b2), (.int .i64 ed), (.bool false)]) rfl rfl) (ulC (ulC ulN)) (by decide) ?_
     refine GH.oneG 32 (tj := 105) rfl rfl rfl (by kernel_rfl) (Stp.callR (vs := [(.int .u32 b), (.int .u32 b)]) rfl rfl T.own34 (by decide) (fun wc hw => off_eq b b (Bt.expo b) 0 0 wc hFb.1 hFb.2 hFb.1 hFb.2 (by omega) (by omega) (.inl rfl) (by decide) (by decide) (by omega) (Lb.ne_not _) rfl)) (fun _ => (ulC (ulC ulN))) (fun xq15 hq16 => ?_)
     refine GH.oneG 34 (tj := 105) rfl rfl rfl (by kernel_rfl) (Stp.callR (vs := [(.agg #[(.int .i64 2), (.bool false), (.slice none 0 0), (.int .i64 ((Bt.expo b))), (.bool false)]), (.agg #[(.int .i64 2), (.bool false), (.slice (some ⟨b1, 0, none⟩) ((Nd.nd ((Bt.mant q).toNat * 5 * 2 ^ nd + 1 * 2 ^ md))) b2), (.int .i64 ed), (.bool false)])]) rfl rfl T.own30 (by decide) (fun wc hw => within_n none 0 (((Bt.mant q).toNat * 5 * 2 ^ nd + 1 * 2 ^ md)) b1 b2 es3 ((Bt.expo b)) ed ns3 ms3 false false wc (Nd.Nb.of (hw.rdOf (i := 1) rfl 0) (Lb.nd_lt_of hj)) (Nat.le_trans (Sb.nd_bound hFq.1 hnd hmd) (by decide)) hes3 hfs3 hgs3 hss3.2.1 hss3.2.2 hss3.1)) (fun _ => (ulC (ulC ulN))) (fun xq17 hq18 => ?_)
     refine GH.takeG 35 (tj := 105) (v := (.bool false)) rfl rfl rfl (by kernel_rfl) (by kernel_rfl) (by kernel_rfl) (fun _ _ _ h => hQ _ _ _ _ _ h) (Ex.cast (Ex.not rfl) rfl) (ulC (ulC ulN)) (by decide) ?_
     refine GH.take 36 (v := (.bool false)) rfl (by kernel_rfl) (by kernel_rfl) (by kernel_rfl) (fun _ _ _ h => hQ _ _ _ _ _ h) (Ex.pickF rfl rfl) (ulC (ulC ulN)) (by decide) ?_
     refine GH.done (by kernel_rfl) ?_
     refine GE.thenN ?_
     exact St.mk (()) trivial (idx := []) ((sub_cons rfl ((sub_cons rfl ((sub_cons rfl ((sub_cons rfl ((sub_cons rfl ((sub_nil _)))))))))))) (by decide) rfl
    exact K ju
   ·obtain ⟨ezs3, nzs3, mzs3, hezs3, hfzs3, hgzs3, hhzs3⟩ := Lb.mins (Bt.expo b) (Bt.expo z1)
    obtain ⟨es3, ns3, ms3, hes3, hfs3, hgs3, hhs3⟩ := Lb.mins ezs3 ed
    have hbz1 : nzs3 ≤ 300 ∧ mzs3 ≤ 300 := ⟨by omega, by omega⟩
    have hWs3 := Sb.bound_ok hc hFb.1 hFb.2 hFz1.1 hFz1.2 hFq.1 hFq.2 hezs3 hfzs3 hed hfd hes3 hfs3 (by omega) hNz1.2
    have hss3 : (-100000 ≤ es3 ∧ es3 ≤ 100000) ∧ ns3 ≤ 3000 ∧ ms3 ≤ 3000 := ⟨⟨by omega, by omega⟩, by omega, by omega⟩
    have hszs3 : (-100000 ≤ ezs3 ∧ ezs3 ≤ 100000) ∧ nzs3 ≤ 3000 ∧ mzs3 ≤ 3000 := ⟨⟨by omega, by omega⟩, by omega, by omega⟩
    clear hxz1
    refine GC.join (σ := Unit) (fun j => True) (fun j => [(0, (.int .u32 r)), (1, (.int .u32 g)), (2, (.int .u32 b)), (6, (.bool false)), (112, (.bool false))]) (fun j => []) ?_ (fun ju hj => ?_)
    ·refine GC.draw [⟨bb, [(.int .i64 2), (.bool false), (.slice (some ⟨b1, 0, none⟩) ((Nd.nd ((Bt.mant q).toNat * 5 * 2 ^ nd + 1 * 2 ^ md))) b2), (.int .i64 ed), (.bool false)], 38, true⟩, ⟨b1, (Nd.dl b2 ((Bt.mant q).toNat * 5 * 2 ^ nd + 1 * 2 ^ md)).map u32, 23, true⟩] T.mixed (fuel := 37) rfl rfl ?_
     refine GH.take 0 (v := (.int .u32 r)) rfl (by kernel_rfl) (by kernel_rfl) (by kernel_rfl) (fun _ _ _ h => hQ _ _ _ _ _ h) (Ex.move rfl) (ulC (ulC ulN)) (by decide) ?_
     refine GH.one 1 rfl (by kernel_rfl) (Stp.callR (vs := [(.int .u32 r)]) rfl rfl T.own28 (by decide) (fun wc hw => finite_l r wc hFr.1)) (fun _ => (ulC (ulC ulN))) (fun xq19 hq20 => ?_)
     refine GH.take 2 (v := (.bool false)) rfl (by kernel_rfl) (by kernel_rfl) (by kernel_rfl) (fun _ _ _ h => hQ _ _ _ _ _ h) (Ex.cast (Ex.not rfl) (congrArg Value.bool (congrArg (fun z => !z) (decide_eq_true (by first | exact hfu | exact hfv | exact hfz | exact hFr.2 | exact hFg.2 | exact hFb.2))))) (ulC (ulC ulN)) (by decide) ?_
     refine GH.take 3 (v := (.bool false)) rfl (by kernel_rfl) (by kernel_rfl) (by kernel_rfl) (fun _ _ _ h => hQ _ _ _ _ _ h) (Ex.move rfl) (ulC (ulC ulN)) (by decide) ?_
     refine GH.takeG 4 (tj := 79) (v := (.int .u32 g)) rfl rfl rfl (by kernel_rfl) (by kernel_rfl) (by kernel_rfl) (fun _ _ _ h => hQ _ _ _ _ _ h) (Ex.move rfl) (ulC (ulC ulN)) (by decide) ?_
     refine GH.oneG 5 (tj := 79) rfl rfl rfl (by kernel_rfl) (Stp.callR (vs := [(.int .u32 g)]) rfl rfl T.own28 (by decide) (fun wc hw => finite_l g wc hFg.1)) (fun _ => (ulC (ulC ulN))) (fun xq21 hq22 => ?_)
     refine GH.takeG 6 (tj := 79) (v := (.bool false)) rfl rfl rfl (by kernel_rfl) (by kernel_rfl) (by kernel_rfl) (fun _ _ _ h => hQ _ _ _ _ _ h) (Ex.cast (Ex.not rfl) (congrArg Value.bool (congrArg (fun z => !z) (decide_eq_true (by first | exact hfu | exact hfv | exact hfz | exact hFr.2 | exact hFg.2 | exact hFb.2))))) (ulC (ulC ulN)) (by decide) ?_
     refine GH.take 7 (v := (.bool false)) rfl (by kernel_rfl) (by kernel_rfl) (by kernel_rfl) (fun _ _ _ h => hQ _ _ _ _ _ h) (Ex.pickF rfl rfl) (ulC (ulC ulN)) (by decide) ?_
     refine GH.take 8 (v := (.bool false)) rfl (by kernel_rfl) (by kernel_rfl) (by kernel_rfl) (fun _ _ _ h => hQ _ _ _ _ _ h) (Ex.move rfl) (ulC (ulC ulN)) (by decide) ?_
     refine GH.takeG 9 (tj := 84) (v := (.int .u32 z1)) rfl rfl rfl (by kernel_rfl) (by kernel_rfl) (by kernel_rfl) (fun _ _ _ h => hQ _ _ _ _ _ h) (Ex.move rfl) (ulC (ulC ulN)) (by decide) ?_
     refine GH.oneG 10 (tj := 84) rfl rfl rfl (by kernel_rfl) (Stp.callR (vs := [(.int .u32 z1)]) rfl rfl T.own28 (by decide) (fun wc hw => finite_l z1 wc hFz1.1)) (fun _ => (ulC (ulC ulN))) (fun xq23 hq24 => ?_)
     refine GH.takeG 11 (tj := 84) (v := (.bool false)) rfl rfl rfl (by kernel_rfl) (by kernel_rfl) (by kernel_rfl) (fun _ _ _ h => hQ _ _ _ _ _ h) (Ex.cast (Ex.not rfl) (congrArg Value.bool (congrArg (fun z => !z) (decide_eq_true (by first | exact hfu | exact hfv | exact hfz | exact hFr.2 | exact hFg.2 | exact hFb.2))))) (ulC (ulC ulN)) (by decide) ?_
     refine GH.take 12 (v := (.bool false)) rfl (by kernel_rfl) (by kernel_rfl) (by kernel_rfl) (fun _ _ _ h => hQ _ _ _ _ _ h) (Ex.pickF rfl rfl) (ulC (ulC ulN)) (by decide) ?_
     refine GH.take 13 (v := (.bool false)) rfl (by kernel_rfl) (by kernel_rfl) (by kernel_rfl) (fun _ _ _ h => hQ _ _ _ _ _ h) (Ex.move rfl) (ulC (ulC ulN)) (by decide) ?_
     refine GH.takeG 14 (tj := 89) (v := (.int .u32 r)) rfl rfl rfl (by kernel_rfl) (by kernel_rfl) (by kernel_rfl) (fun _ _ _ h => hQ _ _ _ _ _ h) (Ex.move rfl) (ulC (ulC ulN)) (by decide) ?_
     refine GH.takeG 15 (tj := 89) (v := (.int .u32 r)) rfl rfl rfl (by kernel_rfl) (by kernel_rfl) (by kernel_rfl) (fun _ _ _ h => hQ _ _ _ _ _ h) (Ex.move rfl) (ulC (ulC ulN)) (by decide) ?_
     refine GH.takeG 17 (tj := 89) (v := (.agg #[(.int .i64 2), (.bool false), (.slice (some ⟨b1, 0, none⟩) ((Nd.nd ((Bt.mant q).toNat * 5 * 2 ^ nd + 1 * 2 ^ md))) b2), (.int .i64 ed), (.bool false)])) rfl rfl rfl (by kernel_rfl) (by kernel_rfl) (by kernel_rfl) (fun _ _ _ h => hQ _ _ _ _ _ h) (Ex.loadA rfl T.ag38 T.sz38 (i := 0) rfl (vs := [(.int .i64 2), (.bool false), (.slice (some ⟨b1, 0, none⟩) ((Nd.nd ((Bt.mant q).toNat * 5 * 2 ^ nd + 1 * 2 ^ md))) b2), (.int .i64 ed), (.bool false)]) rfl rfl) (ulC (ulC ulN)) (by decide) ?_
     refine GH.oneG 16 (tj := 89) rfl rfl rfl (by kernel_rfl) (Stp.callR (vs := [(.int .u32 r), (.int .u32 r)]) rfl rfl T.own34 (by decide) (fun wc hw => off_eq r r (Bt.expo r) 0 0 wc hFr.1 hFr.2 hFr.1 hFr.2 (by omega) (by omega) (.inl rfl) (by decide) (by decide) (by omega) (Lb.ne_not _) rfl)) (fun _ => (ulC (ulC ulN))) (fun xq25 hq26 => ?_)
     refine GH.oneG 18 (tj := 89) rfl rfl rfl (by kernel_rfl) (Stp.callR (vs := [(.agg #[(.int .i64 2), (.bool false), (.slice none 0 0), (.int .i64 ((Bt.expo r))), (.bool false)]), (.agg #[(.int .i64 2), (.bool false), (.slice (some ⟨b1, 0, none⟩) ((Nd.nd ((Bt.mant q).toNat * 5 * 2 ^ nd + 1 * 2 ^ md))) b2), (.int .i64 ed), (.bool false)])]) rfl rfl T.own30 (by decide) (fun wc hw => within_n none 0 (((Bt.mant q).toNat * 5 * 2 ^ nd + 1 * 2 ^ md)) b1 b2 es1 ((Bt.expo r)) ed ns1 ms1 false false wc (Nd.Nb.of (hw.rdOf (i := 1) rfl 0) (Lb.nd_lt_of hj)) (Nat.le_trans (Sb.nd_bound hFq.1 hnd hmd) (by decide)) hes1 hfs1 hgs1 hss1.2.1 hss1.2.2 hss1.1)) (fun _ => (ulC (ulC ulN))) (fun xq27 hq28 => ?_)
     refine GH.takeG 19 (tj := 89) (v := (.bool false)) rfl rfl rfl (by kernel_rfl) (by kernel_rfl) (by kernel_rfl) (fun _ _ _ h => hQ _ _ _ _ _ h) (Ex.cast (Ex.not rfl) rfl) (ulC (ulC ulN)) (by decide) ?_
     refine GH.take 20 (v := (.bool false)) rfl (by kernel_rfl) (by kernel_rfl) (by kernel_rfl) (fun _ _ _ h => hQ _ _ _ _ _ h) (Ex.pickF rfl rfl) (ulC (ulC ulN)) (by decide) ?_
     refine GH.take 21 (v := (.bool false)) rfl (by kernel_rfl) (by kernel_rfl) (by kernel_rfl) (fun _ _ _ h => hQ _ _ _ _ _ h) (Ex.move rfl) (ulC (ulC ulN)) (by decide) ?_
     refine GH.takeG 22 (tj := 97) (v := (.int .u32 g)) rfl rfl rfl (by kernel_rfl) (by kernel_rfl) (by kernel_rfl) (fun _ _ _ h => hQ _ _ _ _ _ h) (Ex.move rfl) (ulC (ulC ulN)) (by decide) ?_
     refine GH.takeG 23 (tj := 97) (v := (.int .u32 g)) rfl rfl rfl (by kernel_rfl) (by kernel_rfl) (by kernel_rfl) (fun _ _ _ h => hQ _ _ _ _ _ h) (Ex.move rfl) (ulC (ulC ulN)) (by decide) ?_
     refine GH.takeG 25 (tj := 97) (v := (.agg #[(.int .i64 2), (.bool false), (.slice (some ⟨b1, 0, none⟩) ((Nd.nd ((Bt.mant q).toNat * 5 * 2 ^ nd + 1 * 2 ^ md))) b2), (.int .i64 ed), (.bool false)])) rfl rfl rfl (by kernel_rfl) (by kernel_rfl) (by kernel_rfl) (fun _ _ _ h => hQ _ _ _ _ _ h) (Ex.loadA rfl T.ag38 T.sz38 (i := 0) rfl (vs := [(.int .i64 2), (.bool false), (.slice (some ⟨b1, 0, none⟩) ((Nd.nd ((Bt.mant q).toNat * 5 * 2 ^ nd + 1 * 2 ^ md))) b2), (.int .i64 ed), (.bool false)]) rfl rfl) (ulC (ulC ulN)) (by decide) ?_
     refine GH.oneG 24 (tj := 97) rfl rfl rfl (by kernel_rfl) (Stp.callR (vs := [(.int .u32 g), (.int .u32 g)]) rfl rfl T.own34 (by decide) (fun wc hw => off_eq g g (Bt.expo g) 0 0 wc hFg.1 hFg.2 hFg.1 hFg.2 (by omega) (by omega) (.inl rfl) (by decide) (by decide) (by omega) (Lb.ne_not _) rfl)) (fun _ => (ulC (ulC ulN))) (fun xq29 hq30 => ?_)
     refine GH.oneG 26 (tj := 97) rfl rfl rfl (by kernel_rfl) (Stp.callR (vs := [(.agg #[(.int .i64 2), (.bool false), (.slice none 0 0), (.int .i64 ((Bt.expo g))), (.bool false)]), (.agg #[(.int .i64 2), (.bool false), (.slice (some ⟨b1, 0, none⟩) ((Nd.nd ((Bt.mant q).toNat * 5 * 2 ^ nd + 1 * 2 ^ md))) b2), (.int .i64 ed), (.bool false)])]) rfl rfl T.own30 (by decide) (fun wc hw => within_n none 0 (((Bt.mant q).toNat * 5 * 2 ^ nd + 1 * 2 ^ md)) b1 b2 es2 ((Bt.expo g)) ed ns2 ms2 false false wc (Nd.Nb.of (hw.rdOf (i := 1) rfl 0) (Lb.nd_lt_of hj)) (Nat.le_trans (Sb.nd_bound hFq.1 hnd hmd) (by decide)) hes2 hfs2 hgs2 hss2.2.1 hss2.2.2 hss2.1)) (fun _ => (ulC (ulC ulN))) (fun xq31 hq32 => ?_)
     refine GH.takeG 27 (tj := 97) (v := (.bool false)) rfl rfl rfl (by kernel_rfl) (by kernel_rfl) (by kernel_rfl) (fun _ _ _ h => hQ _ _ _ _ _ h) (Ex.cast (Ex.not rfl) rfl) (ulC (ulC ulN)) (by decide) ?_
     refine GH.take 28 (v := (.bool false)) rfl (by kernel_rfl) (by kernel_rfl) (by kernel_rfl) (fun _ _ _ h => hQ _ _ _ _ _ h) (Ex.pickF rfl rfl) (ulC (ulC ulN)) (by decide) ?_
     refine GH.take 29 (v := (.bool false)) rfl (by kernel_rfl) (by kernel_rfl) (by kernel_rfl) (fun _ _ _ h => hQ _ _ _ _ _ h) (Ex.move rfl) (ulC (ulC ulN)) (by decide) ?_
     refine GH.takeG 30 (tj := 105) (v := (.int .u32 b)) rfl rfl rfl (by kernel_rfl) (by kernel_rfl) (by kernel_rfl) (fun _ _ _ h => hQ _ _ _ _ _ h) (Ex.move rfl) (ulC (ulC ulN)) (by decide) ?_
     refine GH.takeG 31 (tj := 105) (v := (.int .u32 z1)) rfl rfl rfl (by kernel_rfl) (by kernel_rfl) (by kernel_rfl) (fun _ _ _ h => hQ _ _ _ _ _ h) (Ex.move rfl) (ulC (ulC ulN)) (by decide) ?_
     refine GH.takeG 33 (tj := 105) (v := (.agg #[(.int .i64 2), (.bool false), (.slice (some ⟨b1, 0, none⟩) ((Nd.nd ((Bt.mant q).toNat * 5 * 2 ^ nd + 1 * 2 ^ md))) b2), (.int .i64 ed), (.bool false)])) rfl rfl rfl (by kernel_rfl) (by kernel_rfl) (by kernel_rfl) (fun _ _ _ h => hQ _ _ _ _ _ h) (Ex.loadA rfl T.ag38 T.sz38 (i := 0) rfl (vs := [(.int .i64 2), (.bool false), (.slice (some ⟨b1, 0, none⟩) ((Nd.nd ((Bt.mant q).toNat * 5 * 2 ^ nd + 1 * 2 ^ md))) b2), (.int .i64 ed), (.bool false)]) rfl rfl) (ulC (ulC ulN)) (by decide) ?_
     refine GH.oneG 32 (tj := 105) rfl rfl rfl (by kernel_rfl) (Stp.callR (vs := [(.int .u32 b), (.int .u32 z1)]) rfl rfl T.own34 (by decide) (fun wc hw => off_ne b z1 ezs3 nzs3 mzs3 wc hFb.1 hFb.2 hFz1.1 hFz1.2 hezs3 hfzs3 hgzs3 hszs3.2.1 hszs3.2.2 hszs3.1 s3)) (fun _ => (ulS (ulC (ulC ulN)))) (fun xq33 hq34 => ?_)
     refine GH.oneG 34 (tj := 105) rfl rfl rfl (by kernel_rfl) (Stp.callR (vs := [(.agg #[(.int .i64 2), (.bool false), (.slice (some ⟨xq33.1, 0, none⟩) ((Nd.nd (Lb.dfr (decide (b / 2147483648 % 2 = 1)) (decide (z1 / 2147483648 % 2 = 1)) ((Bt.mant b).toNat * 2 ^ nzs3) ((Bt.mant z1).toNat * 2 ^ mzs3)))) xq33.2), (.int .i64 ezs3), (.bool false)]), (.agg #[(.int .i64 2), (.bool false), (.slice (some ⟨b1, 0, none⟩) ((Nd.nd ((Bt.mant q).toNat * 5 * 2 ^ nd + 1 * 2 ^ md))) b2), (.int .i64 ed), (.bool false)])]) rfl rfl T.own30 (by decide) (fun wc hw => within_b ((Lb.dfr (decide (b / 2147483648 % 2 = 1)) (decide (z1 / 2147483648 % 2 = 1)) ((Bt.mant b).toNat * 2 ^ nzs3) ((Bt.mant z1).toNat * 2 ^ mzs3))) xq33.1 xq33.2 (((Bt.mant q).toNat * 5 * 2 ^ nd + 1 * 2 ^ md)) b1 b2 es3 ezs3 ed ns3 ms3 false false wc (Nd.Nb.of (hw.rdOf (i := 0) rfl 0) (Lb.nd_lt_of hq34)) (Nat.le_trans (Lb.dfr_nd hFb.1 hFz1.1 hbz1.1 hbz1.2 _ _) (by decide)) (Nd.Nb.of (hw.rdOf (i := 2) rfl 0) (Lb.nd_lt_of hj)) (Nat.le_trans (Sb.nd_bound hFq.1 hnd hmd) (by decide)) hes3 hfs3 hgs3 hss3.2.1 hss3.2.2 hss3.1)) (fun _ => (ulS (ulC (ulC ulN)))) (fun xq35 hq36 => ?_)
     refine GH.takeG 35 (tj := 105) (v := (.bool false)) rfl rfl rfl (by kernel_rfl) (by kernel_rfl) (by kernel_rfl) (fun _ _ _ h => hQ _ _ _ _ _ h) (Ex.cast (Ex.not rfl) (congrArg Value.bool (congrArg (fun z => !z) (decide_eq_true (by exact hWs3))))) (ulS (ulC (ulC ulN))) (by decide) ?_
     refine GH.take 36 (v := (.bool false)) rfl (by kernel_rfl) (by kernel_rfl) (by kernel_rfl) (fun _ _ _ h => hQ _ _ _ _ _ h) (Ex.pickF rfl rfl) (ulS (ulC (ulC ulN))) (by decide) ?_
     refine GH.done (by kernel_rfl) ?_
     refine GE.thenN ?_
     exact St.mk (()) trivial (idx := []) ((sub_cons rfl ((sub_cons rfl ((sub_cons rfl ((sub_cons rfl ((sub_cons rfl ((sub_nil _)))))))))))) (by decide) rfl
    exact K ju
  ·obtain ⟨ezs2, nzs2, mzs2, hezs2, hfzs2, hgzs2, hhzs2⟩ := Lb.mins (Bt.expo g) (Bt.expo v1)
   obtain ⟨es2, ns2, ms2, hes2, hfs2, hgs2, hhs2⟩ := Lb.mins ezs2 ed
   have hbv1 : nzs2 ≤ 300 ∧ mzs2 ≤ 300 := ⟨by omega, by omega⟩
   have hWs2 := Sb.bound_ok hc hFg.1 hFg.2 hFv1.1 hFv1.2 hFq.1 hFq.2 hezs2 hfzs2 hed hfd hes2 hfs2 (by omega) hNv1.2
   have hss2 : (-100000 ≤ es2 ∧ es2 ≤ 100000) ∧ ns2 ≤ 3000 ∧ ms2 ≤ 3000 := ⟨⟨by omega, by omega⟩, by omega, by omega⟩
   have hszs2 : (-100000 ≤ ezs2 ∧ ezs2 ≤ 100000) ∧ nzs2 ≤ 3000 ∧ mzs2 ≤ 3000 := ⟨⟨by omega, by omega⟩, by omega, by omega⟩
   clear hxv1
   by_cases s3 : b = z1
   ·rw [← s3]
    obtain ⟨es3, ns3, ms3, hes3, hfs3, hgs3, hhs3⟩ := Lb.mins (Bt.expo b) ed
    have hss3 : (-100000 ≤ es3 ∧ es3 ≤ 100000) ∧ ns3 ≤ 3000 ∧ ms3 ≤ 3000 := ⟨⟨by omega, by omega⟩, by omega, by omega⟩
    clear hxz1
    refine GC.join (σ := Unit) (fun j => True) (fun j => [(0, (.int .u32 r)), (1, (.int .u32 g)), (2, (.int .u32 b)), (6, (.bool false)), (112, (.bool false))]) (fun j => []) ?_ (fun ju hj => ?_)
    ·refine GC.draw [⟨bb, [(.int .i64 2), (.bool false), (.slice (some ⟨b1, 0, none⟩) ((Nd.nd ((Bt.mant q).toNat * 5 * 2 ^ nd + 1 * 2 ^ md))) b2), (.int .i64 ed), (.bool false)], 38, true⟩, ⟨b1, (Nd.dl b2 ((Bt.mant q).toNat * 5 * 2 ^ nd + 1 * 2 ^ md)).map u32, 23, true⟩] T.mixed (fuel := 37) rfl rfl ?_
     refine GH.take 0 (v := (.int .u32 r)) rfl (by kernel_rfl) (by kernel_rfl) (by kernel_rfl) (fun _ _ _ h => hQ _ _ _ _ _ h) (Ex.move rfl) (ulC (ulC ulN)) (by decide) ?_
     refine GH.one 1 rfl (by kernel_rfl) (Stp.callR (vs := [(.int .u32 r)]) rfl rfl T.own28 (by decide) (fun wc hw => finite_l r wc hFr.1)) (fun _ => (ulC (ulC ulN))) (fun xq37 hq38 => ?_)
     refine GH.take 2 (v := (.bool false)) rfl (by kernel_rfl) (by kernel_rfl) (by kernel_rfl) (fun _ _ _ h => hQ _ _ _ _ _ h) (Ex.cast (Ex.not rfl) (congrArg Value.bool (congrArg (fun z => !z) (decide_eq_true (by first | exact hfu | exact hfv | exact hfz | exact hFr.2 | exact hFg.2 | exact hFb.2))))) (ulC (ulC ulN)) (by decide) ?_
     refine GH.take 3 (v := (.bool false)) rfl (by kernel_rfl) (by kernel_rfl) (by kernel_rfl) (fun _ _ _ h => hQ _ _ _ _ _ h) (Ex.move rfl) (ulC (ulC ulN)) (by decide) ?_
     refine GH.takeG 4 (tj := 79) (v := (.int .u32 v1)) rfl rfl rfl (by kernel_rfl) (by kernel_rfl) (by kernel_rfl) (fun _ _ _ h => hQ _ _ _ _ _ h) (Ex.move rfl) (ulC (ulC ulN)) (by decide) ?_
     refine GH.oneG 5 (tj := 79) rfl rfl rfl (by kernel_rfl) (Stp.callR (vs := [(.int .u32 v1)]) rfl rfl T.own28 (by decide) (fun wc hw => finite_l v1 wc hFv1.1)) (fun _ => (ulC (ulC ulN))) (fun xq39 hq40 => ?_)
     refine GH.takeG 6 (tj := 79) (v := (.bool false)) rfl rfl rfl (by kernel_rfl) (by kernel_rfl) (by kernel_rfl) (fun _ _ _ h => hQ _ _ _ _ _ h) (Ex.cast (Ex.not rfl) (congrArg Value.bool (congrArg (fun z => !z) (decide_eq_true (by first | exact hfu | exact hfv | exact hfz | exact hFr.2 | exact hFg.2 | exact hFb.2))))) (ulC (ulC ulN)) (by decide) ?_
     refine GH.take 7 (v := (.bool false)) rfl (by kernel_rfl) (by kernel_rfl) (by kernel_rfl) (fun _ _ _ h => hQ _ _ _ _ _ h) (Ex.pickF rfl rfl) (ulC (ulC ulN)) (by decide) ?_
     refine GH.take 8 (v := (.bool false)) rfl (by kernel_rfl) (by kernel_rfl) (by kernel_rfl) (fun _ _ _ h => hQ _ _ _ _ _ h) (Ex.move rfl) (ulC (ulC ulN)) (by decide) ?_
     refine GH.takeG 9 (tj := 84) (v := (.int .u32 b)) rfl rfl rfl (by kernel_rfl) (by kernel_rfl) (by kernel_rfl) (fun _ _ _ h => hQ _ _ _ _ _ h) (Ex.move rfl) (ulC (ulC ulN)) (by decide) ?_
     refine GH.oneG 10 (tj := 84) rfl rfl rfl (by kernel_rfl) (Stp.callR (vs := [(.int .u32 b)]) rfl rfl T.own28 (by decide) (fun wc hw => finite_l b wc hFb.1)) (fun _ => (ulC (ulC ulN))) (fun xq41 hq42 => ?_)
     refine GH.takeG 11 (tj := 84) (v := (.bool false)) rfl rfl rfl (by kernel_rfl) (by kernel_rfl) (by kernel_rfl) (fun _ _ _ h => hQ _ _ _ _ _ h) (Ex.cast (Ex.not rfl) (congrArg Value.bool (congrArg (fun z => !z) (decide_eq_true (by first | exact hfu | exact hfv | exact hfz | exact hFr.2 | exact hFg.2 | exact hFb.2))))) (ulC (ulC ulN)) (by decide) ?_
     refine GH.take 12 (v := (.bool false)) rfl (by kernel_rfl) (by kernel_rfl) (by kernel_rfl) (fun _ _ _ h => hQ _ _ _ _ _ h) (Ex.pickF rfl rfl) (ulC (ulC ulN)) (by decide) ?_
     refine GH.take 13 (v := (.bool false)) rfl (by kernel_rfl) (by kernel_rfl) (by kernel_rfl) (fun _ _ _ h => hQ _ _ _ _ _ h) (Ex.move rfl) (ulC (ulC ulN)) (by decide) ?_
     refine GH.takeG 14 (tj := 89) (v := (.int .u32 r)) rfl rfl rfl (by kernel_rfl) (by kernel_rfl) (by kernel_rfl) (fun _ _ _ h => hQ _ _ _ _ _ h) (Ex.move rfl) (ulC (ulC ulN)) (by decide) ?_
     refine GH.takeG 15 (tj := 89) (v := (.int .u32 r)) rfl rfl rfl (by kernel_rfl) (by kernel_rfl) (by kernel_rfl) (fun _ _ _ h => hQ _ _ _ _ _ h) (Ex.move rfl) (ulC (ulC ulN)) (by decide) ?_
     refine GH.takeG 17 (tj := 89) (v := (.agg #[(.int .i64 2), (.bool false), (.slice (some ⟨b1, 0, none⟩) ((Nd.nd ((Bt.mant q).toNat * 5 * 2 ^ nd + 1 * 2 ^ md))) b2), (.int .i64 ed), (.bool false)])) rfl rfl rfl (by kernel_rfl) (by kernel_rfl) (by kernel_rfl) (fun _ _ _ h => hQ _ _ _ _ _ h) (Ex.loadA rfl T.ag38 T.sz38 (i := 0) rfl (vs := [(.int .i64 2), (.bool false), (.slice (some ⟨b1, 0, none⟩) ((Nd.nd ((Bt.mant q).toNat * 5 * 2 ^ nd + 1 * 2 ^ md))) b2), (.int .i64 ed), (.bool false)]) rfl rfl) (ulC (ulC ulN)) (by decide) ?_
     refine GH.oneG 16 (tj := 89) rfl rfl rfl (by kernel_rfl) (Stp.callR (vs := [(.int .u32 r), (.int .u32 r)]) rfl rfl T.own34 (by decide) (fun wc hw => off_eq r r (Bt.expo r) 0 0 wc hFr.1 hFr.2 hFr.1 hFr.2 (by omega) (by omega) (.inl rfl) (by decide) (by decide) (by omega) (Lb.ne_not _) rfl)) (fun _ => (ulC (ulC ulN))) (fun xq43 hq44 => ?_)
     refine GH.oneG 18 (tj := 89) rfl rfl rfl (by kernel_rfl) (Stp.callR (vs := [(.agg #[(.int .i64 2), (.bool false), (.slice none 0 0), (.int .i64 ((Bt.expo r))), (.bool false)]), (.agg #[(.int .i64 2), (.bool false), (.slice (some ⟨b1, 0, none⟩) ((Nd.nd ((Bt.mant q).toNat * 5 * 2 ^ nd + 1 * 2 ^ md))) b2), (.int .i64 ed), (.bool false)])]) rfl rfl T.own30 (by decide) (fun wc hw => within_n none 0 (((Bt.mant q).toNat * 5 * 2 ^ nd + 1 * 2 ^ md)) b1 b2 es1 ((Bt.expo r)) ed ns1 ms1 false false wc (Nd.Nb.of (hw.rdOf (i := 1) rfl 0) (Lb.nd_lt_of hj)) (Nat.le_trans (Sb.nd_bound hFq.1 hnd hmd) (by decide)) hes1 hfs1 hgs1 hss1.2.1 hss1.2.2 hss1.1)) (fun _ => (ulC (ulC ulN))) (fun xq45 hq46 => ?_)
     refine GH.takeG 19 (tj := 89) (v := (.bool false)) rfl rfl rfl (by kernel_rfl) (by kernel_rfl) (by kernel_rfl) (fun _ _ _ h => hQ _ _ _ _ _ h) (Ex.cast (Ex.not rfl) rfl) (ulC (ulC ulN)) (by decide) ?_
     refine GH.take 20 (v := (.bool false)) rfl (by kernel_rfl) (by kernel_rfl) (by kernel_rfl) (fun _ _ _ h => hQ _ _ _ _ _ h) (Ex.pickF rfl rfl) (ulC (ulC ulN)) (by decide) ?_
     refine GH.take 21 (v := (.bool false)) rfl (by kernel_rfl) (by kernel_rfl) (by kernel_rfl) (fun _ _ _ h => hQ _ _ _ _ _ h) (Ex.move rfl) (ulC (ulC ulN)) (by decide) ?_
     refine GH.takeG 22 (tj := 97) (v := (.int .u32 g)) rfl rfl rfl (by kernel_rfl) (by kernel_rfl) (by kernel_rfl) (fun _ _ _ h => hQ _ _ _ _ _ h) (Ex.move rfl) (ulC (ulC ulN)) (by decide) ?_
     refine GH.takeG 23 (tj := 97) (v := (.int .u32 v1)) rfl rfl rfl (by kernel_rfl) (by kernel_rfl) (by kernel_rfl) (fun _ _ _ h => hQ _ _ _ _ _ h) (Ex.move rfl) (ulC (ulC ulN)) (by decide) ?_
     refine GH.takeG 25 (tj := 97) (v := (.agg #[(.int .i64 2), (.bool false), (.slice (some ⟨b1, 0, none⟩) ((Nd.nd ((Bt.mant q).toNat * 5 * 2 ^ nd + 1 * 2 ^ md))) b2), (.int .i64 ed), (.bool false)])) rfl rfl rfl (by kernel_rfl) (by kernel_rfl) (by kernel_rfl) (fun _ _ _ h => hQ _ _ _ _ _ h) (Ex.loadA rfl T.ag38 T.sz38 (i := 0) rfl (vs := [(.int .i64 2), (.bool false), (.slice (some ⟨b1, 0, none⟩) ((Nd.nd ((Bt.mant q).toNat * 5 * 2 ^ nd + 1 * 2 ^ md))) b2), (.int .i64 ed), (.bool false)]) rfl rfl) (ulC (ulC ulN)) (by decide) ?_
     refine GH.oneG 24 (tj := 97) rfl rfl rfl (by kernel_rfl) (Stp.callR (vs := [(.int .u32 g), (.int .u32 v1)]) rfl rfl T.own34 (by decide) (fun wc hw => off_ne g v1 ezs2 nzs2 mzs2 wc hFg.1 hFg.2 hFv1.1 hFv1.2 hezs2 hfzs2 hgzs2 hszs2.2.1 hszs2.2.2 hszs2.1 s2)) (fun _ => (ulS (ulC (ulC ulN)))) (fun xq47 hq48 => ?_)
     refine GH.oneG 26 (tj := 97) rfl rfl rfl (by kernel_rfl) (Stp.callR (vs := [(.agg #[(.int .i64 2), (.bool false), (.slice (some ⟨xq47.1, 0, none⟩) ((Nd.nd (Lb.dfr (decide (g / 2147483648 % 2 = 1)) (decide (v1 / 2147483648 % 2 = 1)) ((Bt.mant g).toNat * 2 ^ nzs2) ((Bt.mant v1).toNat * 2 ^ mzs2)))) xq47.2), (.int .i64 ezs2), (.bool false)]), (.agg #[(.int .i64 2), (.bool false), (.slice (some ⟨b1, 0, none⟩) ((Nd.nd ((Bt.mant q).toNat * 5 * 2 ^ nd + 1 * 2 ^ md))) b2), (.int .i64 ed), (.bool false)])]) rfl rfl T.own30 (by decide) (fun wc hw => within_b ((Lb.dfr (decide (g / 2147483648 % 2 = 1)) (decide (v1 / 2147483648 % 2 = 1)) ((Bt.mant g).toNat * 2 ^ nzs2) ((Bt.mant v1).toNat * 2 ^ mzs2))) xq47.1 xq47.2 (((Bt.mant q).toNat * 5 * 2 ^ nd + 1 * 2 ^ md)) b1 b2 es2 ezs2 ed ns2 ms2 false false wc (Nd.Nb.of (hw.rdOf (i := 0) rfl 0) (Lb.nd_lt_of hq48)) (Nat.le_trans (Lb.dfr_nd hFg.1 hFv1.1 hbv1.1 hbv1.2 _ _) (by decide)) (Nd.Nb.of (hw.rdOf (i := 2) rfl 0) (Lb.nd_lt_of hj)) (Nat.le_trans (Sb.nd_bound hFq.1 hnd hmd) (by decide)) hes2 hfs2 hgs2 hss2.2.1 hss2.2.2 hss2.1)) (fun _ => (ulS (ulC (ulC ulN)))) (fun xq49 hq50 => ?_)
     refine GH.takeG 27 (tj := 97) (v := (.bool false)) rfl rfl rfl (by kernel_rfl) (by kernel_rfl) (by kernel_rfl) (fun _ _ _ h => hQ _ _ _ _ _ h) (Ex.cast (Ex.not rfl) (congrArg Value.bool (congrArg (fun z => !z) (decide_eq_true (by exact hWs2))))) (ulS (ulC (ulC ulN))) (by decide) ?_
     refine GH.take 28 (v := (.bool false)) rfl (by kernel_rfl) (by kernel_rfl) (by kernel_rfl) (fun _ _ _ h => hQ _ _ _ _ _ h) (Ex.pickF rfl rfl) (ulS (ulC (ulC ulN))) (by decide) ?_
     refine GH.take 29 (v := (.bool false)) rfl (by kernel_rfl) (by kernel_rfl) (by kernel_rfl) (fun _ _ _ h => hQ _ _ _ _ _ h) (Ex.move rfl) (ulS (ulC (ulC ulN))) (by decide) ?_
     refine GH.takeG 30 (tj := 105) (v := (.int .u32 b)) rfl rfl rfl (by kernel_rfl) (by kernel_rfl) (by kernel_rfl) (fun _ _ _ h => hQ _ _ _ _ _ h) (Ex.move rfl) (ulS (ulC (ulC ulN))) (by decide) ?_
     refine GH.takeG 31 (tj := 105) (v := (.int .u32 b)) rfl rfl rfl (by kernel_rfl) (by kernel_rfl) (by kernel_rfl) (fun _ _ _ h => hQ _ _ _ _ _ h) (Ex.move rfl) (ulS (ulC (ulC ulN))) (by decide) ?_
     refine GH.takeG 33 (tj := 105) (v := (.agg #[(.int .i64 2), (.bool false), (.slice (some ⟨b1, 0, none⟩) ((Nd.nd ((Bt.mant q).toNat * 5 * 2 ^ nd + 1 * 2 ^ md))) b2), (.int .i64 ed), (.bool false)])) rfl rfl rfl (by kernel_rfl) (by kernel_rfl) (by kernel_rfl) (fun _ _ _ h => hQ _ _ _ _ _ h) (Ex.loadA rfl T.ag38 T.sz38 (i := 0) rfl (vs := [(.int .i64 2), (.bool false), (.slice (some ⟨b1, 0, none⟩) ((Nd.nd ((Bt.mant q).toNat * 5 * 2 ^ nd + 1 * 2 ^ md))) b2), (.int .i64 ed), (.bool false)]) rfl rfl) (ulS (ulC (ulC ulN))) (by decide) ?_
     refine GH.oneG 32 (tj := 105) rfl rfl rfl (by kernel_rfl) (Stp.callR (vs := [(.int .u32 b), (.int .u32 b)]) rfl rfl T.own34 (by decide) (fun wc hw => off_eq b b (Bt.expo b) 0 0 wc hFb.1 hFb.2 hFb.1 hFb.2 (by omega) (by omega) (.inl rfl) (by decide) (by decide) (by omega) (Lb.ne_not _) rfl)) (fun _ => (ulS (ulC (ulC ulN)))) (fun xq51 hq52 => ?_)
     refine GH.oneG 34 (tj := 105) rfl rfl rfl (by kernel_rfl) (Stp.callR (vs := [(.agg #[(.int .i64 2), (.bool false), (.slice none 0 0), (.int .i64 ((Bt.expo b))), (.bool false)]), (.agg #[(.int .i64 2), (.bool false), (.slice (some ⟨b1, 0, none⟩) ((Nd.nd ((Bt.mant q).toNat * 5 * 2 ^ nd + 1 * 2 ^ md))) b2), (.int .i64 ed), (.bool false)])]) rfl rfl T.own30 (by decide) (fun wc hw => within_n none 0 (((Bt.mant q).toNat * 5 * 2 ^ nd + 1 * 2 ^ md)) b1 b2 es3 ((Bt.expo b)) ed ns3 ms3 false false wc (Nd.Nb.of (hw.rdOf (i := 2) rfl 0) (Lb.nd_lt_of hj)) (Nat.le_trans (Sb.nd_bound hFq.1 hnd hmd) (by decide)) hes3 hfs3 hgs3 hss3.2.1 hss3.2.2 hss3.1)) (fun _ => (ulS (ulC (ulC ulN)))) (fun xq53 hq54 => ?_)
     refine GH.takeG 35 (tj := 105) (v := (.bool false)) rfl rfl rfl (by kernel_rfl) (by kernel_rfl) (by kernel_rfl) (fun _ _ _ h => hQ _ _ _ _ _ h) (Ex.cast (Ex.not rfl) rfl) (ulS (ulC (ulC ulN))) (by decide) ?_
     refine GH.take 36 (v := (.bool false)) rfl (by kernel_rfl) (by kernel_rfl) (by kernel_rfl) (fun _ _ _ h => hQ _ _ _ _ _ h) (Ex.pickF rfl rfl) (ulS (ulC (ulC ulN))) (by decide) ?_
     refine GH.done (by kernel_rfl) ?_
     refine GE.thenN ?_
     exact St.mk (()) trivial (idx := []) ((sub_cons rfl ((sub_cons rfl ((sub_cons rfl ((sub_cons rfl ((sub_cons rfl ((sub_nil _)))))))))))) (by decide) rfl
    exact K ju
   ·obtain ⟨ezs3, nzs3, mzs3, hezs3, hfzs3, hgzs3, hhzs3⟩ := Lb.mins (Bt.expo b) (Bt.expo z1)
    obtain ⟨es3, ns3, ms3, hes3, hfs3, hgs3, hhs3⟩ := Lb.mins ezs3 ed
    have hbz1 : nzs3 ≤ 300 ∧ mzs3 ≤ 300 := ⟨by omega, by omega⟩
    have hWs3 := Sb.bound_ok hc hFb.1 hFb.2 hFz1.1 hFz1.2 hFq.1 hFq.2 hezs3 hfzs3 hed hfd hes3 hfs3 (by omega) hNz1.2
    have hss3 : (-100000 ≤ es3 ∧ es3 ≤ 100000) ∧ ns3 ≤ 3000 ∧ ms3 ≤ 3000 := ⟨⟨by omega, by omega⟩, by omega, by omega⟩
    have hszs3 : (-100000 ≤ ezs3 ∧ ezs3 ≤ 100000) ∧ nzs3 ≤ 3000 ∧ mzs3 ≤ 3000 := ⟨⟨by omega, by omega⟩, by omega, by omega⟩
    clear hxz1
    refine GC.join (σ := Unit) (fun j => True) (fun j => [(0, (.int .u32 r)), (1, (.int .u32 g)), (2, (.int .u32 b)), (6, (.bool false)), (112, (.bool false))]) (fun j => []) ?_ (fun ju hj => ?_)
    ·refine GC.draw [⟨bb, [(.int .i64 2), (.bool false), (.slice (some ⟨b1, 0, none⟩) ((Nd.nd ((Bt.mant q).toNat * 5 * 2 ^ nd + 1 * 2 ^ md))) b2), (.int .i64 ed), (.bool false)], 38, true⟩, ⟨b1, (Nd.dl b2 ((Bt.mant q).toNat * 5 * 2 ^ nd + 1 * 2 ^ md)).map u32, 23, true⟩] T.mixed (fuel := 37) rfl rfl ?_
     refine GH.take 0 (v := (.int .u32 r)) rfl (by kernel_rfl) (by kernel_rfl) (by kernel_rfl) (fun _ _ _ h => hQ _ _ _ _ _ h) (Ex.move rfl) (ulC (ulC ulN)) (by decide) ?_
     refine GH.one 1 rfl (by kernel_rfl) (Stp.callR (vs := [(.int .u32 r)]) rfl rfl T.own28 (by decide) (fun wc hw => finite_l r wc hFr.1)) (fun _ => (ulC (ulC ulN))) (fun xq55 hq56 => ?_)
     refine GH.take 2 (v := (.bool false)) rfl (by kernel_rfl) (by kernel_rfl) (by kernel_rfl) (fun _ _ _ h => hQ _ _ _ _ _ h) (Ex.cast (Ex.not rfl) (congrArg Value.bool (congrArg (fun z => !z) (decide_eq_true (by first | exact hfu | exact hfv | exact hfz | exact hFr.2 | exact hFg.2 | exact hFb.2))))) (ulC (ulC ulN)) (by decide) ?_
     refine GH.take 3 (v := (.bool false)) rfl (by kernel_rfl) (by kernel_rfl) (by kernel_rfl) (fun _ _ _ h => hQ _ _ _ _ _ h) (Ex.move rfl) (ulC (ulC ulN)) (by decide) ?_
     refine GH.takeG 4 (tj := 79) (v := (.int .u32 v1)) rfl rfl rfl (by kernel_rfl) (by kernel_rfl) (by kernel_rfl) (fun _ _ _ h => hQ _ _ _ _ _ h) (Ex.move rfl) (ulC (ulC ulN)) (by decide) ?_
     refine GH.oneG 5 (tj := 79) rfl rfl rfl (by kernel_rfl) (Stp.callR (vs := [(.int .u32 v1)]) rfl rfl T.own28 (by decide) (fun wc hw => finite_l v1 wc hFv1.1)) (fun _ => (ulC (ulC ulN))) (fun xq57 hq58 => ?_)
     refine GH.takeG 6 (tj := 79) (v := (.bool false)) rfl rfl rfl (by kernel_rfl) (by kernel_rfl) (by kernel_rfl) (fun _ _ _ h => hQ _ _ _ _ _ h) (Ex.cast (Ex.not rfl) (congrArg Value.bool (congrArg (fun z => !z) (decide_eq_true (by first | exact hfu | exact hfv | exact hfz | exact hFr.2 | exact hFg.2 | exact hFb.2))))) (ulC (ulC ulN)) (by decide) ?_
     refine GH.take 7 (v := (.bool false)) rfl (by kernel_rfl) (by kernel_rfl) (by kernel_rfl) (fun _ _ _ h => hQ _ _ _ _ _ h) (Ex.pickF rfl rfl) (ulC (ulC ulN)) (by decide) ?_
     refine GH.take 8 (v := (.bool false)) rfl (by kernel_rfl) (by kernel_rfl) (by kernel_rfl) (fun _ _ _ h => hQ _ _ _ _ _ h) (Ex.move rfl) (ulC (ulC ulN)) (by decide) ?_
     refine GH.takeG 9 (tj := 84) (v := (.int .u32 z1)) rfl rfl rfl (by kernel_rfl) (by kernel_rfl) (by kernel_rfl) (fun _ _ _ h => hQ _ _ _ _ _ h) (Ex.move rfl) (ulC (ulC ulN)) (by decide) ?_
     refine GH.oneG 10 (tj := 84) rfl rfl rfl (by kernel_rfl) (Stp.callR (vs := [(.int .u32 z1)]) rfl rfl T.own28 (by decide) (fun wc hw => finite_l z1 wc hFz1.1)) (fun _ => (ulC (ulC ulN))) (fun xq59 hq60 => ?_)
     refine GH.takeG 11 (tj := 84) (v := (.bool false)) rfl rfl rfl (by kernel_rfl) (by kernel_rfl) (by kernel_rfl) (fun _ _ _ h => hQ _ _ _ _ _ h) (Ex.cast (Ex.not rfl) (congrArg Value.bool (congrArg (fun z => !z) (decide_eq_true (by first | exact hfu | exact hfv | exact hfz | exact hFr.2 | exact hFg.2 | exact hFb.2))))) (ulC (ulC ulN)) (by decide) ?_
     refine GH.take 12 (v := (.bool false)) rfl (by kernel_rfl) (by kernel_rfl) (by kernel_rfl) (fun _ _ _ h => hQ _ _ _ _ _ h) (Ex.pickF rfl rfl) (ulC (ulC ulN)) (by decide) ?_
     refine GH.take 13 (v := (.bool false)) rfl (by kernel_rfl) (by kernel_rfl) (by kernel_rfl) (fun _ _ _ h => hQ _ _ _ _ _ h) (Ex.move rfl) (ulC (ulC ulN)) (by decide) ?_
     refine GH.takeG 14 (tj := 89) (v := (.int .u32 r)) rfl rfl rfl (by kernel_rfl) (by kernel_rfl) (by kernel_rfl) (fun _ _ _ h => hQ _ _ _ _ _ h) (Ex.move rfl) (ulC (ulC ulN)) (by decide) ?_
     refine GH.takeG 15 (tj := 89) (v := (.int .u32 r)) rfl rfl rfl (by kernel_rfl) (by kernel_rfl) (by kernel_rfl) (fun _ _ _ h => hQ _ _ _ _ _ h) (Ex.move rfl) (ulC (ulC ulN)) (by decide) ?_
     refine GH.takeG 17 (tj := 89) (v := (.agg #[(.int .i64 2), (.bool false), (.slice (some ⟨b1, 0, none⟩) ((Nd.nd ((Bt.mant q).toNat * 5 * 2 ^ nd + 1 * 2 ^ md))) b2), (.int .i64 ed), (.bool false)])) rfl rfl rfl (by kernel_rfl) (by kernel_rfl) (by kernel_rfl) (fun _ _ _ h => hQ _ _ _ _ _ h) (Ex.loadA rfl T.ag38 T.sz38 (i := 0) rfl (vs := [(.int .i64 2), (.bool false), (.slice (some ⟨b1, 0, none⟩) ((Nd.nd ((Bt.mant q).toNat * 5 * 2 ^ nd + 1 * 2 ^ md))) b2), (.int .i64 ed), (.bool false)]) rfl rfl) (ulC (ulC ulN)) (by decide) ?_
     refine GH.oneG 16 (tj := 89) rfl rfl rfl (by kernel_rfl) (Stp.callR (vs := [(.int .u32 r), (.int .u32 r)]) rfl rfl T.own34 (by decide) (fun wc hw => off_eq r r (Bt.expo r) 0 0 wc hFr.1 hFr.2 hFr.1 hFr.2 (by omega) (by omega) (.inl rfl) (by decide) (by decide) (by omega) (Lb.ne_not _) rfl)) (fun _ => (ulC (ulC ulN))) (fun xq61 hq62 => ?_)
     refine GH.oneG 18 (tj := 89) rfl rfl rfl (by kernel_rfl) (Stp.callR (vs := [(.agg #[(.int .i64 2), (.bool false), (.slice none 0 0), (.int .i64 ((Bt.expo r))), (.bool false)]), (.agg #[(.int .i64 2), (.bool false), (.slice (some ⟨b1, 0, none⟩) ((Nd.nd ((Bt.mant q).toNat * 5 * 2 ^ nd + 1 * 2 ^ md))) b2), (.int .i64 ed), (.bool false)])]) rfl rfl T.own30 (by decide) (fun wc hw => within_n none 0 (((Bt.mant q).toNat * 5 * 2 ^ nd + 1 * 2 ^ md)) b1 b2 es1 ((Bt.expo r)) ed ns1 ms1 false false wc (Nd.Nb.of (hw.rdOf (i := 1) rfl 0) (Lb.nd_lt_of hj)) (Nat.le_trans (Sb.nd_bound hFq.1 hnd hmd) (by decide)) hes1 hfs1 hgs1 hss1.2.1 hss1.2.2 hss1.1)) (fun _ => (ulC (ulC ulN))) (fun xq63 hq64 => ?_)
     refine GH.takeG 19 (tj := 89) (v := (.bool false)) rfl rfl rfl (by kernel_rfl) (by kernel_rfl) (by kernel_rfl) (fun _ _ _ h => hQ _ _ _ _ _ h) (Ex.cast (Ex.not rfl) rfl) (ulC (ulC ulN)) (by decide) ?_
     refine GH.take 20 (v := (.bool false)) rfl (by kernel_rfl) (by kernel_rfl) (by kernel_rfl) (fun _ _ _ h => hQ _ _ _ _ _ h) (Ex.pickF rfl rfl) (ulC (ulC ulN)) (by decide) ?_
     refine GH.take 21 (v := (.bool false)) rfl (by kernel_rfl) (by kernel_rfl) (by kernel_rfl) (fun _ _ _ h => hQ _ _ _ _ _ h) (Ex.move rfl) (ulC (ulC ulN)) (by decide) ?_
     refine GH.takeG 22 (tj := 97) (v := (.int .u32 g)) rfl rfl rfl (by kernel_rfl) (by kernel_rfl) (by kernel_rfl) (fun _ _ _ h => hQ _ _ _ _ _ h) (Ex.move rfl) (ulC (ulC ulN)) (by decide) ?_
     refine GH.takeG 23 (tj := 97) (v := (.int .u32 v1)) rfl rfl rfl (by kernel_rfl) (by kernel_rfl) (by kernel_rfl) (fun _ _ _ h => hQ _ _ _ _ _ h) (Ex.move rfl) (ulC (ulC ulN)) (by decide) ?_
     refine GH.takeG 25 (tj := 97) (v := (.agg #[(.int .i64 2), (.bool false), (.slice (some ⟨b1, 0, none⟩) ((Nd.nd ((Bt.mant q).toNat * 5 * 2 ^ nd + 1 * 2 ^ md))) b2), (.int .i64 ed), (.bool false)])) rfl rfl rfl (by kernel_rfl) (by kernel_rfl) (by kernel_rfl) (fun _ _ _ h => hQ _ _ _ _ _ h) (Ex.loadA rfl T.ag38 T.sz38 (i := 0) rfl (vs := [(.int .i64 2), (.bool false), (.slice (some ⟨b1, 0, none⟩) ((Nd.nd ((Bt.mant q).toNat * 5 * 2 ^ nd + 1 * 2 ^ md))) b2), (.int .i64 ed), (.bool false)]) rfl rfl) (ulC (ulC ulN)) (by decide) ?_
     refine GH.oneG 24 (tj := 97) rfl rfl rfl (by kernel_rfl) (Stp.callR (vs := [(.int .u32 g), (.int .u32 v1)]) rfl rfl T.own34 (by decide) (fun wc hw => off_ne g v1 ezs2 nzs2 mzs2 wc hFg.1 hFg.2 hFv1.1 hFv1.2 hezs2 hfzs2 hgzs2 hszs2.2.1 hszs2.2.2 hszs2.1 s2)) (fun _ => (ulS (ulC (ulC ulN)))) (fun xq65 hq66 => ?_)
     refine GH.oneG 26 (tj := 97) rfl rfl rfl (by kernel_rfl) (Stp.callR (vs := [(.agg #[(.int .i64 2), (.bool false), (.slice (some ⟨xq65.1, 0, none⟩) ((Nd.nd (Lb.dfr (decide (g / 2147483648 % 2 = 1)) (decide (v1 / 2147483648 % 2 = 1)) ((Bt.mant g).toNat * 2 ^ nzs2) ((Bt.mant v1).toNat * 2 ^ mzs2)))) xq65.2), (.int .i64 ezs2), (.bool false)]), (.agg #[(.int .i64 2), (.bool false), (.slice (some ⟨b1, 0, none⟩) ((Nd.nd ((Bt.mant q).toNat * 5 * 2 ^ nd + 1 * 2 ^ md))) b2), (.int .i64 ed), (.bool false)])]) rfl rfl T.own30 (by decide) (fun wc hw => within_b ((Lb.dfr (decide (g / 2147483648 % 2 = 1)) (decide (v1 / 2147483648 % 2 = 1)) ((Bt.mant g).toNat * 2 ^ nzs2) ((Bt.mant v1).toNat * 2 ^ mzs2))) xq65.1 xq65.2 (((Bt.mant q).toNat * 5 * 2 ^ nd + 1 * 2 ^ md)) b1 b2 es2 ezs2 ed ns2 ms2 false false wc (Nd.Nb.of (hw.rdOf (i := 0) rfl 0) (Lb.nd_lt_of hq66)) (Nat.le_trans (Lb.dfr_nd hFg.1 hFv1.1 hbv1.1 hbv1.2 _ _) (by decide)) (Nd.Nb.of (hw.rdOf (i := 2) rfl 0) (Lb.nd_lt_of hj)) (Nat.le_trans (Sb.nd_bound hFq.1 hnd hmd) (by decide)) hes2 hfs2 hgs2 hss2.2.1 hss2.2.2 hss2.1)) (fun _ => (ulS (ulC (ulC ulN)))) (fun xq67 hq68 => ?_)
     refine GH.takeG 27 (tj := 97) (v := (.bool false)) rfl rfl rfl (by kernel_rfl) (by kernel_rfl) (by kernel_rfl) (fun _ _ _ h => hQ _ _ _ _ _ h) (Ex.cast (Ex.not rfl) (congrArg Value.bool (congrArg (fun z => !z) (decide_eq_true (by exact hWs2))))) (ulS (ulC (ulC ulN))) (by decide) ?_
     refine GH.take 28 (v := (.bool false)) rfl (by kernel_rfl) (by kernel_rfl) (by kernel_rfl) (fun _ _ _ h => hQ _ _ _ _ _ h) (Ex.pickF rfl rfl) (ulS (ulC (ulC ulN))) (by decide) ?_
     refine GH.take 29 (v := (.bool false)) rfl (by kernel_rfl) (by kernel_rfl) (by kernel_rfl) (fun _ _ _ h => hQ _ _ _ _ _ h) (Ex.move rfl) (ulS (ulC (ulC ulN))) (by decide) ?_
     refine GH.takeG 30 (tj := 105) (v := (.int .u32 b)) rfl rfl rfl (by kernel_rfl) (by kernel_rfl) (by kernel_rfl) (fun _ _ _ h => hQ _ _ _ _ _ h) (Ex.move rfl) (ulS (ulC (ulC ulN))) (by decide) ?_
     refine GH.takeG 31 (tj := 105) (v := (.int .u32 z1)) rfl rfl rfl (by kernel_rfl) (by kernel_rfl) (by kernel_rfl) (fun _ _ _ h => hQ _ _ _ _ _ h) (Ex.move rfl) (ulS (ulC (ulC ulN))) (by decide) ?_
     refine GH.takeG 33 (tj := 105) (v := (.agg #[(.int .i64 2), (.bool false), (.slice (some ⟨b1, 0, none⟩) ((Nd.nd ((Bt.mant q).toNat * 5 * 2 ^ nd + 1 * 2 ^ md))) b2), (.int .i64 ed), (.bool false)])) rfl rfl rfl (by kernel_rfl) (by kernel_rfl) (by kernel_rfl) (fun _ _ _ h => hQ _ _ _ _ _ h) (Ex.loadA rfl T.ag38 T.sz38 (i := 0) rfl (vs := [(.int .i64 2), (.bool false), (.slice (some ⟨b1, 0, none⟩) ((Nd.nd ((Bt.mant q).toNat * 5 * 2 ^ nd + 1 * 2 ^ md))) b2), (.int .i64 ed), (.bool false)]) rfl rfl) (ulS (ulC (ulC ulN))) (by decide) ?_
     refine GH.oneG 32 (tj := 105) rfl rfl rfl (by kernel_rfl) (Stp.callR (vs := [(.int .u32 b), (.int .u32 z1)]) rfl rfl T.own34 (by decide) (fun wc hw => off_ne b z1 ezs3 nzs3 mzs3 wc hFb.1 hFb.2 hFz1.1 hFz1.2 hezs3 hfzs3 hgzs3 hszs3.2.1 hszs3.2.2 hszs3.1 s3)) (fun _ => (ulS (ulS (ulC (ulC ulN))))) (fun xq69 hq70 => ?_)
     refine GH.oneG 34 (tj := 105) rfl rfl rfl (by kernel_rfl) (Stp.callR (vs := [(.agg #[(.int .i64 2), (.bool false), (.slice (some ⟨xq69.1, 0, none⟩) ((Nd.nd (Lb.dfr (decide (b / 2147483648 % 2 = 1)) (decide (z1 / 2147483648 % 2 = 1)) ((Bt.mant b).toNat * 2 ^ nzs3) ((Bt.mant z1).toNat * 2 ^ mzs3)))) xq69.2), (.int .i64 ezs3), (.bool false)]), (.agg #[(.int .i64 2), (.bool false), (.slice (some ⟨b1, 0, none⟩) ((Nd.nd ((Bt.mant q).toNat * 5 * 2 ^ nd + 1 * 2 ^ md))) b2), (.int .i64 ed), (.bool false)])]) rfl rfl T.own30 (by decide) (fun wc hw => within_b ((Lb.dfr (decide (b / 2147483648 % 2 = 1)) (decide (z1 / 2147483648 % 2 = 1)) ((Bt.mant b).toNat * 2 ^ nzs3) ((Bt.mant z1).toNat * 2 ^ mzs3))) xq69.1 xq69.2 (((Bt.mant q).toNat * 5 * 2 ^ nd + 1 * 2 ^ md)) b1 b2 es3 ezs3 ed ns3 ms3 false false wc (Nd.Nb.of (hw.rdOf (i := 0) rfl 0) (Lb.nd_lt_of hq70)) (Nat.le_trans (Lb.dfr_nd hFb.1 hFz1.1 hbz1.1 hbz1.2 _ _) (by decide)) (Nd.Nb.of (hw.rdOf (i := 3) rfl 0) (Lb.nd_lt_of hj)) (Nat.le_trans (Sb.nd_bound hFq.1 hnd hmd) (by decide)) hes3 hfs3 hgs3 hss3.2.1 hss3.2.2 hss3.1)) (fun _ => (ulS (ulS (ulC (ulC ulN))))) (fun xq71 hq72 => ?_)
     refine GH.takeG 35 (tj := 105) (v := (.bool false)) rfl rfl rfl (by kernel_rfl) (by kernel_rfl) (by kernel_rfl) (fun _ _ _ h => hQ _ _ _ _ _ h) (Ex.cast (Ex.not rfl) (congrArg Value.bool (congrArg (fun z => !z) (decide_eq_true (by exact hWs3))))) (ulS (ulS (ulC (ulC ulN)))) (by decide) ?_
     refine GH.take 36 (v := (.bool false)) rfl (by kernel_rfl) (by kernel_rfl) (by kernel_rfl) (fun _ _ _ h => hQ _ _ _ _ _ h) (Ex.pickF rfl rfl) (ulS (ulS (ulC (ulC ulN)))) (by decide) ?_
     refine GH.done (by kernel_rfl) ?_
     refine GE.thenN ?_
     exact St.mk (()) trivial (idx := []) ((sub_cons rfl ((sub_cons rfl ((sub_cons rfl ((sub_cons rfl ((sub_cons rfl ((sub_nil _)))))))))))) (by decide) rfl
    exact K ju
 ·obtain ⟨ezs1, nzs1, mzs1, hezs1, hfzs1, hgzs1, hhzs1⟩ := Lb.mins (Bt.expo r) (Bt.expo u1)
  obtain ⟨es1, ns1, ms1, hes1, hfs1, hgs1, hhs1⟩ := Lb.mins ezs1 ed
  have hbu1 : nzs1 ≤ 300 ∧ mzs1 ≤ 300 := ⟨by omega, by omega⟩
  have hWs1 := Sb.bound_ok hc hFr.1 hFr.2 hFu1.1 hFu1.2 hFq.1 hFq.2 hezs1 hfzs1 hed hfd hes1 hfs1 (by omega) hNu1.2
  have hss1 : (-100000 ≤ es1 ∧ es1 ≤ 100000) ∧ ns1 ≤ 3000 ∧ ms1 ≤ 3000 := ⟨⟨by omega, by omega⟩, by omega, by omega⟩
  have hszs1 : (-100000 ≤ ezs1 ∧ ezs1 ≤ 100000) ∧ nzs1 ≤ 3000 ∧ mzs1 ≤ 3000 := ⟨⟨by omega, by omega⟩, by omega, by omega⟩
  clear hxu1
  by_cases s2 : g = v1
  ·rw [← s2]
   obtain ⟨es2, ns2, ms2, hes2, hfs2, hgs2, hhs2⟩ := Lb.mins (Bt.expo g) ed
   have hss2 : (-100000 ≤ es2 ∧ es2 ≤ 100000) ∧ ns2 ≤ 3000 ∧ ms2 ≤ 3000 := ⟨⟨by omega, by omega⟩, by omega, by omega⟩
   clear hxv1
   by_cases s3 : b = z1
   ·rw [← s3]
    obtain ⟨es3, ns3, ms3, hes3, hfs3, hgs3, hhs3⟩ := Lb.mins (Bt.expo b) ed
    have hss3 : (-100000 ≤ es3 ∧ es3 ≤ 100000) ∧ ns3 ≤ 3000 ∧ ms3 ≤ 3000 := ⟨⟨by omega, by omega⟩, by omega, by omega⟩
    clear hxz1
    refine GC.join (σ := Unit) (fun j => True) (fun j => [(0, (.int .u32 r)), (1, (.int .u32 g)), (2, (.int .u32 b)), (6, (.bool false)), (112, (.bool false))]) (fun j => []) ?_ (fun ju hj => ?_)
    ·refine GC.draw [⟨bb, [(.int .i64 2), (.bool false), (.slice (some ⟨b1, 0, none⟩) ((Nd.nd ((Bt.mant q).toNat * 5 * 2 ^ nd + 1 * 2 ^ md))) b2), (.int .i64 ed), (.bool false)], 38, true⟩, ⟨b1, (Nd.dl b2 ((Bt.mant q).toNat * 5 * 2 ^ nd + 1 * 2 ^ md)).map u32, 23, true⟩] T.mixed (fuel := 37) rfl rfl ?_
     refine GH.take 0 (v := (.int .u32 u1)) rfl (by kernel_rfl) (by kernel_rfl) (by kernel_rfl) (fun _ _ _ h => hQ _ _ _ _ _ h) (Ex.move rfl) (ulC (ulC ulN)) (by decide) ?_
     refine GH.one 1 rfl (by kernel_rfl) (Stp.callR (vs := [(.int .u32 u1)]) rfl rfl T.own28 (by decide) (fun wc hw => finite_l u1 wc hFu1.1)) (fun _ => (ulC (ulC ulN))) (fun xq73 hq74 => ?_)
     refine GH.take 2 (v := (.bool false)) rfl (by kernel_rfl) (by kernel_rfl) (by kernel_rfl) (fun _ _ _ h => hQ _ _ _ _ _ h) (Ex.cast (Ex.not rfl) (congrArg Value.bool (congrArg (fun z => !z) (decide_eq_true (by first | exact hfu | exact hfv | exact hfz | exact hFr.2 | exact hFg.2 | exact hFb.2))))) (ulC (ulC ulN)) (by decide) ?_
     refine GH.take 3 (v := (.bool false)) rfl (by kernel_rfl) (by kernel_rfl) (by kernel_rfl) (fun _ _ _ h => hQ _ _ _ _ _ h) (Ex.move rfl) (ulC (ulC ulN)) (by decide) ?_
     refine GH.takeG 4 (tj := 79) (v := (.int .u32 g)) rfl rfl rfl (by kernel_rfl) (by kernel_rfl) (by kernel_rfl) (fun _ _ _ h => hQ _ _ _ _ _ h) (Ex.move rfl) (ulC (ulC ulN)) (by decide) ?_
     refine GH.oneG 5 (tj := 79) rfl rfl rfl (by kernel_rfl) (Stp.callR (vs := [(.int .u32 g)]) rfl rfl T.own28 (by decide) (fun wc hw => finite_l g wc hFg.1)) (fun _ => (ulC (ulC ulN))) (fun xq75 hq76 => ?_)
     refine GH.takeG 6 (tj := 79) (v := (.bool false)) rfl rfl rfl (by kernel_rfl) (by kernel_rfl) (by kernel_rfl) (fun _ _ _ h => hQ _ _ _ _ _ h) (Ex.cast (Ex.not rfl) (congrArg Value.bool (congrArg (fun z => !z) (decide_eq_true (by first | exact hfu | exact hfv | exact hfz | exact hFr.2 | exact hFg.2 | exact hFb.2))))) (ulC (ulC ulN)) (by decide) ?_
     refine GH.take 7 (v := (.bool false)) rfl (by kernel_rfl) (by kernel_rfl) (by kernel_rfl) (fun _ _ _ h => hQ _ _ _ _ _ h) (Ex.pickF rfl rfl) (ulC (ulC ulN)) (by decide) ?_
     refine GH.take 8 (v := (.bool false)) rfl (by kernel_rfl) (by kernel_rfl) (by kernel_rfl) (fun _ _ _ h => hQ _ _ _ _ _ h) (Ex.move rfl) (ulC (ulC ulN)) (by decide) ?_
     refine GH.takeG 9 (tj := 84) (v := (.int .u32 b)) rfl rfl rfl (by kernel_rfl) (by kernel_rfl) (by kernel_rfl) (fun _ _ _ h => hQ _ _ _ _ _ h) (Ex.move rfl) (ulC (ulC ulN)) (by decide) ?_
     refine GH.oneG 10 (tj := 84) rfl rfl rfl (by kernel_rfl) (Stp.callR (vs := [(.int .u32 b)]) rfl rfl T.own28 (by decide) (fun wc hw => finite_l b wc hFb.1)) (fun _ => (ulC (ulC ulN))) (fun xq77 hq78 => ?_)
     refine GH.takeG 11 (tj := 84) (v := (.bool false)) rfl rfl rfl (by kernel_rfl) (by kernel_rfl) (by kernel_rfl) (fun _ _ _ h => hQ _ _ _ _ _ h) (Ex.cast (Ex.not rfl) (congrArg Value.bool (congrArg (fun z => !z) (decide_eq_true (by first | exact hfu | exact hfv | exact hfz | exact hFr.2 | exact hFg.2 | exact hFb.2))))) (ulC (ulC ulN)) (by decide) ?_
     refine GH.take 12 (v := (.bool false)) rfl (by kernel_rfl) (by kernel_rfl) (by kernel_rfl) (fun _ _ _ h => hQ _ _ _ _ _ h) (Ex.pickF rfl rfl) (ulC (ulC ulN)) (by decide) ?_
     refine GH.take 13 (v := (.bool false)) rfl (by kernel_rfl) (by kernel_rfl) (by kernel_rfl) (fun _ _ _ h => hQ _ _ _ _ _ h) (Ex.move rfl) (ulC (ulC ulN)) (by decide) ?_
     refine GH.takeG 14 (tj := 89) (v := (.int .u32 r)) rfl rfl rfl (by kernel_rfl) (by kernel_rfl) (by kernel_rfl) (fun _ _ _ h => hQ _ _ _ _ _ h) (Ex.move rfl) (ulC (ulC ulN)) (by decide) ?_
     refine GH.takeG 15 (tj := 89) (v := (.int .u32 u1)) rfl rfl rfl (by kernel_rfl) (by kernel_rfl) (by kernel_rfl) (fun _ _ _ h => hQ _ _ _ _ _ h) (Ex.move rfl) (ulC (ulC ulN)) (by decide) ?_
     refine GH.takeG 17 (tj := 89) (v := (.agg #[(.int .i64 2), (.bool false), (.slice (some ⟨b1, 0, none⟩) ((Nd.nd ((Bt.mant q).toNat * 5 * 2 ^ nd + 1 * 2 ^ md))) b2), (.int .i64 ed), (.bool false)])) rfl rfl rfl (by kernel_rfl) (by kernel_rfl) (by kernel_rfl) (fun _ _ _ h => hQ _ _ _ _ _ h) (Ex.loadA rfl T.ag38 T.sz38 (i := 0) rfl (vs := [(.int .i64 2), (.bool false), (.slice (some ⟨b1, 0, none⟩) ((Nd.nd ((Bt.mant q).toNat * 5 * 2 ^ nd + 1 * 2 ^ md))) b2), (.int .i64 ed), (.bool false)]) rfl rfl) (ulC (ulC ulN)) (by decide) ?_
     refine GH.oneG 16 (tj := 89) rfl rfl rfl (by kernel_rfl) (Stp.callR (vs := [(.int .u32 r), (.int .u32 u1)]) rfl rfl T.own34 (by decide) (fun wc hw => off_ne r u1 ezs1 nzs1 mzs1 wc hFr.1 hFr.2 hFu1.1 hFu1.2 hezs1 hfzs1 hgzs1 hszs1.2.1 hszs1.2.2 hszs1.1 s1)) (fun _ => (ulS (ulC (ulC ulN)))) (fun xq79 hq80 => ?_)
     refine GH.oneG 18 (tj := 89) rfl rfl rfl (by kernel_rfl) (Stp.callR (vs := [(.agg #[(.int .i64 2), (.bool false), (.slice (some ⟨xq79.1, 0, none⟩) ((Nd.nd (Lb.dfr (decide (r / 2147483648 % 2 = 1)) (decide (u1 / 2147483648 % 2 = 1)) ((Bt.mant r).toNat * 2 ^ nzs1) ((Bt.mant u1).toNat * 2 ^ mzs1)))) xq79.2), (.int .i64 ezs1), (.bool false)]), (.agg #[(.int .i64 2), (.bool false), (.slice (some ⟨b1, 0, none⟩) ((Nd.nd ((Bt.mant q).toNat * 5 * 2 ^ nd + 1 * 2 ^ md))) b2), (.int .i64 ed), (.bool false)])]) rfl rfl T.own30 (by decide) (fun wc hw => within_b ((Lb.dfr (decide (r / 2147483648 % 2 = 1)) (decide (u1 / 2147483648 % 2 = 1)) ((Bt.mant r).toNat * 2 ^ nzs1) ((Bt.mant u1).toNat * 2 ^ mzs1))) xq79.1 xq79.2 (((Bt.mant q).toNat * 5 * 2 ^ nd + 1 * 2 ^ md)) b1 b2 es1 ezs1 ed ns1 ms1 false false wc (Nd.Nb.of (hw.rdOf (i := 0) rfl 0) (Lb.nd_lt_of hq80)) (Nat.le_trans (Lb.dfr_nd hFr.1 hFu1.1 hbu1.1 hbu1.2 _ _) (by decide)) (Nd.Nb.of (hw.rdOf (i := 2) rfl 0) (Lb.nd_lt_of hj)) (Nat.le_trans (Sb.nd_bound hFq.1 hnd hmd) (by decide)) hes1 hfs1 hgs1 hss1.2.1 hss1.2.2 hss1.1)) (fun _ => (ulS (ulC (ulC ulN)))) (fun xq81 hq82 => ?_)
     refine GH.takeG 19 (tj := 89) (v := (.bool false)) rfl rfl rfl (by kernel_rfl) (by kernel_rfl) (by kernel_rfl) (fun _ _ _ h => hQ _ _ _ _ _ h) (Ex.cast (Ex.not rfl) (congrArg Value.bool (congrArg (fun z => !z) (decide_eq_true (by exact hWs1))))) (ulS (ulC (ulC ulN))) (by decide) ?_
     refine GH.take 20 (v := (.bool false)) rfl (by kernel_rfl) (by kernel_rfl) (by kernel_rfl) (fun _ _ _ h => hQ _ _ _ _ _ h) (Ex.pickF rfl rfl) (ulS (ulC (ulC ulN))) (by decide) ?_
     refine GH.take 21 (v := (.bool false)) rfl (by kernel_rfl) (by kernel_rfl) (by kernel_rfl) (fun _ _ _ h => hQ _ _ _ _ _ h) (Ex.move rfl) (ulS (ulC (ulC ulN))) (by decide) ?_
     refine GH.takeG 22 (tj := 97) (v := (.int .u32 g)) rfl rfl rfl (by kernel_rfl) (by kernel_rfl) (by kernel_rfl) (fun _ _ _ h => hQ _ _ _ _ _ h) (Ex.move rfl) (ulS (ulC (ulC ulN))) (by decide) ?_
     refine GH.takeG 23 (tj := 97) (v := (.int .u32 g)) rfl rfl rfl (by kernel_rfl) (by kernel_rfl) (by kernel_rfl) (fun _ _ _ h => hQ _ _ _ _ _ h) (Ex.move rfl) (ulS (ulC (ulC ulN))) (by decide) ?_
     refine GH.takeG 25 (tj := 97) (v := (.agg #[(.int .i64 2), (.bool false), (.slice (some ⟨b1, 0, none⟩) ((Nd.nd ((Bt.mant q).toNat * 5 * 2 ^ nd + 1 * 2 ^ md))) b2), (.int .i64 ed), (.bool false)])) rfl rfl rfl (by kernel_rfl) (by kernel_rfl) (by kernel_rfl) (fun _ _ _ h => hQ _ _ _ _ _ h) (Ex.loadA rfl T.ag38 T.sz38 (i := 0) rfl (vs := [(.int .i64 2), (.bool false), (.slice (some ⟨b1, 0, none⟩) ((Nd.nd ((Bt.mant q).toNat * 5 * 2 ^ nd + 1 * 2 ^ md))) b2), (.int .i64 ed), (.bool false)]) rfl rfl) (ulS (ulC (ulC ulN))) (by decide) ?_
     refine GH.oneG 24 (tj := 97) rfl rfl rfl (by kernel_rfl) (Stp.callR (vs := [(.int .u32 g), (.int .u32 g)]) rfl rfl T.own34 (by decide) (fun wc hw => off_eq g g (Bt.expo g) 0 0 wc hFg.1 hFg.2 hFg.1 hFg.2 (by omega) (by omega) (.inl rfl) (by decide) (by decide) (by omega) (Lb.ne_not _) rfl)) (fun _ => (ulS (ulC (ulC ulN)))) (fun xq83 hq84 => ?_)
     refine GH.oneG 26 (tj := 97) rfl rfl rfl (by kernel_rfl) (Stp.callR (vs := [(.agg #[(.int .i64 2), (.bool false), (.slice none 0 0), (.int .i64 ((Bt.expo g))), (.bool false)]), (.agg #[(.int .i64 2), (.bool false), (.slice (some ⟨b1, 0, none⟩) ((Nd.nd ((Bt.mant q).toNat * 5 * 2 ^ nd + 1 * 2 ^ md))) b2), (.int .i64 ed), (.bool false)])]) rfl rfl T.own30 (by decide) (fun wc hw => within_n none 0 (((Bt.mant q).toNat * 5 * 2 ^ nd + 1 * 2 ^ md)) b1 b2 es2 ((Bt.expo g)) ed ns2 ms2 false false wc (Nd.Nb.of (hw.rdOf (i := 2) rfl 0) (Lb.nd_lt_of hj)) (Nat.le_trans (Sb.nd_bound hFq.1 hnd hmd) (by decide)) hes2 hfs2 hgs2 hss2.2.1 hss2.2.2 hss2.1)) (fun _ => (ulS (ulC (ulC ulN)))) (fun xq85 hq86 => ?_)
     refine GH.takeG 27 (tj := 97) (v := (.bool false)) rfl rfl rfl (by kernel_rfl) (by kernel_rfl) (by kernel_rfl) (fun _ _ _ h => hQ _ _ _ _ _ h) (Ex.cast (Ex.not rfl) rfl) (ulS (ulC (ulC ulN))) (by decide) ?_
     refine GH.take 28 (v := (.bool false)) rfl (by kernel_rfl) (by kernel_rfl) (by kernel_rfl) (fun _ _ _ h => hQ _ _ _ _ _ h) (Ex.pickF rfl rfl) (ulS (ulC (ulC ulN))) (by decide) ?_
     refine GH.take 29 (v := (.bool false)) rfl (by kernel_rfl) (by kernel_rfl) (by kernel_rfl) (fun _ _ _ h => hQ _ _ _ _ _ h) (Ex.move rfl) (ulS (ulC (ulC ulN))) (by decide) ?_
     refine GH.takeG 30 (tj := 105) (v := (.int .u32 b)) rfl rfl rfl (by kernel_rfl) (by kernel_rfl) (by kernel_rfl) (fun _ _ _ h => hQ _ _ _ _ _ h) (Ex.move rfl) (ulS (ulC (ulC ulN))) (by decide) ?_
     refine GH.takeG 31 (tj := 105) (v := (.int .u32 b)) rfl rfl rfl (by kernel_rfl) (by kernel_rfl) (by kernel_rfl) (fun _ _ _ h => hQ _ _ _ _ _ h) (Ex.move rfl) (ulS (ulC (ulC ulN))) (by decide) ?_
     refine GH.takeG 33 (tj := 105) (v := (.agg #[(.int .i64 2), (.bool false), (.slice (some ⟨b1, 0, none⟩) ((Nd.nd ((Bt.mant q).toNat * 5 * 2 ^ nd + 1 * 2 ^ md))) b2), (.int .i64 ed), (.bool false)])) rfl rfl rfl (by kernel_rfl) (by kernel_rfl) (by kernel_rfl) (fun _ _ _ h => hQ _ _ _ _ _ h) (Ex.loadA rfl T.ag38 T.sz38 (i := 0) rfl (vs := [(.int .i64 2), (.bool false), (.slice (some ⟨b1, 0, none⟩) ((Nd.nd ((Bt.mant q).toNat * 5 * 2 ^ nd + 1 * 2 ^ md))) b2), (.int .i64 ed), (.bool false)]) rfl rfl) (ulS (ulC (ulC ulN))) (by decide) ?_
     refine GH.oneG 32 (tj := 105) rfl rfl rfl (by kernel_rfl) (Stp.callR (vs := [(.int .u32 b), (.int .u32 b)]) rfl rfl T.own34 (by decide) (fun wc hw => off_eq b b (Bt.expo b) 0 0 wc hFb.1 hFb.2 hFb.1 hFb.2 (by omega) (by omega) (.inl rfl) (by decide) (by decide) (by omega) (Lb.ne_not _) rfl)) (fun _ => (ulS (ulC (ulC ulN)))) (fun xq87 hq88 => ?_)
     refine GH.oneG 34 (tj := 105) rfl rfl rfl (by kernel_rfl) (Stp.callR (vs := [(.agg #[(.int .i64 2), (.bool false), (.slice none 0 0), (.int .i64 ((Bt.expo b))), (.bool false)]), (.agg #[(.int .i64 2), (.bool false), (.slice (some ⟨b1, 0, none⟩) ((Nd.nd ((Bt.mant q).toNat * 5 * 2 ^ nd + 1 * 2 ^ md))) b2), (.int .i64 ed), (.bool false)])]) rfl rfl T.own30 (by decide) (fun wc hw => within_n none 0 (((Bt.mant q).toNat * 5 * 2 ^ nd + 1 * 2 ^ md)) b1 b2 es3 ((Bt.expo b)) ed ns3 ms3 false false wc (Nd.Nb.of (hw.rdOf (i := 2) rfl 0) (Lb.nd_lt_of hj)) (Nat.le_trans (Sb.nd_bound hFq.1 hnd hmd) (by decide)) hes3 hfs3 hgs3 hss3.2.1 hss3.2.2 hss3.1)) (fun _ => (ulS (ulC (ulC ulN)))) (fun xq89 hq90 => ?_)
     refine GH.takeG 35 (tj := 105) (v := (.bool false)) rfl rfl rfl (by kernel_rfl) (by kernel_rfl) (by kernel_rfl) (fun _ _ _ h => hQ _ _ _ _ _ h) (Ex.cast (Ex.not rfl) rfl) (ulS (ulC (ulC ulN))) (by decide) ?_
     refine GH.take 36 (v := (.bool false)) rfl (by kernel_rfl) (by kernel_rfl) (by kernel_rfl) (fun _ _ _ h => hQ _ _ _ _ _ h) (Ex.pickF rfl rfl) (ulS (ulC (ulC ulN))) (by decide) ?_
     refine GH.done (by kernel_rfl) ?_
     refine GE.thenN ?_
     exact St.mk (()) trivial (idx := []) ((sub_cons rfl ((sub_cons rfl ((sub_cons rfl ((sub_cons rfl ((sub_cons rfl ((sub_nil _)))))))))))) (by decide) rfl
    exact K ju
   ·obtain ⟨ezs3, nzs3, mzs3, hezs3, hfzs3, hgzs3, hhzs3⟩ := Lb.mins (Bt.expo b) (Bt.expo z1)
    obtain ⟨es3, ns3, ms3, hes3, hfs3, hgs3, hhs3⟩ := Lb.mins ezs3 ed
    have hbz1 : nzs3 ≤ 300 ∧ mzs3 ≤ 300 := ⟨by omega, by omega⟩
    have hWs3 := Sb.bound_ok hc hFb.1 hFb.2 hFz1.1 hFz1.2 hFq.1 hFq.2 hezs3 hfzs3 hed hfd hes3 hfs3 (by omega) hNz1.2
    have hss3 : (-100000 ≤ es3 ∧ es3 ≤ 100000) ∧ ns3 ≤ 3000 ∧ ms3 ≤ 3000 := ⟨⟨by omega, by omega⟩, by omega, by omega⟩
    have hszs3 : (-100000 ≤ ezs3 ∧ ezs3 ≤ 100000) ∧ nzs3 ≤ 3000 ∧ mzs3 ≤ 3000 := ⟨⟨by omega, by omega⟩, by omega, by omega⟩
    clear hxz1
    refine GC.join (σ := Unit) (fun j => True) (fun j => [(0, (.int .u32 r)), (1, (.int .u32 g)), (2, (.int .u32 b)), (6, (.bool false)), (112, (.bool false))]) (fun j => []) ?_ (fun ju hj => ?_)
    ·refine GC.draw [⟨bb, [(.int .i64 2), (.bool false), (.slice (some ⟨b1, 0, none⟩) ((Nd.nd ((Bt.mant q).toNat * 5 * 2 ^ nd + 1 * 2 ^ md))) b2), (.int .i64 ed), (.bool false)], 38, true⟩, ⟨b1, (Nd.dl b2 ((Bt.mant q).toNat * 5 * 2 ^ nd + 1 * 2 ^ md)).map u32, 23, true⟩] T.mixed (fuel := 37) rfl rfl ?_
     refine GH.take 0 (v := (.int .u32 u1)) rfl (by kernel_rfl) (by kernel_rfl) (by kernel_rfl) (fun _ _ _ h => hQ _ _ _ _ _ h) (Ex.move rfl) (ulC (ulC ulN)) (by decide) ?_
     refine GH.one 1 rfl (by kernel_rfl) (Stp.callR (vs := [(.int .u32 u1)]) rfl rfl T.own28 (by decide) (fun wc hw => finite_l u1 wc hFu1.1)) (fun _ => (ulC (ulC ulN))) (fun xq91 hq92 => ?_)
     refine GH.take 2 (v := (.bool false)) rfl (by kernel_rfl) (by kernel_rfl) (by kernel_rfl) (fun _ _ _ h => hQ _ _ _ _ _ h) (Ex.cast (Ex.not rfl) (congrArg Value.bool (congrArg (fun z => !z) (decide_eq_true (by first | exact hfu | exact hfv | exact hfz | exact hFr.2 | exact hFg.2 | exact hFb.2))))) (ulC (ulC ulN)) (by decide) ?_
     refine GH.take 3 (v := (.bool false)) rfl (by kernel_rfl) (by kernel_rfl) (by kernel_rfl) (fun _ _ _ h => hQ _ _ _ _ _ h) (Ex.move rfl) (ulC (ulC ulN)) (by decide) ?_
     refine GH.takeG 4 (tj := 79) (v := (.int .u32 g)) rfl rfl rfl (by kernel_rfl) (by kernel_rfl) (by kernel_rfl) (fun _ _ _ h => hQ _ _ _ _ _ h) (Ex.move rfl) (ulC (ulC ulN)) (by decide) ?_
     refine GH.oneG 5 (tj := 79) rfl rfl rfl (by kernel_rfl) (Stp.callR (vs := [(.int .u32 g)]) rfl rfl T.own28 (by decide) (fun wc hw => finite_l g wc hFg.1)) (fun _ => (ulC (ulC ulN))) (fun xq93 hq94 => ?_)
     refine GH.takeG 6 (tj := 79) (v := (.bool false)) rfl rfl rfl (by kernel_rfl) (by kernel_rfl) (by kernel_rfl) (fun _ _ _ h => hQ _ _ _ _ _ h) (Ex.cast (Ex.not rfl) (congrArg Value.bool (congrArg (fun z => !z) (decide_eq_true (by first | exact hfu | exact hfv | exact hfz | exact hFr.2 | exact hFg.2 | exact hFb.2))))) (ulC (ulC ulN)) (by decide) ?_
     refine GH.take 7 (v := (.bool false)) rfl (by kernel_rfl) (by kernel_rfl) (by kernel_rfl) (fun _ _ _ h => hQ _ _ _ _ _ h) (Ex.pickF rfl rfl) (ulC (ulC ulN)) (by decide) ?_
     refine GH.take 8 (v := (.bool false)) rfl (by kernel_rfl) (by kernel_rfl) (by kernel_rfl) (fun _ _ _ h => hQ _ _ _ _ _ h) (Ex.move rfl) (ulC (ulC ulN)) (by decide) ?_
     refine GH.takeG 9 (tj := 84) (v := (.int .u32 z1)) rfl rfl rfl (by kernel_rfl) (by kernel_rfl) (by kernel_rfl) (fun _ _ _ h => hQ _ _ _ _ _ h) (Ex.move rfl) (ulC (ulC ulN)) (by decide) ?_
     refine GH.oneG 10 (tj := 84) rfl rfl rfl (by kernel_rfl) (Stp.callR (vs := [(.int .u32 z1)]) rfl rfl T.own28 (by decide) (fun wc hw => finite_l z1 wc hFz1.1)) (fun _ => (ulC (ulC ulN))) (fun xq95 hq96 => ?_)
     refine GH.takeG 11 (tj := 84) (v := (.bool false)) rfl rfl rfl (by kernel_rfl) (by kernel_rfl) (by kernel_rfl) (fun _ _ _ h => hQ _ _ _ _ _ h) (Ex.cast (Ex.not rfl) (congrArg Value.bool (congrArg (fun z => !z) (decide_eq_true (by first | exact hfu | exact hfv | exact hfz | exact hFr.2 | exact hFg.2 | exact hFb.2))))) (ulC (ulC ulN)) (by decide) ?_
     refine GH.take 12 (v := (.bool false)) rfl (by kernel_rfl) (by kernel_rfl) (by kernel_rfl) (fun _ _ _ h => hQ _ _ _ _ _ h) (Ex.pickF rfl rfl) (ulC (ulC ulN)) (by decide) ?_
     refine GH.take 13 (v := (.bool false)) rfl (by kernel_rfl) (by kernel_rfl) (by kernel_rfl) (fun _ _ _ h => hQ _ _ _ _ _ h) (Ex.move rfl) (ulC (ulC ulN)) (by decide) ?_
     refine GH.takeG 14 (tj := 89) (v := (.int .u32 r)) rfl rfl rfl (by kernel_rfl) (by kernel_rfl) (by kernel_rfl) (fun _ _ _ h => hQ _ _ _ _ _ h) (Ex.move rfl) (ulC (ulC ulN)) (by decide) ?_
     refine GH.takeG 15 (tj := 89) (v := (.int .u32 u1)) rfl rfl rfl (by kernel_rfl) (by kernel_rfl) (by kernel_rfl) (fun _ _ _ h => hQ _ _ _ _ _ h) (Ex.move rfl) (ulC (ulC ulN)) (by decide) ?_
     refine GH.takeG 17 (tj := 89) (v := (.agg #[(.int .i64 2), (.bool false), (.slice (some ⟨b1, 0, none⟩) ((Nd.nd ((Bt.mant q).toNat * 5 * 2 ^ nd + 1 * 2 ^ md))) b2), (.int .i64 ed), (.bool false)])) rfl rfl rfl (by kernel_rfl) (by kernel_rfl) (by kernel_rfl) (fun _ _ _ h => hQ _ _ _ _ _ h) (Ex.loadA rfl T.ag38 T.sz38 (i := 0) rfl (vs := [(.int .i64 2), (.bool false), (.slice (some ⟨b1, 0, none⟩) ((Nd.nd ((Bt.mant q).toNat * 5 * 2 ^ nd + 1 * 2 ^ md))) b2), (.int .i64 ed), (.bool false)]) rfl rfl) (ulC (ulC ulN)) (by decide) ?_
     refine GH.oneG 16 (tj := 89) rfl rfl rfl (by kernel_rfl) (Stp.callR (vs := [(.int .u32 r), (.int .u32 u1)]) rfl rfl T.own34 (by decide) (fun wc hw => off_ne r u1 ezs1 nzs1 mzs1 wc hFr.1 hFr.2 hFu1.1 hFu1.2 hezs1 hfzs1 hgzs1 hszs1.2.1 hszs1.2.2 hszs1.1 s1)) (fun _ => (ulS (ulC (ulC ulN)))) (fun xq97 hq98 => ?_)
     refine GH.oneG 18 (tj := 89) rfl rfl rfl (by kernel_rfl) (Stp.callR (vs := [(.agg #[(.int .i64 2), (.bool false), (.slice (some ⟨xq97.1, 0, none⟩) ((Nd.nd (Lb.dfr (decide (r / 2147483648 % 2 = 1)) (decide (u1 / 2147483648 % 2 = 1)) ((Bt.mant r).toNat * 2 ^ nzs1) ((Bt.mant u1).toNat * 2 ^ mzs1)))) xq97.2), (.int .i64 ezs1), (.bool false)]), (.agg #[(.int .i64 2), (.bool false), (.slice (some ⟨b1, 0, none⟩) ((Nd.nd ((Bt.mant q).toNat * 5 * 2 ^ nd + 1 * 2 ^ md))) b2), (.int .i64 ed), (.bool false)])]) rfl rfl T.own30 (by decide) (fun wc hw => within_b ((Lb.dfr (decide (r / 2147483648 % 2 = 1)) (decide (u1 / 2147483648 % 2 = 1)) ((Bt.mant r).toNat * 2 ^ nzs1) ((Bt.mant u1).toNat * 2 ^ mzs1))) xq97.1 xq97.2 (((Bt.mant q).toNat * 5 * 2 ^ nd + 1 * 2 ^ md)) b1 b2 es1 ezs1 ed ns1 ms1 false false wc (Nd.Nb.of (hw.rdOf (i := 0) rfl 0) (Lb.nd_lt_of hq98)) (Nat.le_trans (Lb.dfr_nd hFr.1 hFu1.1 hbu1.1 hbu1.2 _ _) (by decide)) (Nd.Nb.of (hw.rdOf (i := 2) rfl 0) (Lb.nd_lt_of hj)) (Nat.le_trans (Sb.nd_bound hFq.1 hnd hmd) (by decide)) hes1 hfs1 hgs1 hss1.2.1 hss1.2.2 hss1.1)) (fun _ => (ulS (ulC (ulC ulN)))) (fun xq99 hq100 => ?_)
     refine GH.takeG 19 (tj := 89) (v := (.bool false)) rfl rfl rfl (by kernel_rfl) (by kernel_rfl) (by kernel_rfl) (fun _ _ _ h => hQ _ _ _ _ _ h) (Ex.cast (Ex.not rfl) (congrArg Value.bool (congrArg (fun z => !z) (decide_eq_true (by exact hWs1))))) (ulS (ulC (ulC ulN))) (by decide) ?_
     refine GH.take 20 (v := (.bool false)) rfl (by kernel_rfl) (by kernel_rfl) (by kernel_rfl) (fun _ _ _ h => hQ _ _ _ _ _ h) (Ex.pickF rfl rfl) (ulS (ulC (ulC ulN))) (by decide) ?_
     refine GH.take 21 (v := (.bool false)) rfl (by kernel_rfl) (by kernel_rfl) (by kernel_rfl) (fun _ _ _ h => hQ _ _ _ _ _ h) (Ex.move rfl) (ulS (ulC (ulC ulN))) (by decide) ?_
     refine GH.takeG 22 (tj := 97) (v := (.int .u32 g)) rfl rfl rfl (by kernel_rfl) (by kernel_rfl) (by kernel_rfl) (fun _ _ _ h => hQ _ _ _ _ _ h) (Ex.move rfl) (ulS (ulC (ulC ulN))) (by decide) ?_
     refine GH.takeG 23 (tj := 97) (v := (.int .u32 g)) rfl rfl rfl (by kernel_rfl) (by kernel_rfl) (by kernel_rfl) (fun _ _ _ h => hQ _ _ _ _ _ h) (Ex.move rfl) (ulS (ulC (ulC ulN))) (by decide) ?_
     refine GH.takeG 25 (tj := 97) (v := (.agg #[(.int .i64 2), (.bool false), (.slice (some ⟨b1, 0, none⟩) ((Nd.nd ((Bt.mant q).toNat * 5 * 2 ^ nd + 1 * 2 ^ md))) b2), (.int .i64 ed), (.bool false)])) rfl rfl rfl (by kernel_rfl) (by kernel_rfl) (by kernel_rfl) (fun _ _ _ h => hQ _ _ _ _ _ h) (Ex.loadA rfl T.ag38 T.sz38 (i := 0) rfl (vs := [(.int .i64 2), (.bool false), (.slice (some ⟨b1, 0, none⟩) ((Nd.nd ((Bt.mant q).toNat * 5 * 2 ^ nd + 1 * 2 ^ md))) b2), (.int .i64 ed), (.bool false)]) rfl rfl) (ulS (ulC (ulC ulN))) (by decide) ?_
     refine GH.oneG 24 (tj := 97) rfl rfl rfl (by kernel_rfl) (Stp.callR (vs := [(.int .u32 g), (.int .u32 g)]) rfl rfl T.own34 (by decide) (fun wc hw => off_eq g g (Bt.expo g) 0 0 wc hFg.1 hFg.2 hFg.1 hFg.2 (by omega) (by omega) (.inl rfl) (by decide) (by decide) (by omega) (Lb.ne_not _) rfl)) (fun _ => (ulS (ulC (ulC ulN)))) (fun xq101 hq102 => ?_)
     refine GH.oneG 26 (tj := 97) rfl rfl rfl (by kernel_rfl) (Stp.callR (vs := [(.agg #[(.int .i64 2), (.bool false), (.slice none 0 0), (.int .i64 ((Bt.expo g))), (.bool false)]), (.agg #[(.int .i64 2), (.bool false), (.slice (some ⟨b1, 0, none⟩) ((Nd.nd ((Bt.mant q).toNat * 5 * 2 ^ nd + 1 * 2 ^ md))) b2), (.int .i64 ed), (.bool false)])]) rfl rfl T.own30 (by decide) (fun wc hw => within_n none 0 (((Bt.mant q).toNat * 5 * 2 ^ nd + 1 * 2 ^ md)) b1 b2 es2 ((Bt.expo g)) ed ns2 ms2 false false wc (Nd.Nb.of (hw.rdOf (i := 2) rfl 0) (Lb.nd_lt_of hj)) (Nat.le_trans (Sb.nd_bound hFq.1 hnd hmd) (by decide)) hes2 hfs2 hgs2 hss2.2.1 hss2.2.2 hss2.1)) (fun _ => (ulS (ulC (ulC ulN)))) (fun xq103 hq104 => ?_)
     refine GH.takeG 27 (tj := 97) (v := (.bool false)) rfl rfl rfl (by kernel_rfl) (by kernel_rfl) (by kernel_rfl) (fun _ _ _ h => hQ _ _ _ _ _ h) (Ex.cast (Ex.not rfl) rfl) (ulS (ulC (ulC ulN))) (by decide) ?_
     refine GH.take 28 (v := (.bool false)) rfl (by kernel_rfl) (by kernel_rfl) (by kernel_rfl) (fun _ _ _ h => hQ _ _ _ _ _ h) (Ex.pickF rfl rfl) (ulS (ulC (ulC ulN))) (by decide) ?_
     refine GH.take 29 (v := (.bool false)) rfl (by kernel_rfl) (by kernel_rfl) (by kernel_rfl) (fun _ _ _ h => hQ _ _ _ _ _ h) (Ex.move rfl) (ulS (ulC (ulC ulN))) (by decide) ?_
     refine GH.takeG 30 (tj := 105) (v := (.int .u32 b)) rfl rfl rfl (by kernel_rfl) (by kernel_rfl) (by kernel_rfl) (fun _ _ _ h => hQ _ _ _ _ _ h) (Ex.move rfl) (ulS (ulC (ulC ulN))) (by decide) ?_
     refine GH.takeG 31 (tj := 105) (v := (.int .u32 z1)) rfl rfl rfl (by kernel_rfl) (by kernel_rfl) (by kernel_rfl) (fun _ _ _ h => hQ _ _ _ _ _ h) (Ex.move rfl) (ulS (ulC (ulC ulN))) (by decide) ?_
     refine GH.takeG 33 (tj := 105) (v := (.agg #[(.int .i64 2), (.bool false), (.slice (some ⟨b1, 0, none⟩) ((Nd.nd ((Bt.mant q).toNat * 5 * 2 ^ nd + 1 * 2 ^ md))) b2), (.int .i64 ed), (.bool false)])) rfl rfl rfl (by kernel_rfl) (by kernel_rfl) (by kernel_rfl) (fun _ _ _ h => hQ _ _ _ _ _ h) (Ex.loadA rfl T.ag38 T.sz38 (i := 0) rfl (vs := [(.int .i64 2), (.bool false), (.slice (some ⟨b1, 0, none⟩) ((Nd.nd ((Bt.mant q).toNat * 5 * 2 ^ nd + 1 * 2 ^ md))) b2), (.int .i64 ed), (.bool false)]) rfl rfl) (ulS (ulC (ulC ulN))) (by decide) ?_
     refine GH.oneG 32 (tj := 105) rfl rfl rfl (by kernel_rfl) (Stp.callR (vs := [(.int .u32 b), (.int .u32 z1)]) rfl rfl T.own34 (by decide) (fun wc hw => off_ne b z1 ezs3 nzs3 mzs3 wc hFb.1 hFb.2 hFz1.1 hFz1.2 hezs3 hfzs3 hgzs3 hszs3.2.1 hszs3.2.2 hszs3.1 s3)) (fun _ => (ulS (ulS (ulC (ulC ulN))))) (fun xq105 hq106 => ?_)
     refine GH.oneG 34 (tj := 105) rfl rfl rfl (by kernel_rfl) (Stp.callR (vs := [(.agg #[(.int .i64 2), (.bool false), (.slice (some ⟨xq105.1, 0, none⟩) ((Nd.nd (Lb.dfr (decide (b / 2147483648 % 2 = 1)) (decide (z1 / 2147483648 % 2 = 1)) ((Bt.mant b).toNat * 2 ^ nzs3) ((Bt.mant z1).toNat * 2 ^ mzs3)))) xq105.2), (.int .i64 ezs3), (.bool false)]), (.agg #[(.int .i64 2), (.bool false), (.slice (some ⟨b1, 0, none⟩) ((Nd.nd ((Bt.mant q).toNat * 5 * 2 ^ nd + 1 * 2 ^ md))) b2), (.int .i64 ed), (.bool false)])]) rfl rfl T.own30 (by decide) (fun wc hw => within_b ((Lb.dfr (decide (b / 2147483648 % 2 = 1)) (decide (z1 / 2147483648 % 2 = 1)) ((Bt.mant b).toNat * 2 ^ nzs3) ((Bt.mant z1).toNat * 2 ^ mzs3))) xq105.1 xq105.2 (((Bt.mant q).toNat * 5 * 2 ^ nd + 1 * 2 ^ md)) b1 b2 es3 ezs3 ed ns3 ms3 false false wc (Nd.Nb.of (hw.rdOf (i := 0) rfl 0) (Lb.nd_lt_of hq106)) (Nat.le_trans (Lb.dfr_nd hFb.1 hFz1.1 hbz1.1 hbz1.2 _ _) (by decide)) (Nd.Nb.of (hw.rdOf (i := 3) rfl 0) (Lb.nd_lt_of hj)) (Nat.le_trans (Sb.nd_bound hFq.1 hnd hmd) (by decide)) hes3 hfs3 hgs3 hss3.2.1 hss3.2.2 hss3.1)) (fun _ => (ulS (ulS (ulC (ulC ulN))))) (fun xq107 hq108 => ?_)
     refine GH.takeG 35 (tj := 105) (v := (.bool false)) rfl rfl rfl (by kernel_rfl) (by kernel_rfl) (by kernel_rfl) (fun _ _ _ h => hQ _ _ _ _ _ h) (Ex.cast (Ex.not rfl) (congrArg Value.bool (congrArg (fun z => !z) (decide_eq_true (by exact hWs3))))) (ulS (ulS (ulC (ulC ulN)))) (by decide) ?_
     refine GH.take 36 (v := (.bool false)) rfl (by kernel_rfl) (by kernel_rfl) (by kernel_rfl) (fun _ _ _ h => hQ _ _ _ _ _ h) (Ex.pickF rfl rfl) (ulS (ulS (ulC (ulC ulN)))) (by decide) ?_
     refine GH.done (by kernel_rfl) ?_
     refine GE.thenN ?_
     exact St.mk (()) trivial (idx := []) ((sub_cons rfl ((sub_cons rfl ((sub_cons rfl ((sub_cons rfl ((sub_cons rfl ((sub_nil _)))))))))))) (by decide) rfl
    exact K ju
  ·obtain ⟨ezs2, nzs2, mzs2, hezs2, hfzs2, hgzs2, hhzs2⟩ := Lb.mins (Bt.expo g) (Bt.expo v1)
   obtain ⟨es2, ns2, ms2, hes2, hfs2, hgs2, hhs2⟩ := Lb.mins ezs2 ed
   have hbv1 : nzs2 ≤ 300 ∧ mzs2 ≤ 300 := ⟨by omega, by omega⟩
   have hWs2 := Sb.bound_ok hc hFg.1 hFg.2 hFv1.1 hFv1.2 hFq.1 hFq.2 hezs2 hfzs2 hed hfd hes2 hfs2 (by omega) hNv1.2
   have hss2 : (-100000 ≤ es2 ∧ es2 ≤ 100000) ∧ ns2 ≤ 3000 ∧ ms2 ≤ 3000 := ⟨⟨by omega, by omega⟩, by omega, by omega⟩
   have hszs2 : (-100000 ≤ ezs2 ∧ ezs2 ≤ 100000) ∧ nzs2 ≤ 3000 ∧ mzs2 ≤ 3000 := ⟨⟨by omega, by omega⟩, by omega, by omega⟩
   clear hxv1
   by_cases s3 : b = z1
   ·rw [← s3]
    obtain ⟨es3, ns3, ms3, hes3, hfs3, hgs3, hhs3⟩ := Lb.mins (Bt.expo b) ed
    have hss3 : (-100000 ≤ es3 ∧ es3 ≤ 100000) ∧ ns3 ≤ 3000 ∧ ms3 ≤ 3000 := ⟨⟨by omega, by omega⟩, by omega, by omega⟩
    clear hxz1
    refine GC.join (σ := Unit) (fun j => True) (fun j => [(0, (.int .u32 r)), (1, (.int .u32 g)), (2, (.int .u32 b)), (6, (.bool false)), (112, (.bool false))]) (fun j => []) ?_ (fun ju hj => ?_)
    ·refine GC.draw [⟨bb, [(.int .i64 2), (.bool false), (.slice (some ⟨b1, 0, none⟩) ((Nd.nd ((Bt.mant q).toNat * 5 * 2 ^ nd + 1 * 2 ^ md))) b2), (.int .i64 ed), (.bool false)], 38, true⟩, ⟨b1, (Nd.dl b2 ((Bt.mant q).toNat * 5 * 2 ^ nd + 1 * 2 ^ md)).map u32, 23, true⟩] T.mixed (fuel := 37) rfl rfl ?_
     refine GH.take 0 (v := (.int .u32 u1)) rfl (by kernel_rfl) (by kernel_rfl) (by kernel_rfl) (fun _ _ _ h => hQ _ _ _ _ _ h) (Ex.move rfl) (ulC (ulC ulN)) (by decide) ?_
     refine GH.one 1 rfl (by kernel_rfl) (Stp.callR (vs := [(.int .u32 u1)]) rfl rfl T.own28 (by decide) (fun wc hw => finite_l u1 wc hFu1.1)) (fun _ => (ulC (ulC ulN))) (fun xq109 hq110 => ?_)
     refine GH.take 2 (v := (.bool false)) rfl (by kernel_rfl) (by kernel_rfl) (by kernel_rfl) (fun _ _ _ h => hQ _ _ _ _ _ h) (Ex.cast (Ex.not rfl) (congrArg Value.bool (congrArg (fun z => !z) (decide_eq_true (by first | exact hfu | exact hfv | exact hfz | exact hFr.2 | exact hFg.2 | exact hFb.2))))) (ulC (ulC ulN)) (by decide) ?_
     refine GH.take 3 (v := (.bool false)) rfl (by kernel_rfl) (by kernel_rfl) (by kernel_rfl) (fun _ _ _ h => hQ _ _ _ _ _ h) (Ex.move rfl) (ulC (ulC ulN)) (by decide) ?_
     refine GH.takeG 4 (tj := 79) (v := (.int .u32 v1)) rfl rfl rfl (by kernel_rfl) (by kernel_rfl) (by kernel_rfl) (fun _ _ _ h => hQ _ _ _ _ _ h) (Ex.move rfl) (ulC (ulC ulN)) (by decide) ?_
     refine GH.oneG 5 (tj := 79) rfl rfl rfl (by kernel_rfl) (Stp.callR (vs := [(.int .u32 v1)]) rfl rfl T.own28 (by decide) (fun wc hw => finite_l v1 wc hFv1.1)) (fun _ => (ulC (ulC ulN))) (fun xq111 hq112 => ?_)
     refine GH.takeG 6 (tj := 79) (v := (.bool false)) rfl rfl rfl (by kernel_rfl) (by kernel_rfl) (by kernel_rfl) (fun _ _ _ h => hQ _ _ _ _ _ h) (Ex.cast (Ex.not rfl) (congrArg Value.bool (congrArg (fun z => !z) (decide_eq_true (by first | exact hfu | exact hfv | exact hfz | exact hFr.2 | exact hFg.2 | exact hFb.2))))) (ulC (ulC ulN)) (by decide) ?_
     refine GH.take 7 (v := (.bool false)) rfl (by kernel_rfl) (by kernel_rfl) (by kernel_rfl) (fun _ _ _ h => hQ _ _ _ _ _ h) (Ex.pickF rfl rfl) (ulC (ulC ulN)) (by decide) ?_
     refine GH.take 8 (v := (.bool false)) rfl (by kernel_rfl) (by kernel_rfl) (by kernel_rfl) (fun _ _ _ h => hQ _ _ _ _ _ h) (Ex.move rfl) (ulC (ulC ulN)) (by decide) ?_
     refine GH.takeG 9 (tj := 84) (v := (.int .u32 b)) rfl rfl rfl (by kernel_rfl) (by kernel_rfl) (by kernel_rfl) (fun _ _ _ h => hQ _ _ _ _ _ h) (Ex.move rfl) (ulC (ulC ulN)) (by decide) ?_
     refine GH.oneG 10 (tj := 84) rfl rfl rfl (by kernel_rfl) (Stp.callR (vs := [(.int .u32 b)]) rfl rfl T.own28 (by decide) (fun wc hw => finite_l b wc hFb.1)) (fun _ => (ulC (ulC ulN))) (fun xq113 hq114 => ?_)
     refine GH.takeG 11 (tj := 84) (v := (.bool false)) rfl rfl rfl (by kernel_rfl) (by kernel_rfl) (by kernel_rfl) (fun _ _ _ h => hQ _ _ _ _ _ h) (Ex.cast (Ex.not rfl) (congrArg Value.bool (congrArg (fun z => !z) (decide_eq_true (by first | exact hfu | exact hfv | exact hfz | exact hFr.2 | exact hFg.2 | exact hFb.2))))) (ulC (ulC ulN)) (by decide) ?_
     refine GH.take 12 (v := (.bool false)) rfl (by kernel_rfl) (by kernel_rfl) (by kernel_rfl) (fun _ _ _ h => hQ _ _ _ _ _ h) (Ex.pickF rfl rfl) (ulC (ulC ulN)) (by decide) ?_
     refine GH.take 13 (v := (.bool false)) rfl (by kernel_rfl) (by kernel_rfl) (by kernel_rfl) (fun _ _ _ h => hQ _ _ _ _ _ h) (Ex.move rfl) (ulC (ulC ulN)) (by decide) ?_
     refine GH.takeG 14 (tj := 89) (v := (.int .u32 r)) rfl rfl rfl (by kernel_rfl) (by kernel_rfl) (by kernel_rfl) (fun _ _ _ h => hQ _ _ _ _ _ h) (Ex.move rfl) (ulC (ulC ulN)) (by decide) ?_
     refine GH.takeG 15 (tj := 89) (v := (.int .u32 u1)) rfl rfl rfl (by kernel_rfl) (by kernel_rfl) (by kernel_rfl) (fun _ _ _ h => hQ _ _ _ _ _ h) (Ex.move rfl) (ulC (ulC ulN)) (by decide) ?_
     refine GH.takeG 17 (tj := 89) (v := (.agg #[(.int .i64 2), (.bool false), (.slice (some ⟨b1, 0, none⟩) ((Nd.nd ((Bt.mant q).toNat * 5 * 2 ^ nd + 1 * 2 ^ md))) b2), (.int .i64 ed), (.bool false)])) rfl rfl rfl (by kernel_rfl) (by kernel_rfl) (by kernel_rfl) (fun _ _ _ h => hQ _ _ _ _ _ h) (Ex.loadA rfl T.ag38 T.sz38 (i := 0) rfl (vs := [(.int .i64 2), (.bool false), (.slice (some ⟨b1, 0, none⟩) ((Nd.nd ((Bt.mant q).toNat * 5 * 2 ^ nd + 1 * 2 ^ md))) b2), (.int .i64 ed), (.bool false)]) rfl rfl) (ulC (ulC ulN)) (by decide) ?_
     refine GH.oneG 16 (tj := 89) rfl rfl rfl (by kernel_rfl) (Stp.callR (vs := [(.int .u32 r), (.int .u32 u1)]) rfl rfl T.own34 (by decide) (fun wc hw => off_ne r u1 ezs1 nzs1 mzs1 wc hFr.1 hFr.2 hFu1.1 hFu1.2 hezs1 hfzs1 hgzs1 hszs1.2.1 hszs1.2.2 hszs1.1 s1)) (fun _ => (ulS (ulC (ulC ulN)))) (fun xq115 hq116 => ?_)
     refine GH.oneG 18 (tj := 89) rfl rfl rfl (by kernel_rfl) (Stp.callR (vs := [(.agg #[(.int .i64 2), (.bool false), (.slice (some ⟨xq115.1, 0, none⟩) ((Nd.nd (Lb.dfr (decide (r / 2147483648 % 2 = 1)) (decide (u1 / 2147483648 % 2 = 1)) ((Bt.mant r).toNat * 2 ^ nzs1) ((Bt.mant u1).toNat * 2 ^ mzs1)))) xq115.2), (.int .i64 ezs1), (.bool false)]), (.agg #[(.int .i64 2), (.bool false), (.slice (some ⟨b1, 0, none⟩) ((Nd.nd ((Bt.mant q).toNat * 5 * 2 ^ nd + 1 * 2 ^ md))) b2), (.int .i64 ed), (.bool false)])]) rfl rfl T.own30 (by decide) (fun wc hw => within_b ((Lb.dfr (decide (r / 2147483648 % 2 = 1)) (decide (u1 / 2147483648 % 2 = 1)) ((Bt.mant r).toNat * 2 ^ nzs1) ((Bt.mant u1).toNat * 2 ^ mzs1))) xq115.1 xq115.2 (((Bt.mant q).toNat * 5 * 2 ^ nd + 1 * 2 ^ md)) b1 b2 es1 ezs1 ed ns1 ms1 false false wc (Nd.Nb.of (hw.rdOf (i := 0) rfl 0) (Lb.nd_lt_of hq116)) (Nat.le_trans (Lb.dfr_nd hFr.1 hFu1.1 hbu1.1 hbu1.2 _ _) (by decide)) (Nd.Nb.of (hw.rdOf (i := 2) rfl 0) (Lb.nd_lt_of hj)) (Nat.le_trans (Sb.nd_bound hFq.1 hnd hmd) (by decide)) hes1 hfs1 hgs1 hss1.2.1 hss1.2.2 hss1.1)) (fun _ => (ulS (ulC (ulC ulN)))) (fun xq117 hq118 => ?_)
     refine GH.takeG 19 (tj := 89) (v := (.bool false)) rfl rfl rfl (by kernel_rfl) (by kernel_rfl) (by kernel_rfl) (fun _ _ _ h => hQ _ _ _ _ _ h) (Ex.cast (Ex.not rfl) (congrArg Value.bool (congrArg (fun z => !z) (decide_eq_true (by exact hWs1))))) (ulS (ulC (ulC ulN))) (by decide) ?_
     refine GH.take 20 (v := (.bool false)) rfl (by kernel_rfl) (by kernel_rfl) (by kernel_rfl) (fun _ _ _ h => hQ _ _ _ _ _ h) (Ex.pickF rfl rfl) (ulS (ulC (ulC ulN))) (by decide) ?_
     refine GH.take 21 (v := (.bool false)) rfl (by kernel_rfl) (by kernel_rfl) (by kernel_rfl) (fun _ _ _ h => hQ _ _ _ _ _ h) (Ex.move rfl) (ulS (ulC (ulC ulN))) (by decide) ?_
     refine GH.takeG 22 (tj := 97) (v := (.int .u32 g)) rfl rfl rfl (by kernel_rfl) (by kernel_rfl) (by kernel_rfl) (fun _ _ _ h => hQ _ _ _ _ _ h) (Ex.move rfl) (ulS (ulC (ulC ulN))) (by decide) ?_
     refine GH.takeG 23 (tj := 97) (v := (.int .u32 v1)) rfl rfl rfl (by kernel_rfl) (by kernel_rfl) (by kernel_rfl) (fun _ _ _ h => hQ _ _ _ _ _ h) (Ex.move rfl) (ulS (ulC (ulC ulN))) (by decide) ?_
     refine GH.takeG 25 (tj := 97) (v := (.agg #[(.int .i64 2), (.bool false), (.slice (some ⟨b1, 0, none⟩) ((Nd.nd ((Bt.mant q).toNat * 5 * 2 ^ nd + 1 * 2 ^ md))) b2), (.int .i64 ed), (.bool false)])) rfl rfl rfl (by kernel_rfl) (by kernel_rfl) (by kernel_rfl) (fun _ _ _ h => hQ _ _ _ _ _ h) (Ex.loadA rfl T.ag38 T.sz38 (i := 0) rfl (vs := [(.int .i64 2), (.bool false), (.slice (some ⟨b1, 0, none⟩) ((Nd.nd ((Bt.mant q).toNat * 5 * 2 ^ nd + 1 * 2 ^ md))) b2), (.int .i64 ed), (.bool false)]) rfl rfl) (ulS (ulC (ulC ulN))) (by decide) ?_
     refine GH.oneG 24 (tj := 97) rfl rfl rfl (by kernel_rfl) (Stp.callR (vs := [(.int .u32 g), (.int .u32 v1)]) rfl rfl T.own34 (by decide) (fun wc hw => off_ne g v1 ezs2 nzs2 mzs2 wc hFg.1 hFg.2 hFv1.1 hFv1.2 hezs2 hfzs2 hgzs2 hszs2.2.1 hszs2.2.2 hszs2.1 s2)) (fun _ => (ulS (ulS (ulC (ulC ulN))))) (fun xq119 hq120 => ?_)
     refine GH.oneG 26 (tj := 97) rfl rfl rfl (by kernel_rfl) (Stp.callR (vs := [(.agg #[(.int .i64 2), (.bool false), (.slice (some ⟨xq119.1, 0, none⟩) ((Nd.nd (Lb.dfr (decide (g / 2147483648 % 2 = 1)) (decide (v1 / 2147483648 % 2 = 1)) ((Bt.mant g).toNat * 2 ^ nzs2) ((Bt.mant v1).toNat * 2 ^ mzs2)))) xq119.2), (.int .i64 ezs2), (.bool false)]), (.agg #[(.int .i64 2), (.bool false), (.slice (some ⟨b1, 0, none⟩) ((Nd.nd ((Bt.mant q).toNat * 5 * 2 ^ nd + 1 * 2 ^ md))) b2), (.int .i64 ed), (.bool false)])]) rfl rfl T.own30 (by decide) (fun wc hw => within_b ((Lb.dfr (decide (g / 2147483648 % 2 = 1)) (decide (v1 / 2147483648 % 2 = 1)) ((Bt.mant g).toNat * 2 ^ nzs2) ((Bt.mant v1).toNat * 2 ^ mzs2))) xq119.1 xq119.2 (((Bt.mant q).toNat * 5 * 2 ^ nd + 1 * 2 ^ md)) b1 b2 es2 ezs2 ed ns2 ms2 false false wc (Nd.Nb.of (hw.rdOf (i := 0) rfl 0) (Lb.nd_lt_of hq120)) (Nat.le_trans (Lb.dfr_nd hFg.1 hFv1.1 hbv1.1 hbv1.2 _ _) (by decide)) (Nd.Nb.of (hw.rdOf (i := 3) rfl 0) (Lb.nd_lt_of hj)) (Nat.le_trans (Sb.nd_bound hFq.1 hnd hmd) (by decide)) hes2 hfs2 hgs2 hss2.2.1 hss2.2.2 hss2.1)) (fun _ => (ulS (ulS (ulC (ulC ulN))))) (fun xq121 hq122 => ?_)
     refine GH.takeG 27 (tj := 97) (v := (.bool false)) rfl rfl rfl (by kernel_rfl) (by kernel_rfl) (by kernel_rfl) (fun _ _ _ h => hQ _ _ _ _ _ h) (Ex.cast (Ex.not rfl) (congrArg Value.bool (congrArg (fun z => !z) (decide_eq_true (by exact hWs2))))) (ulS (ulS (ulC (ulC ulN)))) (by decide) ?_
     refine GH.take 28 (v := (.bool false)) rfl (by kernel_rfl) (by kernel_rfl) (by kernel_rfl) (fun _ _ _ h => hQ _ _ _ _ _ h) (Ex.pickF rfl rfl) (ulS (ulS (ulC (ulC ulN)))) (by decide) ?_
     refine GH.take 29 (v := (.bool false)) rfl (by kernel_rfl) (by kernel_rfl) (by kernel_rfl) (fun _ _ _ h => hQ _ _ _ _ _ h) (Ex.move rfl) (ulS (ulS (ulC (ulC ulN)))) (by decide) ?_
     refine GH.takeG 30 (tj := 105) (v := (.int .u32 b)) rfl rfl rfl (by kernel_rfl) (by kernel_rfl) (by kernel_rfl) (fun _ _ _ h => hQ _ _ _ _ _ h) (Ex.move rfl) (ulS (ulS (ulC (ulC ulN)))) (by decide) ?_
     refine GH.takeG 31 (tj := 105) (v := (.int .u32 b)) rfl rfl rfl (by kernel_rfl) (by kernel_rfl) (by kernel_rfl) (fun _ _ _ h => hQ _ _ _ _ _ h) (Ex.move rfl) (ulS (ulS (ulC (ulC ulN)))) (by decide) ?_
     refine GH.takeG 33 (tj := 105) (v := (.agg #[(.int .i64 2), (.bool false), (.slice (some ⟨b1, 0, none⟩) ((Nd.nd ((Bt.mant q).toNat * 5 * 2 ^ nd + 1 * 2 ^ md))) b2), (.int .i64 ed), (.bool false)])) rfl rfl rfl (by kernel_rfl) (by kernel_rfl) (by kernel_rfl) (fun _ _ _ h => hQ _ _ _ _ _ h) (Ex.loadA rfl T.ag38 T.sz38 (i := 0) rfl (vs := [(.int .i64 2), (.bool false), (.slice (some ⟨b1, 0, none⟩) ((Nd.nd ((Bt.mant q).toNat * 5 * 2 ^ nd + 1 * 2 ^ md))) b2), (.int .i64 ed), (.bool false)]) rfl rfl) (ulS (ulS (ulC (ulC ulN)))) (by decide) ?_
     refine GH.oneG 32 (tj := 105) rfl rfl rfl (by kernel_rfl) (Stp.callR (vs := [(.int .u32 b), (.int .u32 b)]) rfl rfl T.own34 (by decide) (fun wc hw => off_eq b b (Bt.expo b) 0 0 wc hFb.1 hFb.2 hFb.1 hFb.2 (by omega) (by omega) (.inl rfl) (by decide) (by decide) (by omega) (Lb.ne_not _) rfl)) (fun _ => (ulS (ulS (ulC (ulC ulN))))) (fun xq123 hq124 => ?_)
     refine GH.oneG 34 (tj := 105) rfl rfl rfl (by kernel_rfl) (Stp.callR (vs := [(.agg #[(.int .i64 2), (.bool false), (.slice none 0 0), (.int .i64 ((Bt.expo b))), (.bool false)]), (.agg #[(.int .i64 2), (.bool false), (.slice (some ⟨b1, 0, none⟩) ((Nd.nd ((Bt.mant q).toNat * 5 * 2 ^ nd + 1 * 2 ^ md))) b2), (.int .i64 ed), (.bool false)])]) rfl rfl T.own30 (by decide) (fun wc hw => within_n none 0 (((Bt.mant q).toNat * 5 * 2 ^ nd + 1 * 2 ^ md)) b1 b2 es3 ((Bt.expo b)) ed ns3 ms3 false false wc (Nd.Nb.of (hw.rdOf (i := 3) rfl 0) (Lb.nd_lt_of hj)) (Nat.le_trans (Sb.nd_bound hFq.1 hnd hmd) (by decide)) hes3 hfs3 hgs3 hss3.2.1 hss3.2.2 hss3.1)) (fun _ => (ulS (ulS (ulC (ulC ulN))))) (fun xq125 hq126 => ?_)
     refine GH.takeG 35 (tj := 105) (v := (.bool false)) rfl rfl rfl (by kernel_rfl) (by kernel_rfl) (by kernel_rfl) (fun _ _ _ h => hQ _ _ _ _ _ h) (Ex.cast (Ex.not rfl) rfl) (ulS (ulS (ulC (ulC ulN)))) (by decide) ?_
     refine GH.take 36 (v := (.bool false)) rfl (by kernel_rfl) (by kernel_rfl) (by kernel_rfl) (fun _ _ _ h => hQ _ _ _ _ _ h) (Ex.pickF rfl rfl) (ulS (ulS (ulC (ulC ulN)))) (by decide) ?_
     refine GH.done (by kernel_rfl) ?_
     refine GE.thenN ?_
     exact St.mk (()) trivial (idx := []) ((sub_cons rfl ((sub_cons rfl ((sub_cons rfl ((sub_cons rfl ((sub_cons rfl ((sub_nil _)))))))))))) (by decide) rfl
    exact K ju
   ·obtain ⟨ezs3, nzs3, mzs3, hezs3, hfzs3, hgzs3, hhzs3⟩ := Lb.mins (Bt.expo b) (Bt.expo z1)
    obtain ⟨es3, ns3, ms3, hes3, hfs3, hgs3, hhs3⟩ := Lb.mins ezs3 ed
    have hbz1 : nzs3 ≤ 300 ∧ mzs3 ≤ 300 := ⟨by omega, by omega⟩
    have hWs3 := Sb.bound_ok hc hFb.1 hFb.2 hFz1.1 hFz1.2 hFq.1 hFq.2 hezs3 hfzs3 hed hfd hes3 hfs3 (by omega) hNz1.2
    have hss3 : (-100000 ≤ es3 ∧ es3 ≤ 100000) ∧ ns3 ≤ 3000 ∧ ms3 ≤ 3000 := ⟨⟨by omega, by omega⟩, by omega, by omega⟩
    have hszs3 : (-100000 ≤ ezs3 ∧ ezs3 ≤ 100000) ∧ nzs3 ≤ 3000 ∧ mzs3 ≤ 3000 := ⟨⟨by omega, by omega⟩, by omega, by omega⟩
    clear hxz1
    refine GC.join (σ := Unit) (fun j => True) (fun j => [(0, (.int .u32 r)), (1, (.int .u32 g)), (2, (.int .u32 b)), (6, (.bool false)), (112, (.bool false))]) (fun j => []) ?_ (fun ju hj => ?_)
    ·refine GC.draw [⟨bb, [(.int .i64 2), (.bool false), (.slice (some ⟨b1, 0, none⟩) ((Nd.nd ((Bt.mant q).toNat * 5 * 2 ^ nd + 1 * 2 ^ md))) b2), (.int .i64 ed), (.bool false)], 38, true⟩, ⟨b1, (Nd.dl b2 ((Bt.mant q).toNat * 5 * 2 ^ nd + 1 * 2 ^ md)).map u32, 23, true⟩] T.mixed (fuel := 37) rfl rfl ?_
     refine GH.take 0 (v := (.int .u32 u1)) rfl (by kernel_rfl) (by kernel_rfl) (by kernel_rfl) (fun _ _ _ h => hQ _ _ _ _ _ h) (Ex.move rfl) (ulC (ulC ulN)) (by decide) ?_
     refine GH.one 1 rfl (by kernel_rfl) (Stp.callR (vs := [(.int .u32 u1)]) rfl rfl T.own28 (by decide) (fun wc hw => finite_l u1 wc hFu1.1)) (fun _ => (ulC (ulC ulN))) (fun xq127 hq128 => ?_)
     refine GH.take 2 (v := (.bool false)) rfl (by kernel_rfl) (by kernel_rfl) (by kernel_rfl) (fun _ _ _ h => hQ _ _ _ _ _ h) (Ex.cast (Ex.not rfl) (congrArg Value.bool (congrArg (fun z => !z) (decide_eq_true (by first | exact hfu | exact hfv | exact hfz | exact hFr.2 | exact hFg.2 | exact hFb.2))))) (ulC (ulC ulN)) (by decide) ?_
     refine GH.take 3 (v := (.bool false)) rfl (by kernel_rfl) (by kernel_rfl) (by kernel_rfl) (fun _ _ _ h => hQ _ _ _ _ _ h) (Ex.move rfl) (ulC (ulC ulN)) (by decide) ?_
     refine GH.takeG 4 (tj := 79) (v := (.int .u32 v1)) rfl rfl rfl (by kernel_rfl) (by kernel_rfl) (by kernel_rfl) (fun _ _ _ h => hQ _ _ _ _ _ h) (Ex.move rfl) (ulC (ulC ulN)) (by decide) ?_
     refine GH.oneG 5 (tj := 79) rfl rfl rfl (by kernel_rfl) (Stp.callR (vs := [(.int .u32 v1)]) rfl rfl T.own28 (by decide) (fun wc hw => finite_l v1 wc hFv1.1)) (fun _ => (ulC (ulC ulN))) (fun xq129 hq130 => ?_)
     refine GH.takeG 6 (tj := 79) (v := (.bool false)) rfl rfl rfl (by kernel_rfl) (by kernel_rfl) (by kernel_rfl) (fun _ _ _ h => hQ _ _ _ _ _ h) (Ex.cast (Ex.not rfl) (congrArg Value.bool (congrArg (fun z => !z) (decide_eq_true (by first | exact hfu | exact hfv | exact hfz | exact hFr.2 | exact hFg.2 | exact hFb.2))))) (ulC (ulC ulN)) (by decide) ?_
     refine GH.take 7 (v := (.bool false)) rfl (by kernel_rfl) (by kernel_rfl) (by kernel_rfl) (fun _ _ _ h => hQ _ _ _ _ _ h) (Ex.pickF rfl rfl) (ulC (ulC ulN)) (by decide) ?_
     refine GH.take 8 (v := (.bool false)) rfl (by kernel_rfl) (by kernel_rfl) (by kernel_rfl) (fun _ _ _ h => hQ _ _ _ _ _ h) (Ex.move rfl) (ulC (ulC ulN)) (by decide) ?_
     refine GH.takeG 9 (tj := 84) (v := (.int .u32 z1)) rfl rfl rfl (by kernel_rfl) (by kernel_rfl) (by kernel_rfl) (fun _ _ _ h => hQ _ _ _ _ _ h) (Ex.move rfl) (ulC (ulC ulN)) (by decide) ?_
     refine GH.oneG 10 (tj := 84) rfl rfl rfl (by kernel_rfl) (Stp.callR (vs := [(.int .u32 z1)]) rfl rfl T.own28 (by decide) (fun wc hw => finite_l z1 wc hFz1.1)) (fun _ => (ulC (ulC ulN))) (fun xq131 hq132 => ?_)
     refine GH.takeG 11 (tj := 84) (v := (.bool false)) rfl rfl rfl (by kernel_rfl) (by kernel_rfl) (by kernel_rfl) (fun _ _ _ h => hQ _ _ _ _ _ h) (Ex.cast (Ex.not rfl) (congrArg Value.bool (congrArg (fun z => !z) (decide_eq_true (by first | exact hfu | exact hfv | exact hfz | exact hFr.2 | exact hFg.2 | exact hFb.2))))) (ulC (ulC ulN)) (by decide) ?_
     refine GH.take 12 (v := (.bool false)) rfl (by kernel_rfl) (by kernel_rfl) (by kernel_rfl) (fun _ _ _ h => hQ _ _ _ _ _ h) (Ex.pickF rfl rfl) (ulC (ulC ulN)) (by decide) ?_
     refine GH.take 13 (v := (.bool false)) rfl (by kernel_rfl) (by kernel_rfl) (by kernel_rfl) (fun _ _ _ h => hQ _ _ _ _ _ h) (Ex.move rfl) (ulC (ulC ulN)) (by decide) ?_
     refine GH.takeG 14 (tj := 89) (v := (.int .u32 r)) rfl rfl rfl (by kernel_rfl) (by kernel_rfl) (by kernel_rfl) (fun _ _ _ h => hQ _ _ _ _ _ h) (Ex.move rfl) (ulC (ulC ulN)) (by decide) ?_
     refine GH.takeG 15 (tj := 89) (v := (.int .u32 u1)) rfl rfl rfl (by kernel_rfl) (by kernel_rfl) (by kernel_rfl) (fun _ _ _ h => hQ _ _ _ _ _ h) (Ex.move rfl) (ulC (ulC ulN)) (by decide) ?_
     refine GH.takeG 17 (tj := 89) (v := (.agg #[(.int .i64 2), (.bool false), (.slice (some ⟨b1, 0, none⟩) ((Nd.nd ((Bt.mant q).toNat * 5 * 2 ^ nd + 1 * 2 ^ md))) b2), (.int .i64 ed), (.bool false)])) rfl rfl rfl (by kernel_rfl) (by kernel_rfl) (by kernel_rfl) (fun _ _ _ h => hQ _ _ _ _ _ h) (Ex.loadA rfl T.ag38 T.sz38 (i := 0) rfl (vs := [(.int .i64 2), (.bool false), (.slice (some ⟨b1, 0, none⟩) ((Nd.nd ((Bt.mant q).toNat * 5 * 2 ^ nd + 1 * 2 ^ md))) b2), (.int .i64 ed), (.bool false)]) rfl rfl) (ulC (ulC ulN)) (by decide) ?_
     refine GH.oneG 16 (tj := 89) rfl rfl rfl (by kernel_rfl) (Stp.callR (vs := [(.int .u32 r), (.int .u32 u1)]) rfl rfl T.own34 (by decide) (fun wc hw => off_ne r u1 ezs1 nzs1 mzs1 wc hFr.1 hFr.2 hFu1.1 hFu1.2 hezs1 hfzs1 hgzs1 hszs1.2.1 hszs1.2.2 hszs1.1 s1)) (fun _ => (ulS (ulC (ulC ulN)))) (fun xq133 hq134 => ?_)
     refine GH.oneG 18 (tj := 89) rfl rfl rfl (by kernel_rfl) (Stp.callR (vs := [(.agg #[(.int .i64 2), (.bool false), (.slice (some ⟨xq133.1, 0, none⟩) ((Nd.nd (Lb.dfr (decide (r / 2147483648 % 2 = 1)) (decide (u1 / 2147483648 % 2 = 1)) ((Bt.mant r).toNat * 2 ^ nzs1) ((Bt.mant u1).toNat * 2 ^ mzs1)))) xq133.2), (.int .i64 ezs1), (.bool false)]), (.agg #[(.int .i64 2), (.bool false), (.slice (some ⟨b1, 0, none⟩) ((Nd.nd ((Bt.mant q).toNat * 5 * 2 ^ nd + 1 * 2 ^ md))) b2), (.int .i64 ed), (.bool false)])]) rfl rfl T.own30 (by decide) (fun wc hw => within_b ((Lb.dfr (decide (r / 2147483648 % 2 = 1)) (decide (u1 / 2147483648 % 2 = 1)) ((Bt.mant r).toNat * 2 ^ nzs1) ((Bt.mant u1).toNat * 2 ^ mzs1))) xq133.1 xq133.2 (((Bt.mant q).toNat * 5 * 2 ^ nd + 1 * 2 ^ md)) b1 b2 es1 ezs1 ed ns1 ms1 false false wc (Nd.Nb.of (hw.rdOf (i := 0) rfl 0) (Lb.nd_lt_of hq134)) (Nat.le_trans (Lb.dfr_nd hFr.1 hFu1.1 hbu1.1 hbu1.2 _ _) (by decide)) (Nd.Nb.of (hw.rdOf (i := 2) rfl 0) (Lb.nd_lt_of hj)) (Nat.le_trans (Sb.nd_bound hFq.1 hnd hmd) (by decide)) hes1 hfs1 hgs1 hss1.2.1 hss1.2.2 hss1.1)) (fun _ => (ulS (ulC (ulC ulN)))) (fun xq135 hq136 => ?_)
     refine GH.takeG 19 (tj := 89) (v := (.bool false)) rfl rfl rfl (by kernel_rfl) (by kernel_rfl) (by kernel_rfl) (fun _ _ _ h => hQ _ _ _ _ _ h) (Ex.cast (Ex.not rfl) (congrArg Value.bool (congrArg (fun z => !z) (decide_eq_true (by exact hWs1))))) (ulS (ulC (ulC ulN))) (by decide) ?_
     refine GH.take 20 (v := (.bool false)) rfl (by kernel_rfl) (by kernel_rfl) (by kernel_rfl) (fun _ _ _ h => hQ _ _ _ _ _ h) (Ex.pickF rfl rfl) (ulS (ulC (ulC ulN))) (by decide) ?_
     refine GH.take 21 (v := (.bool false)) rfl (by kernel_rfl) (by kernel_rfl) (by kernel_rfl) (fun _ _ _ h => hQ _ _ _ _ _ h) (Ex.move rfl) (ulS (ulC (ulC ulN))) (by decide) ?_
     refine GH.takeG 22 (tj := 97) (v := (.int .u32 g)) rfl rfl rfl (by kernel_rfl) (by kernel_rfl) (by kernel_rfl) (fun _ _ _ h => hQ _ _ _ _ _ h) (Ex.move rfl) (ulS (ulC (ulC ulN))) (by decide) ?_
     refine GH.takeG 23 (tj := 97) (v := (.int .u32 v1)) rfl rfl rfl (by kernel_rfl) (by kernel_rfl) (by kernel_rfl) (fun _ _ _ h => hQ _ _ _ _ _ h) (Ex.move rfl) (ulS (ulC (ulC ulN))) (by decide) ?_
     refine GH.takeG 25 (tj := 97) (v := (.agg #[(.int .i64 2), (.bool false), (.slice (some ⟨b1, 0, none⟩) ((Nd.nd ((Bt.mant q).toNat * 5 * 2 ^ nd + 1 * 2 ^ md))) b2), (.int .i64 ed), (.bool false)])) rfl rfl rfl (by kernel_rfl) (by kernel_rfl) (by kernel_rfl) (fun _ _ _ h => hQ _ _ _ _ _ h) (Ex.loadA rfl T.ag38 T.sz38 (i := 0) rfl (vs := [(.int .i64 2), (.bool false), (.slice (some ⟨b1, 0, none⟩) ((Nd.nd ((Bt.mant q).toNat * 5 * 2 ^ nd + 1 * 2 ^ md))) b2), (.int .i64 ed), (.bool false)]) rfl rfl) (ulS (ulC (ulC ulN))) (by decide) ?_
     refine GH.oneG 24 (tj := 97) rfl rfl rfl (by kernel_rfl) (Stp.callR (vs := [(.int .u32 g), (.int .u32 v1)]) rfl rfl T.own34 (by decide) (fun wc hw => off_ne g v1 ezs2 nzs2 mzs2 wc hFg.1 hFg.2 hFv1.1 hFv1.2 hezs2 hfzs2 hgzs2 hszs2.2.1 hszs2.2.2 hszs2.1 s2)) (fun _ => (ulS (ulS (ulC (ulC ulN))))) (fun xq137 hq138 => ?_)
     refine GH.oneG 26 (tj := 97) rfl rfl rfl (by kernel_rfl) (Stp.callR (vs := [(.agg #[(.int .i64 2), (.bool false), (.slice (some ⟨xq137.1, 0, none⟩) ((Nd.nd (Lb.dfr (decide (g / 2147483648 % 2 = 1)) (decide (v1 / 2147483648 % 2 = 1)) ((Bt.mant g).toNat * 2 ^ nzs2) ((Bt.mant v1).toNat * 2 ^ mzs2)))) xq137.2), (.int .i64 ezs2), (.bool false)]), (.agg #[(.int .i64 2), (.bool false), (.slice (some ⟨b1, 0, none⟩) ((Nd.nd ((Bt.mant q).toNat * 5 * 2 ^ nd + 1 * 2 ^ md))) b2), (.int .i64 ed), (.bool false)])]) rfl rfl T.own30 (by decide) (fun wc hw => within_b ((Lb.dfr (decide (g / 2147483648 % 2 = 1)) (decide (v1 / 2147483648 % 2 = 1)) ((Bt.mant g).toNat * 2 ^ nzs2) ((Bt.mant v1).toNat * 2 ^ mzs2))) xq137.1 xq137.2 (((Bt.mant q).toNat * 5 * 2 ^ nd + 1 * 2 ^ md)) b1 b2 es2 ezs2 ed ns2 ms2 false false wc (Nd.Nb.of (hw.rdOf (i := 0) rfl 0) (Lb.nd_lt_of hq138)) (Nat.le_trans (Lb.dfr_nd hFg.1 hFv1.1 hbv1.1 hbv1.2 _ _) (by decide)) (Nd.Nb.of (hw.rdOf (i := 3) rfl 0) (Lb.nd_lt_of hj)) (Nat.le_trans (Sb.nd_bound hFq.1 hnd hmd) (by decide)) hes2 hfs2 hgs2 hss2.2.1 hss2.2.2 hss2.1)) (fun _ => (ulS (ulS (ulC (ulC ulN))))) (fun xq139 hq140 => ?_)
     refine GH.takeG 27 (tj := 97) (v := (.bool false)) rfl rfl rfl (by kernel_rfl) (by kernel_rfl) (by kernel_rfl) (fun _ _ _ h => hQ _ _ _ _ _ h) (Ex.cast (Ex.not rfl) (congrArg Value.bool (congrArg (fun z => !z) (decide_eq_true (by exact hWs2))))) (ulS (ulS (ulC (ulC ulN)))) (by decide) ?_
     refine GH.take 28 (v := (.bool false)) rfl (by kernel_rfl) (by kernel_rfl) (by kernel_rfl) (fun _ _ _ h => hQ _ _ _ _ _ h) (Ex.pickF rfl rfl) (ulS (ulS (ulC (ulC ulN)))) (by decide) ?_
     refine GH.take 29 (v := (.bool false)) rfl (by kernel_rfl) (by kernel_rfl) (by kernel_rfl) (fun _ _ _ h => hQ _ _ _ _ _ h) (Ex.move rfl) (ulS (ulS (ulC (ulC ulN)))) (by decide) ?_
     refine GH.takeG 30 (tj := 105) (v := (.int .u32 b)) rfl rfl rfl (by kernel_rfl) (by kernel_rfl) (by kernel_rfl) (fun _ _ _ h => hQ _ _ _ _ _ h) (Ex.move rfl) (ulS (ulS (ulC (ulC ulN)))) (by decide) ?_
     refine GH.takeG 31 (tj := 105) (v := (.int .u32 z1)) rfl rfl rfl (by kernel_rfl) (by kernel_rfl) (by kernel_rfl) (fun _ _ _ h => hQ _ _ _ _ _ h) (Ex.move rfl) (ulS (ulS (ulC (ulC ulN)))) (by decide) ?_
     refine GH.takeG 33 (tj := 105) (v := (.agg #[(.int .i64 2), (.bool false), (.slice (some ⟨b1, 0, none⟩) ((Nd.nd ((Bt.mant q).toNat * 5 * 2 ^ nd + 1 * 2 ^ md))) b2), (.int .i64 ed), (.bool false)])) rfl rfl rfl (by kernel_rfl) (by kernel_rfl) (by kernel_rfl) (fun _ _ _ h => hQ _ _ _ _ _ h) (Ex.loadA rfl T.ag38 T.sz38 (i := 0) rfl (vs := [(.int .i64 2), (.bool false), (.slice (some ⟨b1, 0, none⟩) ((Nd.nd ((Bt.mant q).toNat * 5 * 2 ^ nd + 1 * 2 ^ md))) b2), (.int .i64 ed), (.bool false)]) rfl rfl) (ulS (ulS (ulC (ulC ulN)))) (by decide) ?_
     refine GH.oneG 32 (tj := 105) rfl rfl rfl (by kernel_rfl) (Stp.callR (vs := [(.int .u32 b), (.int .u32 z1)]) rfl rfl T.own34 (by decide) (fun wc hw => off_ne b z1 ezs3 nzs3 mzs3 wc hFb.1 hFb.2 hFz1.1 hFz1.2 hezs3 hfzs3 hgzs3 hszs3.2.1 hszs3.2.2 hszs3.1 s3)) (fun _ => (ulS (ulS (ulS (ulC (ulC ulN)))))) (fun xq141 hq142 => ?_)
     refine GH.oneG 34 (tj := 105) rfl rfl rfl (by kernel_rfl) (Stp.callR (vs := [(.agg #[(.int .i64 2), (.bool false), (.slice (some ⟨xq141.1, 0, none⟩) ((Nd.nd (Lb.dfr (decide (b / 2147483648 % 2 = 1)) (decide (z1 / 2147483648 % 2 = 1)) ((Bt.mant b).toNat * 2 ^ nzs3) ((Bt.mant z1).toNat * 2 ^ mzs3)))) xq141.2), (.int .i64 ezs3), (.bool false)]), (.agg #[(.int .i64 2), (.bool false), (.slice (some ⟨b1, 0, none⟩) ((Nd.nd ((Bt.mant q).toNat * 5 * 2 ^ nd + 1 * 2 ^ md))) b2), (.int .i64 ed), (.bool false)])]) rfl rfl T.own30 (by decide) (fun wc hw => within_b ((Lb.dfr (decide (b / 2147483648 % 2 = 1)) (decide (z1 / 2147483648 % 2 = 1)) ((Bt.mant b).toNat * 2 ^ nzs3) ((Bt.mant z1).toNat * 2 ^ mzs3))) xq141.1 xq141.2 (((Bt.mant q).toNat * 5 * 2 ^ nd + 1 * 2 ^ md)) b1 b2 es3 ezs3 ed ns3 ms3 false false wc (Nd.Nb.of (hw.rdOf (i := 0) rfl 0) (Lb.nd_lt_of hq142)) (Nat.le_trans (Lb.dfr_nd hFb.1 hFz1.1 hbz1.1 hbz1.2 _ _) (by decide)) (Nd.Nb.of (hw.rdOf (i := 4) rfl 0) (Lb.nd_lt_of hj)) (Nat.le_trans (Sb.nd_bound hFq.1 hnd hmd) (by decide)) hes3 hfs3 hgs3 hss3.2.1 hss3.2.2 hss3.1)) (fun _ => (ulS (ulS (ulS (ulC (ulC ulN)))))) (fun xq143 hq144 => ?_)
     refine GH.takeG 35 (tj := 105) (v := (.bool false)) rfl rfl rfl (by kernel_rfl) (by kernel_rfl) (by kernel_rfl) (fun _ _ _ h => hQ _ _ _ _ _ h) (Ex.cast (Ex.not rfl) (congrArg Value.bool (congrArg (fun z => !z) (decide_eq_true (by exact hWs3))))) (ulS (ulS (ulS (ulC (ulC ulN))))) (by decide) ?_
     refine GH.take 36 (v := (.bool false)) rfl (by kernel_rfl) (by kernel_rfl) (by kernel_rfl) (fun _ _ _ h => hQ _ _ _ _ _ h) (Ex.pickF rfl rfl) (ulS (ulS (ulS (ulC (ulC ulN))))) (by decide) ?_
     refine GH.done (by kernel_rfl) ?_
     refine GE.thenN ?_
     exact St.mk (()) trivial (idx := []) ((sub_cons rfl ((sub_cons rfl ((sub_cons rfl ((sub_cons rfl ((sub_cons rfl ((sub_nil _)))))))))))) (by decide) rfl
    exact K ju

set_option maxRecDepth 100000 in
set_option maxHeartbeats 1000000 in
theorem lawBack (r g b : Int) (w : World) (hr : 0 ≤ r ∧ r < 4294967296) (hg : 0 ≤ g ∧ g < 4294967296) (hb : 0 ≤ b ∧ b < 4294967296) :
  Calls Try.prog 8 #[(.int .u32 r), (.int .u32 g), (.int .u32 b)] w (Ret w (fun _ : Unit => True) (fun _ => .bool true) (fun _ => [])) := by
 refine enter (M := None) (L := []) (n := 155) (l := [(0, (.int .u32 r)), (1, (.int .u32 g)), (2, (.int .u32 b))]) Try.func8 rfl rfl (Args.cons rfl (Args.cons rfl (Args.cons rfl (Args.nil _)))) (Hp.start _ _) ?_
 refine GC.seq ?_
 refine GC.region ?_
 refine GL.val (Ex.assign rfl) (by decide) ?_
 refine GL.nil ?_
 refine GE.thenN ?_
 refine GC.seq ?_
 refine GC.seq ?_
 refine GC.region ?_
 refine GL.step (Stp.callR (vs := []) rfl rfl T.own13 (by decide) (fun wc hw => known wc)) (fun xq1 hq2 => ?_)
 refine GL.val (v := (.bool false)) (Ex.cast (Ex.not rfl) rfl) (by decide) ?_
 refine GL.nil ?_
 refine GE.thenN ?_
 refine GC.cond rfl (fun hq3 => by cases hq3) (fun _ => ?_)
 refine GC.skip ?_
 refine GE.thenN ?_
 refine GC.seq ?_
 refine GC.seq ?_
 refine GC.region ?_
 refine GL.val (Ex.move rfl) (by decide) ?_
 refine GL.step (Stp.callR (vs := [(.int .u32 r)]) rfl rfl T.own28 (by decide) (fun wc hw => finite_l r wc (by first | assumption | omega | exact Bt.lst_bd (by assumption) (by assumption) | exact Bt.gst_bd (by assumption) (by assumption) | exact Bt.key_bd (by assumption) | exact Bt.unkey_bd (by assumption) | exact Bt.nxt_bd (by assumption) | exact Bt.lst_bd (Bt.gst_bd (by assumption) (by assumption)) (by assumption) | exact Bt.btw_bd (by assumption) (Bt.lst_bd (by assumption) (by assumption)) (Bt.gst_bd (by assumption) (by assumption))))) (fun xq4 hq5 => ?_)
 by_cases hq6 : (r % 2147483648 < 2139095040)
 ·refine GL.val (v := (.bool false)) (Ex.cast (Ex.not rfl) (congrArg Value.bool (congrArg (fun z => !z) (decide_eq_true hq6)))) (by decide) ?_
  refine GL.val (Ex.move rfl) (by decide) ?_
  refine GL.stepG (tj := 20) rfl rfl (Ex.wp (v := (.int .u32 g)) (Ex.move rfl) (by decide)) (fun _ _ => ?_)
  refine GL.stepG (tj := 20) rfl rfl (Stp.callR (vs := [(.int .u32 g)]) rfl rfl T.own28 (by decide) (fun wc hw => finite_l g wc (by first | assumption | omega | exact Bt.lst_bd (by assumption) (by assumption) | exact Bt.gst_bd (by assumption) (by assumption) | exact Bt.key_bd (by assumption) | exact Bt.unkey_bd (by assumption) | exact Bt.nxt_bd (by assumption) | exact Bt.lst_bd (Bt.gst_bd (by assumption) (by assumption)) (by assumption) | exact Bt.btw_bd (by assumption) (Bt.lst_bd (by assumption) (by assumption)) (Bt.gst_bd (by assumption) (by assumption))))) (fun xq7 hq8 => ?_)
  by_cases hq9 : (g % 2147483648 < 2139095040)
  ·refine GL.stepG (tj := 20) rfl rfl (Ex.wp (v := (.bool false)) (Ex.cast (Ex.not rfl) (congrArg Value.bool (congrArg (fun z => !z) (decide_eq_true hq9)))) (by decide)) (fun _ _ => ?_)
   refine GL.val (v := (.bool false)) (Ex.pickF rfl rfl) (by decide) ?_
   refine GL.val (Ex.move rfl) (by decide) ?_
   refine GL.stepG (tj := 25) rfl rfl (Ex.wp (v := (.int .u32 b)) (Ex.move rfl) (by decide)) (fun _ _ => ?_)
   refine GL.stepG (tj := 25) rfl rfl (Stp.callR (vs := [(.int .u32 b)]) rfl rfl T.own28 (by decide) (fun wc hw => finite_l b wc (by first | assumption | omega | exact Bt.lst_bd (by assumption) (by assumption) | exact Bt.gst_bd (by assumption) (by assumption) | exact Bt.key_bd (by assumption) | exact Bt.unkey_bd (by assumption) | exact Bt.nxt_bd (by assumption) | exact Bt.lst_bd (Bt.gst_bd (by assumption) (by assumption)) (by assumption) | exact Bt.btw_bd (by assumption) (Bt.lst_bd (by assumption) (by assumption)) (Bt.gst_bd (by assumption) (by assumption))))) (fun xq10 hq11 => ?_)
   refine GL.stepG (tj := 25) rfl rfl (Ex.wp (v := (.bool (!(decide (b % 2147483648 < 2139095040))))) (Ex.not rfl) (by decide)) (fun _ _ => ?_)
   refine GL.val (v := (.bool (!(decide (b % 2147483648 < 2139095040))))) (Ex.pickF rfl rfl) (by decide) ?_
   refine GL.nil ?_
   refine GE.thenN ?_
   refine GC.cond rfl (fun hq12 => ?_) (fun hq12 => ?_)
   ·replace hq12 := of_decide_eq_false ((Bool.not_eq_true' _).mp hq12)
    refine GC.seq ?_
    refine GC.region ?_
    refine GL.val (Ex.assign rfl) (by decide) ?_
    refine GL.nil ?_
    refine GE.thenN ?_
    refine GC.ret ?_
    refine GE.thenR ?_
    refine GC.ret1 rfl (Rv.tmp rfl) (fun wN HN => ?_)
    exact HN.ret () trivial (by first | rfl | simp) (List.nil_sublist _) rfl
   ·replace hq12 := of_decide_eq_true ((Bool.not_eq_false' _).mp hq12)
    refine GC.skip ?_
    refine GE.thenN ?_
    refine GC.seq ?_
    have hFr : Sb.Fn r := ⟨by omega, by omega⟩
    have hxr := Lb.expo_bd hFr.1 hFr.2
    have hFg : Sb.Fn g := ⟨by omega, by omega⟩
    have hxg := Lb.expo_bd hFg.1 hFg.2
    have hFb : Sb.Fn b := ⟨by omega, by omega⟩
    have hxb := Lb.expo_bd hFb.1 hFb.2
    have lr_r : Sb.Le r r := Nat.le_refl _
    refine GC.region ?_
    refine GL.val (Ex.move rfl) (by decide) ?_
    refine GL.step (Stp.callR (vs := [(.int .u32 r)]) rfl rfl T.own29 (by decide) (fun wc hw => size_l r wc hFr.1 hFr.2)) (fun xq13 hq14 => ?_)
    refine GL.step (Stp.alloc T.zr38 (by decide)) (fun bq15 _ => ?_)
    refine GL.step (Stp.st0 (cs' := [(.int .i64 2), (.bool false), (.slice (some ⟨xq13, 0, none⟩) ((Nd.nd (Bt.mant r).toNat)) 2), (.int .i64 ((Bt.expo r))), (.bool false)]) rfl rfl rfl T.sz38 rfl rfl rfl) (fun _ _ => ?_)
    refine GL.nil ?_
    refine GE.thenN ?_
    refine GC.seq ?_
    refine GC.seq ?_
    obtain ⟨ea, na, ma, hea, hfa, hga, hha⟩ := Lb.mins (Bt.expo r) (Bt.expo g)
    refine GC.draw [⟨bq15, [(.int .i64 2), (.bool false), (.slice (some ⟨xq13, 0, none⟩) ((Nd.nd (Bt.mant r).toNat)) 2), (.int .i64 ((Bt.expo r))), (.bool false)], 38, true⟩, ⟨xq13, [(.int .u32 ((((Bt.mant r).toNat : Nat) : Int))), (.int .u32 0)], 23, true⟩] T.mixed (fuel := 4) rfl rfl ?_
    refine GH.take 0 (v := (.agg #[(.int .i64 2), (.bool false), (.slice (some ⟨xq13, 0, none⟩) ((Nd.nd (Bt.mant r).toNat)) 2), (.int .i64 ((Bt.expo r))), (.bool false)])) rfl (by kernel_rfl) (by kernel_rfl) (by kernel_rfl) (fun _ _ _ h => h) (Ex.loadA rfl T.ag38 T.sz38 (i := 0) rfl (vs := [(.int .i64 2), (.bool false), (.slice (some ⟨xq13, 0, none⟩) ((Nd.nd (Bt.mant r).toNat)) 2), (.int .i64 ((Bt.expo r))), (.bool false)]) rfl rfl) (ulC (ulC ulN)) (by decide) ?_
    refine GH.take 1 (v := (.int .u32 g)) rfl (by kernel_rfl) (by kernel_rfl) (by kernel_rfl) (fun _ _ _ h => h) (Ex.move rfl) (ulC (ulC ulN)) (by decide) ?_
    refine GH.one 2 rfl (by kernel_rfl) (Stp.callR (vs := [(.int .u32 g)]) rfl rfl T.own29 (by decide) (fun wc hw => size_l g wc hFg.1 hFg.2)) (fun _ => (ulS (ulC (ulC ulN)))) (fun xq20 hq21 => ?_)
    refine GH.one 3 rfl (by kernel_rfl) (Stp.callR (vs := [(.agg #[(.int .i64 2), (.bool false), (.slice (some ⟨xq13, 0, none⟩) ((Nd.nd (Bt.mant r).toNat)) 2), (.int .i64 ((Bt.expo r))), (.bool false)]), (.agg #[(.int .i64 2), (.bool false), (.slice (some ⟨xq20, 0, none⟩) ((Nd.nd (Bt.mant g).toNat)) 2), (.int .i64 ((Bt.expo g))), (.bool false)])]) rfl rfl T.own30 (by decide) (fun wc hw => within_b ((Bt.mant r).toNat) xq13 2 ((Bt.mant g).toNat) xq20 2 ea ((Bt.expo r)) ((Bt.expo g)) na ma false false wc (Nd.Nb.one (Lg.rd1 (hw.rdOf (i := 2) rfl 0)) (Sb.mant32 _)) (Nat.le_trans (Sb.nd_mant _) (by decide)) (Nd.Nb.one (Lg.rd1 (hw.rdOf (i := 0) rfl 0)) (Sb.mant32 _)) (Nat.le_trans (Sb.nd_mant _) (by decide)) hea hfa hga (by omega) (by omega) (by omega))) (fun _ => (ulS (ulC (ulC ulN)))) (fun xq22 hq23 => ?_)
    refine GH.done (by kernel_rfl) ?_
    refine GE.thenN ?_
    refine GC.join (σ := Int × Nat) (fun j => Sb.Fn j.1 ∧ Sb.Le r j.1 ∧ Sb.Le g j.1) (fun j => [(0, (.int .u32 r)), (1, (.int .u32 g)), (2, (.int .u32 b)), (6, (.bool false)), (7, (.pointer (some ⟨bq15, 0, none⟩)))]) (fun j => [⟨bq15, [(.int .i64 2), (.bool false), (.slice (some ⟨j.2, 0, none⟩) ((Nd.nd (Bt.mant j.1).toNat)) 2), (.int .i64 ((Bt.expo j.1))), (.bool false)], 38, true⟩, ⟨j.2, [(.int .u32 ((((Bt.mant j.1).toNat : Nat) : Int))), (.int .u32 0)], 23, true⟩]) ?_ (fun j1 hj => ?_)
    ·refine GC.cond rfl (fun hq24 => ?_) (fun hq24 => ?_)
     ·replace hq24 := of_decide_eq_true hq24
      refine GC.region ?_
      refine GL.val (Ex.move rfl) (by decide) ?_
      refine GL.step (Stp.callR (vs := [(.int .u32 g)]) rfl rfl T.own29 (by decide) (fun wc hw => size_l g wc hFg.1 hFg.2)) (fun xq25 hq26 => ?_)
      refine GL.step (Stp.st2 (cs' := [(.int .i64 2), (.bool false), (.slice (some ⟨xq25, 0, none⟩) ((Nd.nd (Bt.mant g).toNat)) 2), (.int .i64 ((Bt.expo g))), (.bool false)]) rfl rfl rfl T.sz38 rfl rfl rfl) (fun _ _ => ?_)
      refine GL.nil ?_
      refine GE.thenN ?_
      exact St.mk ((g, xq25)) ⟨hFg, Nat.le_trans lr_r ((Sb.size_le hFr.1 hFr.2 hFg.1 hFg.2 hea hfa (by omega)).1 hq24), Nat.le_refl _⟩ (idx := [2, 0]) ((sub_cons rfl ((sub_cons rfl ((sub_cons rfl ((sub_cons rfl ((sub_cons rfl ((sub_nil _)))))))))))) (by decide) rfl
     ·replace hq24 := of_decide_eq_false hq24
      refine GC.skip ?_
      refine GE.thenN ?_
      exact St.mk ((r, xq13)) ⟨hFr, lr_r, Nat.le_of_lt (Nat.lt_of_not_le (fun q => hq24 ((Sb.size_le hFr.1 hFr.2 hFg.1 hFg.2 hea hfa (by omega)).2 q)))⟩ (idx := [1, 2]) ((sub_cons rfl ((sub_cons rfl ((sub_cons rfl ((sub_cons rfl ((sub_cons rfl ((sub_nil _)))))))))))) (by decide) rfl
    obtain ⟨hFq1, lr_q1, lg_q1⟩ := hj
    have hxq1 := Lb.expo_bd hFq1.1 hFq1.2
    refine GE.thenN ?_
    refine GC.seq ?_
    refine GC.seq ?_
    obtain ⟨eb, nb, mb, heb, hfb, hgb, hhb⟩ := Lb.mins (Bt.expo j1.1) (Bt.expo b)
    refine GC.draw [⟨bq15, [(.int .i64 2), (.bool false), (.slice (some ⟨j1.2, 0, none⟩) ((Nd.nd (Bt.mant j1.1).toNat)) 2), (.int .i64 ((Bt.expo j1.1))), (.bool false)], 38, true⟩, ⟨j1.2, [(.int .u32 ((((Bt.mant j1.1).toNat : Nat) : Int))), (.int .u32 0)], 23, true⟩] T.mixed (fuel := 4) rfl rfl ?_
    refine GH.take 0 (v := (.agg #[(.int .i64 2), (.bool false), (.slice (some ⟨j1.2, 0, none⟩) ((Nd.nd (Bt.mant j1.1).toNat)) 2), (.int .i64 ((Bt.expo j1.1))), (.bool false)])) rfl (by kernel_rfl) (by kernel_rfl) (by kernel_rfl) (fun _ _ _ h => h) (Ex.loadA rfl T.ag38 T.sz38 (i := 0) rfl (vs := [(.int .i64 2), (.bool false), (.slice (some ⟨j1.2, 0, none⟩) ((Nd.nd (Bt.mant j1.1).toNat)) 2), (.int .i64 ((Bt.expo j1.1))), (.bool false)]) rfl rfl) (ulC (ulC ulN)) (by decide) ?_
    refine GH.take 1 (v := (.int .u32 b)) rfl (by kernel_rfl) (by kernel_rfl) (by kernel_rfl) (fun _ _ _ h => h) (Ex.move rfl) (ulC (ulC ulN)) (by decide) ?_
    refine GH.one 2 rfl (by kernel_rfl) (Stp.callR (vs := [(.int .u32 b)]) rfl rfl T.own29 (by decide) (fun wc hw => size_l b wc hFb.1 hFb.2)) (fun _ => (ulS (ulC (ulC ulN)))) (fun xq31 hq32 => ?_)
    refine GH.one 3 rfl (by kernel_rfl) (Stp.callR (vs := [(.agg #[(.int .i64 2), (.bool false), (.slice (some ⟨j1.2, 0, none⟩) ((Nd.nd (Bt.mant j1.1).toNat)) 2), (.int .i64 ((Bt.expo j1.1))), (.bool false)]), (.agg #[(.int .i64 2), (.bool false), (.slice (some ⟨xq31, 0, none⟩) ((Nd.nd (Bt.mant b).toNat)) 2), (.int .i64 ((Bt.expo b))), (.bool false)])]) rfl rfl T.own30 (by decide) (fun wc hw => within_b ((Bt.mant j1.1).toNat) j1.2 2 ((Bt.mant b).toNat) xq31 2 eb ((Bt.expo j1.1)) ((Bt.expo b)) nb mb false false wc (Nd.Nb.one (Lg.rd1 (hw.rdOf (i := 2) rfl 0)) (Sb.mant32 _)) (Nat.le_trans (Sb.nd_mant _) (by decide)) (Nd.Nb.one (Lg.rd1 (hw.rdOf (i := 0) rfl 0)) (Sb.mant32 _)) (Nat.le_trans (Sb.nd_mant _) (by decide)) heb hfb hgb (by omega) (by omega) (by omega))) (fun _ => (ulS (ulC (ulC ulN)))) (fun xq33 hq34 => ?_)
    refine GH.done (by kernel_rfl) ?_
    refine GE.thenN ?_
    refine GC.join (σ := Int × Nat) (fun j => Sb.Fn j.1 ∧ Sb.Le r j.1 ∧ Sb.Le g j.1 ∧ Sb.Le b j.1) (fun j => [(0, (.int .u32 r)), (1, (.int .u32 g)), (2, (.int .u32 b)), (6, (.bool false)), (7, (.pointer (some ⟨bq15, 0, none⟩)))]) (fun j => [⟨bq15, [(.int .i64 2), (.bool false), (.slice (some ⟨j.2, 0, none⟩) ((Nd.nd (Bt.mant j.1).toNat)) 2), (.int .i64 ((Bt.expo j.1))), (.bool false)], 38, true⟩, ⟨j.2, [(.int .u32 ((((Bt.mant j.1).toNat : Nat) : Int))), (.int .u32 0)], 23, true⟩]) ?_ (fun j2 hj => ?_)
    ·refine GC.cond rfl (fun hq35 => ?_) (fun hq35 => ?_)
     ·replace hq35 := of_decide_eq_true hq35
      refine GC.region ?_
      refine GL.val (Ex.move rfl) (by decide) ?_
      refine GL.step (Stp.callR (vs := [(.int .u32 b)]) rfl rfl T.own29 (by decide) (fun wc hw => size_l b wc hFb.1 hFb.2)) (fun xq36 hq37 => ?_)
      refine GL.step (Stp.st2 (cs' := [(.int .i64 2), (.bool false), (.slice (some ⟨xq36, 0, none⟩) ((Nd.nd (Bt.mant b).toNat)) 2), (.int .i64 ((Bt.expo b))), (.bool false)]) rfl rfl rfl T.sz38 rfl rfl rfl) (fun _ _ => ?_)
      refine GL.nil ?_
      refine GE.thenN ?_
      exact St.mk ((b, xq36)) ⟨hFb, Nat.le_trans lr_q1 ((Sb.size_le hFq1.1 hFq1.2 hFb.1 hFb.2 heb hfb (by omega)).1 hq35), Nat.le_trans lg_q1 ((Sb.size_le hFq1.1 hFq1.2 hFb.1 hFb.2 heb hfb (by omega)).1 hq35), Nat.le_refl _⟩ (idx := [2, 0]) ((sub_cons rfl ((sub_cons rfl ((sub_cons rfl ((sub_cons rfl ((sub_cons rfl ((sub_nil _)))))))))))) (by decide) rfl
     ·replace hq35 := of_decide_eq_false hq35
      refine GC.skip ?_
      refine GE.thenN ?_
      exact St.mk ((j1.1, j1.2)) ⟨hFq1, lr_q1, lg_q1, Nat.le_of_lt (Nat.lt_of_not_le (fun q => hq35 ((Sb.size_le hFq1.1 hFq1.2 hFb.1 hFb.2 heb hfb (by omega)).2 q)))⟩ (idx := [1, 2]) ((sub_cons rfl ((sub_cons rfl ((sub_cons rfl ((sub_cons rfl ((sub_cons rfl ((sub_nil _)))))))))))) (by decide) rfl
    obtain ⟨hFq2, lr_q2, lg_q2, lb_q2⟩ := hj
    have hxq2 := Lb.expo_bd hFq2.1 hFq2.2
    refine GE.thenN ?_
    refine GC.seq ?_
    refine GC.seq ?_
    obtain ⟨ec, nc, mc, hec, hfc, hgc, hhc⟩ := Lb.mins (Bt.expo j2.1) 100
    refine GC.draw [⟨bq15, [(.int .i64 2), (.bool false), (.slice (some ⟨j2.2, 0, none⟩) ((Nd.nd (Bt.mant j2.1).toNat)) 2), (.int .i64 ((Bt.expo j2.1))), (.bool false)], 38, true⟩, ⟨j2.2, [(.int .u32 ((((Bt.mant j2.1).toNat : Nat) : Int))), (.int .u32 0)], 23, true⟩] T.mixed (fuel := 4) rfl rfl ?_
    refine GH.take 0 (v := (.agg #[(.int .i64 2), (.bool false), (.slice (some ⟨j2.2, 0, none⟩) ((Nd.nd (Bt.mant j2.1).toNat)) 2), (.int .i64 ((Bt.expo j2.1))), (.bool false)])) rfl (by kernel_rfl) (by kernel_rfl) (by kernel_rfl) (fun _ _ _ h => h) (Ex.loadA rfl T.ag38 T.sz38 (i := 0) rfl (vs := [(.int .i64 2), (.bool false), (.slice (some ⟨j2.2, 0, none⟩) ((Nd.nd (Bt.mant j2.1).toNat)) 2), (.int .i64 ((Bt.expo j2.1))), (.bool false)]) rfl rfl) (ulC (ulC ulN)) (by decide) ?_
    refine GH.one 1 rfl (by kernel_rfl) (Stp.callR (vs := [(.int .i64 100)]) rfl rfl T.own31 (by decide) (fun wc hw => power_l 100 wc)) (fun _ => (ulS (ulC (ulC ulN)))) (fun xq42 hq43 => ?_)
    refine GH.one 2 rfl (by kernel_rfl) (Stp.callR (vs := [(.agg #[(.int .i64 2), (.bool false), (.slice (some ⟨j2.2, 0, none⟩) ((Nd.nd (Bt.mant j2.1).toNat)) 2), (.int .i64 ((Bt.expo j2.1))), (.bool false)]), (.agg #[(.int .i64 2), (.bool false), (.slice (some ⟨xq42, 0, none⟩) ((Nd.nd 1)) 2), (.int .i64 100), (.bool false)])]) rfl rfl T.own30 (by decide) (fun wc hw => within_b ((Bt.mant j2.1).toNat) j2.2 2 1 xq42 2 ec ((Bt.expo j2.1)) 100 nc mc false false wc (Nd.Nb.one (Lg.rd1 (hw.rdOf (i := 2) rfl 0)) (Sb.mant32 _)) (Nat.le_trans (Sb.nd_mant _) (by decide)) (Nd.Nb.one (Lg.rd1 (hw.rdOf (i := 0) rfl 0)) (by decide)) (by rw [Nd.nd_one (by decide)]; decide) hec hfc hgc (by omega) (by omega) (by omega))) (fun _ => (ulS (ulC (ulC ulN)))) (fun xq44 hq45 => ?_)
    refine GH.take 3 (v := (.bool (!(decide (((Bt.mant j2.1).toNat) * 2 ^ nc ≤ 1 * 2 ^ mc))))) rfl (by kernel_rfl) (by kernel_rfl) (by kernel_rfl) (fun _ _ _ h => h) (Ex.not rfl) (ulS (ulC (ulC ulN))) (by decide) ?_
    refine GH.done (by kernel_rfl) ?_
    refine GE.thenN ?_
    refine GC.cond rfl (fun hq46 => ?_) (fun hq46 => ?_)
    ·replace hq46 := of_decide_eq_false ((Bool.not_eq_true' _).mp hq46)
     refine GC.seq ?_
     refine GC.region ?_
     refine GL.val (Ex.assign rfl) (by decide) ?_
     refine GL.nil ?_
     refine GE.thenN ?_
     refine GC.ret ?_
     refine GE.thenR ?_
     refine GC.ret1 rfl (Rv.tmp rfl) (fun wN HN => ?_)
     exact HN.ret () trivial (by first | rfl | simp) (List.nil_sublist _) rfl
    ·replace hq46 := of_decide_eq_true ((Bool.not_eq_false' _).mp hq46)
     refine GC.skip ?_
     refine GE.thenN ?_
     refine GC.seq ?_
     refine GC.region ?_
     refine GL.val (v := (.agg #[(.int .i64 2), (.bool false), (.slice (some ⟨j2.2, 0, none⟩) ((Nd.nd (Bt.mant j2.1).toNat)) 2), (.int .i64 ((Bt.expo j2.1))), (.bool false)])) (Ex.loadA rfl T.ag38 T.sz38 (i := 1) rfl (vs := [(.int .i64 2), (.bool false), (.slice (some ⟨j2.2, 0, none⟩) ((Nd.nd (Bt.mant j2.1).toNat)) 2), (.int .i64 ((Bt.expo j2.1))), (.bool false)]) rfl rfl) (by decide) ?_
     refine GL.step (Stp.alloc T.zr38 (by decide)) (fun bq47 _ => ?_)
     refine GL.step (Stp.st0 (cs' := [(.int .i64 2), (.bool false), (.slice (some ⟨j2.2, 0, none⟩) ((Nd.nd (Bt.mant j2.1).toNat)) 2), (.int .i64 ((Bt.expo j2.1))), (.bool false)]) rfl rfl rfl T.sz38 rfl rfl rfl) (fun _ _ => ?_)
     refine GL.nil ?_
     refine GE.thenN ?_
     refine GC.seq ?_
     refine GC.join (σ := Nat) (fun j => True) (fun j => [(0, (.int .u32 r)), (1, (.int .u32 g)), (2, (.int .u32 b)), (6, (.bool false)), (7, (.pointer (some ⟨bq15, 0, none⟩))), (8, (.pointer (some ⟨bq47, 0, none⟩))), (44, (.agg #[(.int .i64 2), (.bool false), (.slice (some ⟨j2.2, 0, none⟩) ((Nd.nd (Bt.mant j2.1).toNat)) 2), (.int .i64 ((Bt.expo j2.1))), (.bool false)])), (45, (.agg #[(.int .i64 2), (.bool false), (.slice (some ⟨xq42, 0, none⟩) ((Nd.nd 1)) 2), (.int .i64 100), (.bool false)])), (46, (.bool (decide (((Bt.mant j2.1).toNat) * 2 ^ nc ≤ 1 * 2 ^ mc)))), (47, (.bool (!(decide (((Bt.mant j2.1).toNat) * 2 ^ nc ≤ 1 * 2 ^ mc))))), (48, (.agg #[(.int .i64 2), (.bool false), (.slice (some ⟨j2.2, 0, none⟩) ((Nd.nd (Bt.mant j2.1).toNat)) 2), (.int .i64 ((Bt.expo j2.1))), (.bool false)]))]) (fun j => [⟨j, (Nd.dl (Nd.nd ((Bt.mant j2.1).toNat) + 1) (((Bt.mant j2.1).toNat) * 5)).map u32, 23, true⟩, ⟨bq47, [(.int .i64 2), (.bool false), (.slice (some ⟨j, 0, none⟩) ((Nd.nd ((Bt.mant j2.1).toNat * 5))) (Nd.nd ((Bt.mant j2.1).toNat) + 1)), (.int .i64 (((Bt.expo j2.1)) - 24)), (.bool false)], 38, true⟩, ⟨xq42, [(.int .u32 1), (.int .u32 0)], 23, true⟩, ⟨bq15, [(.int .i64 2), (.bool false), (.slice (some ⟨j2.2, 0, none⟩) ((Nd.nd (Bt.mant j2.1).toNat)) 2), (.int .i64 ((Bt.expo j2.1))), (.bool false)], 38, true⟩, ⟨j2.2, [(.int .u32 ((((Bt.mant j2.1).toNat : Nat) : Int))), (.int .u32 0)], 23, true⟩]) ?_ (fun j54 hj => ?_)
     ·refine GC.drawP [⟨xq42, [(.int .u32 1), (.int .u32 0)], 23, true⟩, ⟨bq15, [(.int .i64 2), (.bool false), (.slice (some ⟨j2.2, 0, none⟩) ((Nd.nd (Bt.mant j2.1).toNat)) 2), (.int .i64 ((Bt.expo j2.1))), (.bool false)], 38, true⟩, ⟨j2.2, [(.int .u32 ((((Bt.mant j2.1).toNat : Nat) : Int))), (.int .u32 0)], 23, true⟩] T.mixed (by kernel_rfl) (by kernel_rfl) (fuel := 9) rfl rfl ?_
      refine GH.take 0 (v := (.pointer (some ⟨bq47, 2, none⟩))) rfl (by kernel_rfl) (by kernel_rfl) (by kernel_rfl) (fun _ _ _ h => h) (Ex.cast (Ex.fieldAddr rfl Try.underlying38 rfl T.sz36 (by decide)) rfl) (ulS (ulC (ulC (ulC ulN)))) (by decide) ?_
      refine GH.take 3 (v := (.pointer (some ⟨bq47, 3, none⟩))) rfl (by kernel_rfl) (by kernel_rfl) (by kernel_rfl) (fun _ _ _ h => h) (Ex.cast (Ex.fieldAddr rfl Try.underlying38 rfl T.sz3 (by decide)) rfl) (ulS (ulC (ulC (ulC ulN)))) (by decide) ?_
      refine GH.many (rs := [1, 4]) (by kernel_rfl) (by simp) ?_
      refine GHs.cons rfl (Ex.wp (v := (.slice (some ⟨j2.2, 0, none⟩) ((Nd.nd (Bt.mant j2.1).toNat)) 2)) (Ex.load rfl T.ag36 (i := 0) rfl rfl) (by decide)) (fun _ => (ulS (ulC (ulC (ulC ulN))))) (fun _ _ => ?_) ?_
      ·refine GH.many (rs := [2, 4]) (by kernel_rfl) (by simp) ?_
       refine GHs.cons rfl (Stp.callR (vs := [(.slice (some ⟨j2.2, 0, none⟩) ((Nd.nd (Bt.mant j2.1).toNat)) 2), (.int .u32 5)]) rfl rfl T.own32 (by decide) (fun wc hw => times5 ((Bt.mant j2.1).toNat) j2.2 2 wc (Nd.Nb.one (Lg.rd1 (hw.rdOf (i := 3) rfl 0)) (Sb.mant32 _)) (Nat.le_trans (Sb.nd_mant _) (by decide)))) (fun _ => (ulS (ulS (ulC (ulC (ulC ulN)))))) (fun xq55 hq56 => ?_) ?_
       ·refine GH.one 4 rfl (by kernel_rfl) (Ex.wp (v := (.int .i64 ((Bt.expo j2.1)))) (Ex.load rfl T.ag3 (i := 1) rfl rfl) (by decide)) (fun _ => (ulS (ulS (ulC (ulC (ulC ulN)))))) (fun _ _ => ?_)
        refine GH.take 5 (v := (.int .i64 (((Bt.expo j2.1)) - 24))) rfl (by kernel_rfl) (by kernel_rfl) (by kernel_rfl) (fun _ _ _ h => h) (Ex.sub' rfl rfl (Z := ((Bt.expo j2.1)) - 24) (w64 (by omega))) (ulS (ulS (ulC (ulC (ulC ulN))))) (by decide) ?_
        refine GH.take 6 (v := (.pointer (some ⟨bq47, 2, none⟩))) rfl (by kernel_rfl) (by kernel_rfl) (by kernel_rfl) (fun _ _ _ h => h) (Ex.cast (Ex.fieldAddr rfl Try.underlying38 rfl T.sz36 (by decide)) rfl) (ulS (ulS (ulC (ulC (ulC ulN))))) (by decide) ?_
        refine GH.one 7 rfl (by kernel_rfl) (Stp.st1 (cs' := [(.int .i64 2), (.bool false), (.slice (some ⟨xq55, 0, none⟩) ((Nd.nd ((Bt.mant j2.1).toNat * 5))) (Nd.nd ((Bt.mant j2.1).toNat) + 1)), (.int .i64 ((Bt.expo j2.1))), (.bool false)]) rfl rfl rfl T.sz36 rfl rfl rfl) (fun _ => (ulS (ulS (ulC (ulC (ulC ulN)))))) (fun _ _ => ?_)
        refine GH.take 8 (v := (.pointer (some ⟨bq47, 3, none⟩))) rfl (by kernel_rfl) (by kernel_rfl) (by kernel_rfl) (fun _ _ _ h => h) (Ex.cast (Ex.fieldAddr rfl Try.underlying38 rfl T.sz3 (by decide)) rfl) (ulS (ulS (ulC (ulC (ulC ulN))))) (by decide) ?_
        refine GH.done (by kernel_rfl) ?_
        refine GE.thenN ?_
        refine GE.tail rfl (Stp.st1 (cs' := [(.int .i64 2), (.bool false), (.slice (some ⟨xq55, 0, none⟩) ((Nd.nd ((Bt.mant j2.1).toNat * 5))) (Nd.nd ((Bt.mant j2.1).toNat) + 1)), (.int .i64 (((Bt.expo j2.1)) - 24)), (.bool false)]) rfl rfl rfl T.sz3 rfl rfl rfl) (fun _ _ => ?_)
        refine GE.thenN ?_
        exact St.mk (xq55) trivial (idx := [0, 1, 2, 3, 4]) ((sub_cons rfl ((sub_cons rfl ((sub_cons rfl ((sub_cons rfl ((sub_cons rfl ((sub_cons rfl ((sub_cons rfl ((sub_cons rfl ((sub_cons rfl ((sub_cons rfl ((sub_cons rfl ((sub_nil _)))))))))))))))))))))))) (by decide) rfl
       refine GHs.cons rfl (Ex.wp (v := (.int .i64 ((Bt.expo j2.1)))) (Ex.load rfl T.ag3 (i := 0) rfl rfl) (by decide)) (fun _ => (ulS (ulC (ulC (ulC ulN))))) (fun _ _ => ?_) ?_
       ·refine GH.take 5 (v := (.int .i64 (((Bt.expo j2.1)) - 24))) rfl (by kernel_rfl) (by kernel_rfl) (by kernel_rfl) (fun _ _ _ h => h) (Ex.sub' rfl rfl (Z := ((Bt.expo j2.1)) - 24) (w64 (by omega))) (ulS (ulC (ulC (ulC ulN)))) (by decide) ?_
        refine GH.one 2 rfl (by kernel_rfl) (Stp.callR (vs := [(.slice (some ⟨j2.2, 0, none⟩) ((Nd.nd (Bt.mant j2.1).toNat)) 2), (.int .u32 5)]) rfl rfl T.own32 (by decide) (fun wc hw => times5 ((Bt.mant j2.1).toNat) j2.2 2 wc (Nd.Nb.one (Lg.rd1 (hw.rdOf (i := 3) rfl 0)) (Sb.mant32 _)) (Nat.le_trans (Sb.nd_mant _) (by decide)))) (fun _ => (ulS (ulS (ulC (ulC (ulC ulN)))))) (fun xq57 hq58 => ?_)
        refine GH.take 6 (v := (.pointer (some ⟨bq47, 2, none⟩))) rfl (by kernel_rfl) (by kernel_rfl) (by kernel_rfl) (fun _ _ _ h => h) (Ex.cast (Ex.fieldAddr rfl Try.underlying38 rfl T.sz36 (by decide)) rfl) (ulS (ulS (ulC (ulC (ulC ulN))))) (by decide) ?_
        refine GH.one 7 rfl (by kernel_rfl) (Stp.st1 (cs' := [(.int .i64 2), (.bool false), (.slice (some ⟨xq57, 0, none⟩) ((Nd.nd ((Bt.mant j2.1).toNat * 5))) (Nd.nd ((Bt.mant j2.1).toNat) + 1)), (.int .i64 ((Bt.expo j2.1))), (.bool false)]) rfl rfl rfl T.sz36 rfl rfl rfl) (fun _ => (ulS (ulS (ulC (ulC (ulC ulN)))))) (fun _ _ => ?_)
        refine GH.take 8 (v := (.pointer (some ⟨bq47, 3, none⟩))) rfl (by kernel_rfl) (by kernel_rfl) (by kernel_rfl) (fun _ _ _ h => h) (Ex.cast (Ex.fieldAddr rfl Try.underlying38 rfl T.sz3 (by decide)) rfl) (ulS (ulS (ulC (ulC (ulC ulN))))) (by decide) ?_
        refine GH.done (by kernel_rfl) ?_
        refine GE.thenN ?_
        refine GE.tail rfl (Stp.st1 (cs' := [(.int .i64 2), (.bool false), (.slice (some ⟨xq57, 0, none⟩) ((Nd.nd ((Bt.mant j2.1).toNat * 5))) (Nd.nd ((Bt.mant j2.1).toNat) + 1)), (.int .i64 (((Bt.expo j2.1)) - 24)), (.bool false)]) rfl rfl rfl T.sz3 rfl rfl rfl) (fun _ _ => ?_)
        refine GE.thenN ?_
        exact St.mk (xq57) trivial (idx := [0, 1, 2, 3, 4]) ((sub_cons rfl ((sub_cons rfl ((sub_cons rfl ((sub_cons rfl ((sub_cons rfl ((sub_cons rfl ((sub_cons rfl ((sub_cons rfl ((sub_cons rfl ((sub_cons rfl ((sub_cons rfl ((sub_nil _)))))))))))))))))))))))) (by decide) rfl
       exact GHs.nil
      refine GHs.cons rfl (Ex.wp (v := (.int .i64 ((Bt.expo j2.1)))) (Ex.load rfl T.ag3 (i := 0) rfl rfl) (by decide)) (fun _ => (ulS (ulC (ulC (ulC ulN))))) (fun _ _ => ?_) ?_
      ·refine GH.take 5 (v := (.int .i64 (((Bt.expo j2.1)) - 24))) rfl (by kernel_rfl) (by kernel_rfl) (by kernel_rfl) (fun _ _ _ h => h) (Ex.sub' rfl rfl (Z := ((Bt.expo j2.1)) - 24) (w64 (by omega))) (ulS (ulC (ulC (ulC ulN)))) (by decide) ?_
       refine GH.one 1 rfl (by kernel_rfl) (Ex.wp (v := (.slice (some ⟨j2.2, 0, none⟩) ((Nd.nd (Bt.mant j2.1).toNat)) 2)) (Ex.load rfl T.ag36 (i := 0) rfl rfl) (by decide)) (fun _ => (ulS (ulC (ulC (ulC ulN))))) (fun _ _ => ?_)
       refine GH.one 2 rfl (by kernel_rfl) (Stp.callR (vs := [(.slice (some ⟨j2.2, 0, none⟩) ((Nd.nd (Bt.mant j2.1).toNat)) 2), (.int .u32 5)]) rfl rfl T.own32 (by decide) (fun wc hw => times5 ((Bt.mant j2.1).toNat) j2.2 2 wc (Nd.Nb.one (Lg.rd1 (hw.rdOf (i := 3) rfl 0)) (Sb.mant32 _)) (Nat.le_trans (Sb.nd_mant _) (by decide)))) (fun _ => (ulS (ulS (ulC (ulC (ulC ulN)))))) (fun xq59 hq60 => ?_)
       refine GH.take 6 (v := (.pointer (some ⟨bq47, 2, none⟩))) rfl (by kernel_rfl) (by kernel_rfl) (by kernel_rfl) (fun _ _ _ h => h) (Ex.cast (Ex.fieldAddr rfl Try.underlying38 rfl T.sz36 (by decide)) rfl) (ulS (ulS (ulC (ulC (ulC ulN))))) (by decide) ?_
       refine GH.one 7 rfl (by kernel_rfl) (Stp.st1 (cs' := [(.int .i64 2), (.bool false), (.slice (some ⟨xq59, 0, none⟩) ((Nd.nd ((Bt.mant j2.1).toNat * 5))) (Nd.nd ((Bt.mant j2.1).toNat) + 1)), (.int .i64 ((Bt.expo j2.1))), (.bool false)]) rfl rfl rfl T.sz36 rfl rfl rfl) (fun _ => (ulS (ulS (ulC (ulC (ulC ulN)))))) (fun _ _ => ?_)
       refine GH.take 8 (v := (.pointer (some ⟨bq47, 3, none⟩))) rfl (by kernel_rfl) (by kernel_rfl) (by kernel_rfl) (fun _ _ _ h => h) (Ex.cast (Ex.fieldAddr rfl Try.underlying38 rfl T.sz3 (by decide)) rfl) (ulS (ulS (ulC (ulC (ulC ulN))))) (by decide) ?_
       refine GH.done (by kernel_rfl) ?_
       refine GE.thenN ?_
       refine GE.tail rfl (Stp.st1 (cs' := [(.int .i64 2), (.bool false), (.slice (some ⟨xq59, 0, none⟩) ((Nd.nd ((Bt.mant j2.1).toNat * 5))) (Nd.nd ((Bt.mant j2.1).toNat) + 1)), (.int .i64 (((Bt.expo j2.1)) - 24)), (.bool false)]) rfl rfl rfl T.sz3 rfl rfl rfl) (fun _ _ => ?_)
       refine GE.thenN ?_
       exact St.mk (xq59) trivial (idx := [0, 1, 2, 3, 4]) ((sub_cons rfl ((sub_cons rfl ((sub_cons rfl ((sub_cons rfl ((sub_cons rfl ((sub_cons rfl ((sub_cons rfl ((sub_cons rfl ((sub_cons rfl ((sub_cons rfl ((sub_cons rfl ((sub_nil _)))))))))))))))))))))))) (by decide) rfl
      exact GHs.nil
     refine GE.thenN ?_
     refine GC.seq ?_
     obtain ⟨ed, nd, md, hed, hfd, hgd, hhd⟩ := Lb.mins (Bt.expo j2.1 - 24) (-147)
     refine GC.join (σ := Nat × Nat) (fun j => Nd.nd ((Bt.mant j2.1).toNat * 5 * 2 ^ nd + 1 * 2 ^ md) ≤ j.2) (fun j => [(0, (.int .u32 r)), (1, (.int .u32 g)), (2, (.int .u32 b)), (6, (.bool false)), (8, (.pointer (some ⟨bq47, 0, none⟩)))]) (fun j => [⟨bq47, [(.int .i64 2), (.bool false), (.slice (some ⟨j.1, 0, none⟩) ((Nd.nd ((Bt.mant j2.1).toNat * 5 * 2 ^ nd + 1 * 2 ^ md))) j.2), (.int .i64 ed), (.bool false)], 38, true⟩, ⟨j.1, (Nd.dl j.2 ((Bt.mant j2.1).toNat * 5 * 2 ^ nd + 1 * 2 ^ md)).map u32, 23, true⟩]) ?_ (fun jb hj => ?_)
     ·refine GC.drawP [⟨j54, (Nd.dl (Nd.nd ((Bt.mant j2.1).toNat) + 1) (((Bt.mant j2.1).toNat) * 5)).map u32, 23, true⟩, ⟨xq42, [(.int .u32 1), (.int .u32 0)], 23, true⟩, ⟨bq15, [(.int .i64 2), (.bool false), (.slice (some ⟨j2.2, 0, none⟩) ((Nd.nd (Bt.mant j2.1).toNat)) 2), (.int .i64 ((Bt.expo j2.1))), (.bool false)], 38, true⟩, ⟨j2.2, [(.int .u32 ((((Bt.mant j2.1).toNat : Nat) : Int))), (.int .u32 0)], 23, true⟩] T.mixed (by kernel_rfl) (by kernel_rfl) (fuel := 3) rfl rfl ?_
      refine GH.many (rs := [0, 1]) (by kernel_rfl) (by simp) ?_
      refine GHs.cons rfl (Ex.wp (v := (.agg #[(.int .i64 2), (.bool false), (.slice (some ⟨j54, 0, none⟩) ((Nd.nd ((Bt.mant j2.1).toNat * 5))) (Nd.nd ((Bt.mant j2.1).toNat) + 1)), (.int .i64 (((Bt.expo j2.1)) - 24)), (.bool false)])) (Ex.loadA rfl T.ag38 T.sz38 (i := 1) rfl (vs := [(.int .i64 2), (.bool false), (.slice (some ⟨j54, 0, none⟩) ((Nd.nd ((Bt.mant j2.1).toNat * 5))) (Nd.nd ((Bt.mant j2.1).toNat) + 1)), (.int .i64 (((Bt.expo j2.1)) - 24)), (.bool false)]) rfl rfl) (by decide)) (fun _ => (ulC (ulS (ulC (ulC (ulC ulN)))))) (fun _ _ => ?_) ?_
      ·refine GH.one 1 rfl (by kernel_rfl) (Stp.callR (vs := [(.int .i64 (-147))]) rfl rfl T.own31 (by decide) (fun wc hw => power_l (-147) wc)) (fun _ => (ulS (ulC (ulS (ulC (ulC (ulC ulN))))))) (fun xq61 hq62 => ?_)
       refine GH.one 2 rfl (by kernel_rfl) (Stp.callR (vs := [(.agg #[(.int .i64 2), (.bool false), (.slice (some ⟨j54, 0, none⟩) ((Nd.nd ((Bt.mant j2.1).toNat * 5))) (Nd.nd ((Bt.mant j2.1).toNat) + 1)), (.int .i64 (((Bt.expo j2.1)) - 24)), (.bool false)]), (.agg #[(.int .i64 2), (.bool false), (.slice (some ⟨xq61, 0, none⟩) ((Nd.nd 1)) 2), (.int .i64 (-147)), (.bool false)])]) rfl rfl T.own33 (by decide) (fun wc hw => pnum_same (((Bt.mant j2.1).toNat * 5)) j54 (Nd.nd ((Bt.mant j2.1).toNat) + 1) 1 xq61 2 ed (((Bt.expo j2.1)) - 24) (-147) nd md false false wc (Nd.Nb.of (hw.rdOf (i := 1) rfl 0) (Nd.mul_lt (by decide))) (Nat.le_trans (Sb.nd_mant5 _) (by decide)) (Nd.Nb.one (Lg.rd1 (hw.rdOf (i := 0) rfl 0)) (by decide)) (by rw [Nd.nd_one (by decide)]; decide) hed hfd hgd (by omega) (by omega) (by omega) rfl)) (fun _ => (ulS (ulS (ulC (ulS (ulC (ulC (ulC ulN)))))))) (fun xq63 hq64 => ?_)
       refine GH.done (by kernel_rfl) ?_
       refine GE.thenN ?_
       refine GE.tail rfl (Stp.st3 (cs' := [(.int .i64 2), (.bool false), (.slice (some ⟨xq63.1, 0, none⟩) ((Nd.nd ((Bt.mant j2.1).toNat * 5 * 2 ^ nd + 1 * 2 ^ md))) xq63.2), (.int .i64 ed), (.bool false)]) rfl rfl rfl T.sz38 rfl rfl rfl) (fun _ _ => ?_)
       refine GE.thenN ?_
       exact St.mk ((xq63.1, xq63.2)) hq64 (idx := [3, 0]) ((sub_cons rfl ((sub_cons rfl ((sub_cons rfl ((sub_cons rfl ((sub_cons rfl ((sub_nil _)))))))))))) (by decide) rfl
      refine GHs.cons rfl (Stp.callR (vs := [(.int .i64 (-147))]) rfl rfl T.own31 (by decide) (fun wc hw => power_l (-147) wc)) (fun _ => (ulS (ulC (ulS (ulC (ulC (ulC ulN))))))) (fun xq65 hq66 => ?_) ?_
      ·refine GH.one 0 rfl (by kernel_rfl) (Ex.wp (v := (.agg #[(.int .i64 2), (.bool false), (.slice (some ⟨j54, 0, none⟩) ((Nd.nd ((Bt.mant j2.1).toNat * 5))) (Nd.nd ((Bt.mant j2.1).toNat) + 1)), (.int .i64 (((Bt.expo j2.1)) - 24)), (.bool false)])) (Ex.loadA rfl T.ag38 T.sz38 (i := 2) rfl (vs := [(.int .i64 2), (.bool false), (.slice (some ⟨j54, 0, none⟩) ((Nd.nd ((Bt.mant j2.1).toNat * 5))) (Nd.nd ((Bt.mant j2.1).toNat) + 1)), (.int .i64 (((Bt.expo j2.1)) - 24)), (.bool false)]) rfl rfl) (by decide)) (fun _ => (ulS (ulC (ulS (ulC (ulC (ulC ulN))))))) (fun _ _ => ?_)
       refine GH.one 2 rfl (by kernel_rfl) (Stp.callR (vs := [(.agg #[(.int .i64 2), (.bool false), (.slice (some ⟨j54, 0, none⟩) ((Nd.nd ((Bt.mant j2.1).toNat * 5))) (Nd.nd ((Bt.mant j2.1).toNat) + 1)), (.int .i64 (((Bt.expo j2.1)) - 24)), (.bool false)]), (.agg #[(.int .i64 2), (.bool false), (.slice (some ⟨xq65, 0, none⟩) ((Nd.nd 1)) 2), (.int .i64 (-147)), (.bool false)])]) rfl rfl T.own33 (by decide) (fun wc hw => pnum_same (((Bt.mant j2.1).toNat * 5)) j54 (Nd.nd ((Bt.mant j2.1).toNat) + 1) 1 xq65 2 ed (((Bt.expo j2.1)) - 24) (-147) nd md false false wc (Nd.Nb.of (hw.rdOf (i := 1) rfl 0) (Nd.mul_lt (by decide))) (Nat.le_trans (Sb.nd_mant5 _) (by decide)) (Nd.Nb.one (Lg.rd1 (hw.rdOf (i := 0) rfl 0)) (by decide)) (by rw [Nd.nd_one (by decide)]; decide) hed hfd hgd (by omega) (by omega) (by omega) rfl)) (fun _ => (ulS (ulS (ulC (ulS (ulC (ulC (ulC ulN)))))))) (fun xq67 hq68 => ?_)
       refine GH.done (by kernel_rfl) ?_
       refine GE.thenN ?_
       refine GE.tail rfl (Stp.st3 (cs' := [(.int .i64 2), (.bool false), (.slice (some ⟨xq67.1, 0, none⟩) ((Nd.nd ((Bt.mant j2.1).toNat * 5 * 2 ^ nd + 1 * 2 ^ md))) xq67.2), (.int .i64 ed), (.bool false)]) rfl rfl rfl T.sz38 rfl rfl rfl) (fun _ _ => ?_)
       refine GE.thenN ?_
       exact St.mk ((xq67.1, xq67.2)) hq68 (idx := [3, 0]) ((sub_cons rfl ((sub_cons rfl ((sub_cons rfl ((sub_cons rfl ((sub_cons rfl ((sub_nil _)))))))))))) (by decide) rfl
      exact GHs.nil
     refine GE.thenN ?_
     refine GC.seq ?_
     obtain ⟨c, hc⟩ : ∃ c : Nat, c = 1151 := ⟨_, rfl⟩
     have hp := (Sb.pow_le hFq2.1 hFq2.2 hec hfc (by omega) hc).1 hq46
     have hA := Sb.all hc hFr hFg hFb lr_q2 lg_q2 lb_q2 hp
     refine GC.region ?_
     refine GL.val (Ex.move rfl) (by decide) ?_
     refine GL.val (Ex.move rfl) (by decide) ?_
     refine GL.val (Ex.move rfl) (by decide) ?_
     refine GL.step (Stp.callR (vs := [(.int .u32 r), (.int .u32 g), (.int .u32 b)]) rfl rfl T.own14 (by decide) (fun wc hw => toycc_p r g b wc hA.1.1 hA.1.2.1 hA.1.2.2)) (fun xq69 hq70 => ?_)
     refine GL.val (Ex.move rfl) (by decide) ?_
     refine GL.val (Ex.extract rfl rfl) (by decide) ?_
     refine GL.val (Ex.extract rfl rfl) (by decide) ?_
     refine GL.val (Ex.extract rfl rfl) (by decide) ?_
     refine GL.val (Ex.assign rfl) (by decide) ?_
     refine GL.val (Ex.assign rfl) (by decide) ?_
     refine GL.val (Ex.assign rfl) (by decide) ?_
     refine GL.nil ?_
     refine GE.thenN ?_
     refine GC.seq ?_
     refine GC.region ?_
     refine GL.val (Ex.move rfl) (by decide) ?_
     refine GL.val (Ex.move rfl) (by decide) ?_
     refine GL.val (Ex.move rfl) (by decide) ?_
     refine GL.step (Stp.callR (σ := Unit) (p := fun rz => True) (v := fun rz => (.tuple #[(.int .u32 ((Sb.tu r g b))), (.int .u32 ((Sb.tv r g b))), (.int .u32 ((Sb.tz r g b)))])) (N := fun rz => []) (vs := [(.int .u32 ((Fv.T (Sl.yy r g b)))), (.int .u32 ((Fv.T (Sl.yg r g b)))), (.int .u32 ((Fv.T (Sl.yo r g b))))]) rfl rfl T.own16 (by decide) (fun wc hw => (by exact fromycc_p (Fv.T (Sl.yy r g b)) (Fv.T (Sl.yg r g b)) (Fv.T (Sl.yo r g b)) wc hA.2.1.1 hA.2.1.2.1 hA.2.1.2.2))) (fun xq71 hq72 => ?_)
     refine GL.val (Ex.move rfl) (by decide) ?_
     refine GL.val (Ex.extract rfl rfl) (by decide) ?_
     refine GL.val (Ex.extract rfl rfl) (by decide) ?_
     refine GL.val (Ex.extract rfl rfl) (by decide) ?_
     refine GL.val (Ex.assign rfl) (by decide) ?_
     refine GL.val (Ex.assign rfl) (by decide) ?_
     refine GL.val (Ex.assign rfl) (by decide) ?_
     refine GL.nil ?_
     refine GE.thenN ?_
     refine GC.seq ?_
     refine GC.seq ?_
     refine GC.sub (l' := [(0, (.int .u32 r)), (1, (.int .u32 g)), (2, (.int .u32 b)), (6, (.bool false)), (8, (.pointer (some ⟨bq47, 0, none⟩))), (12, (.int .u32 ((Sb.tu r g b)))), (13, (.int .u32 ((Sb.tv r g b)))), (14, (.int .u32 ((Sb.tz r g b))))]) ((sub_cons rfl ((sub_cons rfl ((sub_cons rfl ((sub_cons rfl ((sub_cons rfl ((sub_cons rfl ((sub_cons rfl ((sub_cons rfl ((sub_nil _)))))))))))))))))) ulR ?_
     refine back17 r g b (Sb.tu r g b) (Sb.tv r g b) (Sb.tz r g b) j2.1 ed bq47 jb.1 jb.2 c nd md w hFr hFg hFb hFq2 hA.2.2.1 hA.2.2.2.1 hA.2.2.2.2 hc hed hfd hgd hj (fun _ _ _ _ _ h => h) (fun ju => ?_)
     refine GE.thenN ?_
     refine GC.cond rfl (fun hq73 => by cases hq73) (fun _ => ?_)
     refine GC.skip ?_
     refine GE.thenN ?_
     refine GC.seq ?_
     have hfr3 := (Sl.fin_rk hFr.1).2 hFr.2
     have hM3 := Sl.mean (lo := Fv.rk r) (hi := Fv.rk r) hFr.1 hFr.1 hFr.1 hfr3 hfr3 (Int.le_refl _) (Int.le_refl _) (Int.le_refl _) (Int.le_refl _) (Int.le_refl _) (Int.le_refl _)
     have hD2 := Sl.diffs hFr.1 hFr.1 hFr.1 hfr3 hfr3 hfr3
     have hD3 := And.intro hM3.1 hD2
     have h3 := Sb.back3 hFr.1 hfr3
     have h3a := h3.2.2.1
     have h3b := h3.2.2.2.1
     have h3c := h3.2.2.2.2
     have : (Fv.rk (Fv.T (Sb.fu r 0 0))).natAbs < 2139095040 := by have := h3.2.1; omega
     have := (Sl.fin_rk (s := Fv.T (Sb.fu r 0 0)) (by assumption)).1 this
     have : (Fv.rk (Fv.T (Sb.fw r 0))).natAbs < 2139095040 := by have := h3.2.1; omega
     have := (Sl.fin_rk (s := Fv.T (Sb.fw r 0)) (by assumption)).1 this
     have : (Fv.rk (Fv.T (Sb.fz r 0 0))).natAbs < 2139095040 := by have := h3.2.1; omega
     have := (Sl.fin_rk (s := Fv.T (Sb.fz r 0 0)) (by assumption)).1 this
     refine GC.region ?_
     refine GL.val (Ex.move rfl) (by decide) ?_
     refine GL.val (Ex.move rfl) (by decide) ?_
     refine GL.val (Ex.move rfl) (by decide) ?_
     refine GL.step (Stp.callR (σ := Unit) (p := fun rz => True) (v := fun rz => (.tuple #[(.int .u32 r), (.int .u32 0), (.int .u32 0)])) (N := fun rz => []) (vs := [(.int .u32 r), (.int .u32 r), (.int .u32 r)]) rfl rfl T.own14 (by decide) (fun wc hw => (by have h := toycc_p r r r wc hD3.1 hD3.2.1 hD3.2.2; rw [Sb.yy3 hFr.1 hfr3, Sb.yg3 hFr.1 hfr3, Sb.yo3 hFr.1 hfr3] at h; exact h))) (fun xq74 hq75 => ?_)
     refine GL.val (Ex.move rfl) (by decide) ?_
     refine GL.val (Ex.extract rfl rfl) (by decide) ?_
     refine GL.val (Ex.extract rfl rfl) (by decide) ?_
     refine GL.val (Ex.extract rfl rfl) (by decide) ?_
     refine GL.val (Ex.assign rfl) (by decide) ?_
     refine GL.val (Ex.assign rfl) (by decide) ?_
     refine GL.val (Ex.assign rfl) (by decide) ?_
     refine GL.nil ?_
     refine GE.thenN ?_
     refine GC.seq ?_
     refine GC.region ?_
     refine GL.val (Ex.move rfl) (by decide) ?_
     refine GL.val (Ex.move rfl) (by decide) ?_
     refine GL.val (Ex.move rfl) (by decide) ?_
     refine GL.step (Stp.callR (vs := [(.int .u32 r), (.int .u32 0), (.int .u32 0)]) rfl rfl T.own16 (by decide) (fun wc hw => fromycc_p r 0 0 wc h3.1.1 h3.1.2.1 h3.1.2.2)) (fun xq76 hq77 => ?_)
     refine GL.val (Ex.move rfl) (by decide) ?_
     refine GL.val (Ex.extract rfl rfl) (by decide) ?_
     refine GL.val (Ex.extract rfl rfl) (by decide) ?_
     refine GL.val (Ex.extract rfl rfl) (by decide) ?_
     refine GL.val (Ex.assign rfl) (by decide) ?_
     refine GL.val (Ex.assign rfl) (by decide) ?_
     refine GL.val (Ex.assign rfl) (by decide) ?_
     refine GL.nil ?_
     refine GE.thenN ?_
     refine GC.seq ?_
     refine GC.region ?_
     refine GL.val (Ex.move rfl) (by decide) ?_
     refine GL.val (Ex.move rfl) (by decide) ?_
     refine GL.val (v := (.bool true)) (Ex.cast (Ex.eql rfl rfl) (congrArg Value.bool (decide_eq_true (by simp)))) (by decide) ?_
     refine GL.val (Ex.move rfl) (by decide) ?_
     refine GL.stepG (tj := 132) rfl rfl (Ex.wp (v := (.int .u32 0)) (Ex.move rfl) (by decide)) (fun _ _ => ?_)
     refine GL.stepG (tj := 132) rfl rfl (Ex.wp (v := (.bool true)) (Ex.cast (Ex.eql rfl rfl) rfl) (by decide)) (fun _ _ => ?_)
     refine GL.val (v := (.bool true)) (Ex.pickT rfl rfl) (by decide) ?_
     refine GL.val (Ex.move rfl) (by decide) ?_
     refine GL.stepG (tj := 136) rfl rfl (Ex.wp (v := (.int .u32 0)) (Ex.move rfl) (by decide)) (fun _ _ => ?_)
     refine GL.stepG (tj := 136) rfl rfl (Ex.wp (v := (.bool true)) (Ex.cast (Ex.eql rfl rfl) rfl) (by decide)) (fun _ _ => ?_)
     refine GL.val (v := (.bool true)) (Ex.pickT rfl rfl) (by decide) ?_
     refine GL.val (Ex.move rfl) (by decide) ?_
     refine GL.stepG (tj := 140) rfl rfl (Ex.wp (v := (.int .u32 ((Fv.T (Sb.fu r 0 0))))) (Ex.move rfl) (by decide)) (fun _ _ => ?_)
     refine GL.stepG (tj := 140) rfl rfl (Ex.wp (v := (.int .u32 r)) (Ex.move rfl) (by decide)) (fun _ _ => ?_)
     refine GL.stepG (tj := 140) rfl rfl (Stp.callR (vs := [(.int .u32 ((Fv.T (Sb.fu r 0 0)))), (.int .u32 r)]) rfl rfl T.own35 (by decide) (fun wc hw => equal_2 ((Fv.T (Sb.fu r 0 0))) r wc (by first | assumption | omega | exact Bt.lst_bd (by assumption) (by assumption) | exact Bt.gst_bd (by assumption) (by assumption) | exact Bt.key_bd (by assumption) | exact Bt.unkey_bd (by assumption) | exact Bt.nxt_bd (by assumption) | exact Bt.lst_bd (Bt.gst_bd (by assumption) (by assumption)) (by assumption) | exact Bt.btw_bd (by assumption) (Bt.lst_bd (by assumption) (by assumption)) (Bt.gst_bd (by assumption) (by assumption))) (by first | assumption | omega | exact Bt.lst_bd (by assumption) (by assumption) | exact Bt.gst_bd (by assumption) (by assumption) | exact Bt.key_bd (by assumption) | exact Bt.unkey_bd (by assumption) | exact Bt.nxt_bd (by assumption) | exact Bt.lst_bd (Bt.gst_bd (by assumption) (by assumption)) (by assumption) | exact Bt.btw_bd (by assumption) (Bt.lst_bd (by assumption) (by assumption)) (Bt.gst_bd (by assumption) (by assumption))))) (fun xq78 hq79 => ?_)
     refine GL.val (v := (.bool (decide ((((Fv.T (Sb.fu r 0 0)))) % 2147483648 ≤ 2139095040 ∧ r % 2147483648 ≤ 2139095040 ∧ Fv.rk (((Fv.T (Sb.fu r 0 0)))) = Fv.rk r)))) (Ex.pickT rfl rfl) (by decide) ?_
     refine GL.val (v := (.bool true)) (Ex.cast (Ex.move rfl) (congrArg Value.bool (decide_eq_true (by (refine ⟨?_, ?_, ?_⟩ <;> first | exact h3.2.1.1 | exact h3.2.1.2.1 | exact h3.2.1.2.2 | omega))))) (by decide) ?_
     refine GL.stepG (tj := 145) rfl rfl (Ex.wp (v := (.int .u32 ((Fv.T (Sb.fw r 0))))) (Ex.move rfl) (by decide)) (fun _ _ => ?_)
     refine GL.stepG (tj := 145) rfl rfl (Ex.wp (v := (.int .u32 r)) (Ex.move rfl) (by decide)) (fun _ _ => ?_)
     refine GL.stepG (tj := 145) rfl rfl (Stp.callR (vs := [(.int .u32 ((Fv.T (Sb.fw r 0)))), (.int .u32 r)]) rfl rfl T.own35 (by decide) (fun wc hw => equal_2 ((Fv.T (Sb.fw r 0))) r wc (by first | assumption | omega | exact Bt.lst_bd (by assumption) (by assumption) | exact Bt.gst_bd (by assumption) (by assumption) | exact Bt.key_bd (by assumption) | exact Bt.unkey_bd (by assumption) | exact Bt.nxt_bd (by assumption) | exact Bt.lst_bd (Bt.gst_bd (by assumption) (by assumption)) (by assumption) | exact Bt.btw_bd (by assumption) (Bt.lst_bd (by assumption) (by assumption)) (Bt.gst_bd (by assumption) (by assumption))) (by first | assumption | omega | exact Bt.lst_bd (by assumption) (by assumption) | exact Bt.gst_bd (by assumption) (by assumption) | exact Bt.key_bd (by assumption) | exact Bt.unkey_bd (by assumption) | exact Bt.nxt_bd (by assumption) | exact Bt.lst_bd (Bt.gst_bd (by assumption) (by assumption)) (by assumption) | exact Bt.btw_bd (by assumption) (Bt.lst_bd (by assumption) (by assumption)) (Bt.gst_bd (by assumption) (by assumption))))) (fun xq80 hq81 => ?_)
     refine GL.val (v := (.bool (decide ((((Fv.T (Sb.fw r 0)))) % 2147483648 ≤ 2139095040 ∧ r % 2147483648 ≤ 2139095040 ∧ Fv.rk (((Fv.T (Sb.fw r 0)))) = Fv.rk r)))) (Ex.pickT rfl rfl) (by decide) ?_
     refine GL.val (v := (.bool true)) (Ex.cast (Ex.move rfl) (congrArg Value.bool (decide_eq_true (by (refine ⟨?_, ?_, ?_⟩ <;> first | exact h3.2.1.1 | exact h3.2.1.2.1 | exact h3.2.1.2.2 | omega))))) (by decide) ?_
     refine GL.stepG (tj := 150) rfl rfl (Ex.wp (v := (.int .u32 ((Fv.T (Sb.fz r 0 0))))) (Ex.move rfl) (by decide)) (fun _ _ => ?_)
     refine GL.stepG (tj := 150) rfl rfl (Ex.wp (v := (.int .u32 r)) (Ex.move rfl) (by decide)) (fun _ _ => ?_)
     refine GL.stepG (tj := 150) rfl rfl (Stp.callR (vs := [(.int .u32 ((Fv.T (Sb.fz r 0 0)))), (.int .u32 r)]) rfl rfl T.own35 (by decide) (fun wc hw => equal_2 ((Fv.T (Sb.fz r 0 0))) r wc (by first | assumption | omega | exact Bt.lst_bd (by assumption) (by assumption) | exact Bt.gst_bd (by assumption) (by assumption) | exact Bt.key_bd (by assumption) | exact Bt.unkey_bd (by assumption) | exact Bt.nxt_bd (by assumption) | exact Bt.lst_bd (Bt.gst_bd (by assumption) (by assumption)) (by assumption) | exact Bt.btw_bd (by assumption) (Bt.lst_bd (by assumption) (by assumption)) (Bt.gst_bd (by assumption) (by assumption))) (by first | assumption | omega | exact Bt.lst_bd (by assumption) (by assumption) | exact Bt.gst_bd (by assumption) (by assumption) | exact Bt.key_bd (by assumption) | exact Bt.unkey_bd (by assumption) | exact Bt.nxt_bd (by assumption) | exact Bt.lst_bd (Bt.gst_bd (by assumption) (by assumption)) (by assumption) | exact Bt.btw_bd (by assumption) (Bt.lst_bd (by assumption) (by assumption)) (Bt.gst_bd (by assumption) (by assumption))))) (fun xq82 hq83 => ?_)
     refine GL.val (v := (.bool (decide ((((Fv.T (Sb.fz r 0 0)))) % 2147483648 ≤ 2139095040 ∧ r % 2147483648 ≤ 2139095040 ∧ Fv.rk (((Fv.T (Sb.fz r 0 0)))) = Fv.rk r)))) (Ex.pickT rfl rfl) (by decide) ?_
     refine GL.val (Ex.assign rfl) (by decide) ?_
     refine GL.nil ?_
     refine GE.thenN ?_
     refine GC.ret ?_
     refine GC.ret1 rfl (Rv.tmp rfl) (fun wN HN => ?_)
     exact HN.ret () trivial (congrArg Value.bool (decide_eq_true ⟨by omega, by omega, h3.2.1.2.2⟩)) (List.nil_sublist _) rfl
  ·refine GL.stepG (tj := 20) rfl rfl (Ex.wp (v := (.bool true)) (Ex.cast (Ex.not rfl) (congrArg Value.bool (congrArg (fun z => !z) (decide_eq_false hq9)))) (by decide)) (fun _ _ => ?_)
   refine GL.val (v := (.bool true)) (Ex.pickF rfl rfl) (by decide) ?_
   refine GL.val (Ex.move rfl) (by decide) ?_
   refine GL.skipG (tj := 25) rfl rfl rfl (by decide) ?_
   refine GL.skipG (tj := 25) rfl rfl rfl (by decide) ?_
   refine GL.skipG (tj := 25) rfl rfl rfl (by decide) ?_
   refine GL.val (v := (.bool true)) (Ex.pickT rfl rfl) (by decide) ?_
   refine GL.nil ?_
   refine GE.thenN ?_
   refine GC.cond rfl (fun _ => ?_) (fun hq84 => by cases hq84)
   refine GC.seq ?_
   refine GC.region ?_
   refine GL.val (Ex.assign rfl) (by decide) ?_
   refine GL.nil ?_
   refine GE.thenN ?_
   refine GC.ret ?_
   refine GE.thenR ?_
   refine GC.ret1 rfl (Rv.tmp rfl) (fun wN HN => ?_)
   exact HN.ret () trivial (by first | rfl | simp) (List.nil_sublist _) rfl
 ·refine GL.val (v := (.bool true)) (Ex.cast (Ex.not rfl) (congrArg Value.bool (congrArg (fun z => !z) (decide_eq_false hq6)))) (by decide) ?_
  refine GL.val (Ex.move rfl) (by decide) ?_
  refine GL.skipG (tj := 20) rfl rfl rfl (by decide) ?_
  refine GL.skipG (tj := 20) rfl rfl rfl (by decide) ?_
  refine GL.skipG (tj := 20) rfl rfl rfl (by decide) ?_
  refine GL.val (v := (.bool true)) (Ex.pickT rfl rfl) (by decide) ?_
  refine GL.val (Ex.move rfl) (by decide) ?_
  refine GL.skipG (tj := 25) rfl rfl rfl (by decide) ?_
  refine GL.skipG (tj := 25) rfl rfl rfl (by decide) ?_
  refine GL.skipG (tj := 25) rfl rfl rfl (by decide) ?_
  refine GL.val (v := (.bool true)) (Ex.pickT rfl rfl) (by decide) ?_
  refine GL.nil ?_
  refine GE.thenN ?_
  refine GC.cond rfl (fun _ => ?_) (fun hq85 => by cases hq85)
  refine GC.seq ?_
  refine GC.region ?_
  refine GL.val (Ex.assign rfl) (by decide) ?_
  refine GL.nil ?_
  refine GE.thenN ?_
  refine GC.ret ?_
  refine GE.thenR ?_
  refine GC.ret1 rfl (Rv.tmp rfl) (fun wN HN => ?_)
  exact HN.ret () trivial (by first | rfl | simp) (List.nil_sublist _) rfl

end Go.Proofs.Ytbhjadkgeadpiaa.C
