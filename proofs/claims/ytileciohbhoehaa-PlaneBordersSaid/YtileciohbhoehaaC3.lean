/- Plane's functions: what each call tells. -/
import Derived.Test.YtileciohbhoehaaC2
namespace Go.Proofs.Ytileciohbhoehaa.C
open Go Go.RowKit Sx
set_option linter.unusedVariables false
set_option maxRecDepth 100000 in
set_option maxHeartbeats 1000000 in
theorem ref_eq (W1 H1 W2 H2 : Int) (b1 o1 n1 cap1 b2 o2 n2 cap2 : Nat) (xs ys : List Int) (w : World) (hx1 : xs.length = n1) (hx2 : ys.length = n2) (hr1 : Rd w b1 o1 (xs.map u32)) (hr2 : Rd w b2 o2 (ys.map u32)) (hb1 : n1 ≤ 35184372088832) :
    Calls Try.prog 26 #[(.agg #[(.int .i64 W1), (.int .i64 H1), (.slice (some ⟨b1, o1, none⟩) n1 cap1)]), (.agg #[(.int .i64 W2), (.int .i64 H2), (.slice (some ⟨b2, o2, none⟩) n2 cap2)])] w (Ret w (fun _ : Unit => True) (fun _ => .bool (eqB W1 H1 xs W2 H2 ys)) (fun _ => [])) := by
  refine enter (M := None) (L := []) (n := 45) (l := [(0, (.agg #[(.int .i64 W1), (.int .i64 H1), (.slice (some ⟨b1, o1, none⟩) n1 cap1)])), (1, (.agg #[(.int .i64 W2), (.int .i64 H2), (.slice (some ⟨b2, o2, none⟩) n2 cap2)]))]) Try.func26 rfl rfl (Args.cons rfl (Args.cons rfl (Args.nil _))) (Hp.start _ _) ?_
  refine GC.seq ?_
  refine GC.region ?_
  refine GL.step (Stp.box (cs := [(.int .i64 W1), (.int .i64 H1), (.slice (some ⟨b1, o1, none⟩) n1 cap1)]) rfl rfl (by decide)) (fun bq1 _ => ?_)
  refine GL.step (Stp.box (cs := [(.int .i64 W2), (.int .i64 H2), (.slice (some ⟨b2, o2, none⟩) n2 cap2)]) rfl rfl (by decide)) (fun bq2 _ => ?_)
  refine GL.val (v := (.bool false)) (Ex.assign rfl) (by decide) ?_
  refine GL.nil ?_
  refine GE.thenN ?_
  refine GC.seq ?_
  refine GC.seq ?_
  refine GC.region ?_
  refine GL.val (v := (.pointer (some ⟨bq1, 0, none⟩))) (Ex.cast (Ex.fieldAddr rfl Try.underlying32 rfl T.sz3 (by decide)) rfl) (by decide) ?_
  refine GL.val (v := (.int .i64 W1)) (Ex.load rfl T.ag3 (i := 1) rfl rfl) (by decide) ?_
  refine GL.val (v := (.pointer (some ⟨bq2, 0, none⟩))) (Ex.cast (Ex.fieldAddr rfl Try.underlying32 rfl T.sz3 (by decide)) rfl) (by decide) ?_
  refine GL.val (v := (.int .i64 W2)) (Ex.load rfl T.ag3 (i := 0) rfl rfl) (by decide) ?_
  by_cases hq3 : W1 ≠ W2
  · refine GL.val (v := (.bool true)) (Ex.cast (Ex.neq rfl rfl) (congrArg Value.bool (decide_eq_true hq3))) (by decide) ?_
    refine GL.val (v := (.bool true)) (Ex.move rfl) (by decide) ?_
    refine GL.skipG (tj := 11) rfl rfl rfl (by decide) ?_
    refine GL.skipG (tj := 11) rfl rfl rfl (by decide) ?_
    refine GL.skipG (tj := 11) rfl rfl rfl (by decide) ?_
    refine GL.skipG (tj := 11) rfl rfl rfl (by decide) ?_
    refine GL.skipG (tj := 11) rfl rfl rfl (by decide) ?_
    refine GL.val (v := (.bool true)) (Ex.pickT rfl rfl) (by decide) ?_
    refine GL.val (v := (.bool true)) (Ex.move rfl) (by decide) ?_
    refine GL.skipG (tj := 18) rfl rfl rfl (by decide) ?_
    refine GL.skipG (tj := 18) rfl rfl rfl (by decide) ?_
    refine GL.skipG (tj := 18) rfl rfl rfl (by decide) ?_
    refine GL.skipG (tj := 18) rfl rfl rfl (by decide) ?_
    refine GL.skipG (tj := 18) rfl rfl rfl (by decide) ?_
    refine GL.skipG (tj := 18) rfl rfl rfl (by decide) ?_
    refine GL.skipG (tj := 18) rfl rfl rfl (by decide) ?_
    refine GL.val (v := (.bool true)) (Ex.pickT rfl rfl) (by decide) ?_
    refine GL.nil ?_
    refine GE.thenN ?_
    refine GC.cond rfl (fun _ => ?_) (fun hq4 => by cases hq4)
    refine GC.seq ?_
    refine GC.region ?_
    refine GL.val (v := (.bool false)) (Ex.assign rfl) (by decide) ?_
    refine GL.nil ?_
    refine GE.thenN ?_
    refine GC.ret ?_
    refine GE.thenR ?_
    refine GC.ret1 rfl (Rv.tmp rfl) (fun wN HN => ?_)
    exact HN.ret () trivial (by rw [eqB, decide_eq_false (fun h => by have := congrArg List.length h.2.2; omega)]) (List.nil_sublist _) rfl
  · refine GL.val (v := (.bool false)) (Ex.cast (Ex.neq rfl rfl) (congrArg Value.bool (decide_eq_false hq3))) (by decide) ?_
    refine GL.val (v := (.bool false)) (Ex.move rfl) (by decide) ?_
    refine GL.stepG (tj := 11) rfl rfl (Ex.wp (v := (.pointer (some ⟨bq1, 1, none⟩))) (Ex.cast (Ex.fieldAddr rfl Try.underlying32 rfl T.sz3 (by decide)) rfl) (by decide)) (fun _ _ => ?_)
    refine GL.stepG (tj := 11) rfl rfl (Ex.wp (v := (.int .i64 H1)) (Ex.load rfl T.ag3 (i := 1) rfl rfl) (by decide)) (fun _ _ => ?_)
    refine GL.stepG (tj := 11) rfl rfl (Ex.wp (v := (.pointer (some ⟨bq2, 1, none⟩))) (Ex.cast (Ex.fieldAddr rfl Try.underlying32 rfl T.sz3 (by decide)) rfl) (by decide)) (fun _ _ => ?_)
    refine GL.stepG (tj := 11) rfl rfl (Ex.wp (v := (.int .i64 H2)) (Ex.load rfl T.ag3 (i := 0) rfl rfl) (by decide)) (fun _ _ => ?_)
    by_cases hq5 : H1 ≠ H2
    · refine GL.stepG (tj := 11) rfl rfl (Ex.wp (v := (.bool true)) (Ex.cast (Ex.neq rfl rfl) (congrArg Value.bool (decide_eq_true hq5))) (by decide)) (fun _ _ => ?_)
      refine GL.val (v := (.bool true)) (Ex.pickF rfl rfl) (by decide) ?_
      refine GL.val (v := (.bool true)) (Ex.move rfl) (by decide) ?_
      refine GL.skipG (tj := 18) rfl rfl rfl (by decide) ?_
      refine GL.skipG (tj := 18) rfl rfl rfl (by decide) ?_
      refine GL.skipG (tj := 18) rfl rfl rfl (by decide) ?_
      refine GL.skipG (tj := 18) rfl rfl rfl (by decide) ?_
      refine GL.skipG (tj := 18) rfl rfl rfl (by decide) ?_
      refine GL.skipG (tj := 18) rfl rfl rfl (by decide) ?_
      refine GL.skipG (tj := 18) rfl rfl rfl (by decide) ?_
      refine GL.val (v := (.bool true)) (Ex.pickT rfl rfl) (by decide) ?_
      refine GL.nil ?_
      refine GE.thenN ?_
      refine GC.cond rfl (fun _ => ?_) (fun hq6 => by cases hq6)
      refine GC.seq ?_
      refine GC.region ?_
      refine GL.val (v := (.bool false)) (Ex.assign rfl) (by decide) ?_
      refine GL.nil ?_
      refine GE.thenN ?_
      refine GC.ret ?_
      refine GE.thenR ?_
      refine GC.ret1 rfl (Rv.tmp rfl) (fun wN HN => ?_)
      exact HN.ret () trivial (by rw [eqB, decide_eq_false (fun h => by have := congrArg List.length h.2.2; omega)]) (List.nil_sublist _) rfl
    · refine GL.stepG (tj := 11) rfl rfl (Ex.wp (v := (.bool false)) (Ex.cast (Ex.neq rfl rfl) (congrArg Value.bool (decide_eq_false hq5))) (by decide)) (fun _ _ => ?_)
      refine GL.val (v := (.bool false)) (Ex.pickF rfl rfl) (by decide) ?_
      refine GL.val (v := (.bool false)) (Ex.move rfl) (by decide) ?_
      refine GL.stepG (tj := 18) rfl rfl (Ex.wp (v := (.pointer (some ⟨bq1, 2, none⟩))) (Ex.cast (Ex.fieldAddr rfl Try.underlying32 rfl T.sz30 (by decide)) rfl) (by decide)) (fun _ _ => ?_)
      refine GL.stepG (tj := 18) rfl rfl (Ex.wp (v := (.slice (some ⟨b1, o1, none⟩) n1 cap1)) (Ex.load rfl T.ag30 (i := 1) rfl rfl) (by decide)) (fun _ _ => ?_)
      refine GL.stepG (tj := 18) rfl rfl (Ex.wp (v := (.int .i64 ((n1 : Int)))) (Ex.len rfl Try.underlying30) (by decide)) (fun _ _ => ?_)
      refine GL.stepG (tj := 18) rfl rfl (Ex.wp (v := (.pointer (some ⟨bq2, 2, none⟩))) (Ex.cast (Ex.fieldAddr rfl Try.underlying32 rfl T.sz30 (by decide)) rfl) (by decide)) (fun _ _ => ?_)
      refine GL.stepG (tj := 18) rfl rfl (Ex.wp (v := (.slice (some ⟨b2, o2, none⟩) n2 cap2)) (Ex.load rfl T.ag30 (i := 0) rfl rfl) (by decide)) (fun _ _ => ?_)
      refine GL.stepG (tj := 18) rfl rfl (Ex.wp (v := (.int .i64 ((n2 : Int)))) (Ex.len rfl Try.underlying30) (by decide)) (fun _ _ => ?_)
      refine GL.stepG (tj := 18) rfl rfl (Ex.wp (v := (.bool (decide (((n1 : Int)) ≠ ((n2 : Int)))))) (Ex.neq rfl rfl) (by decide)) (fun _ _ => ?_)
      refine GL.val (v := (.bool (decide (((n1 : Int)) ≠ ((n2 : Int)))))) (Ex.pickF rfl rfl) (by decide) ?_
      refine GL.nil ?_
      refine GE.thenN ?_
      refine GC.cond rfl (fun hq7 => ?_) (fun hq7 => ?_)
      · replace hq7 := of_decide_eq_true hq7
        refine GC.seq ?_
        refine GC.region ?_
        refine GL.val (v := (.bool false)) (Ex.assign rfl) (by decide) ?_
        refine GL.nil ?_
        refine GE.thenN ?_
        refine GC.ret ?_
        refine GE.thenR ?_
        refine GC.ret1 rfl (Rv.tmp rfl) (fun wN HN => ?_)
        exact HN.ret () trivial (by rw [eqB, decide_eq_false (fun h => by have := congrArg List.length h.2.2; omega)]) (List.nil_sublist _) rfl
      · replace hq7 := of_decide_eq_false hq7
        refine GC.skip ?_
        refine GE.thenN ?_
        refine GC.seq ?_
        refine GC.seq ?_
        refine GC.region ?_
        refine GL.val (v := (.int .i64 0)) (Ex.assign rfl) (by decide) ?_
        refine GL.nil ?_
        refine GE.thenN ?_
        refine GC.block ?_
        refine GC.loop (σ := Nat) (fun k => k ≤ n1 ∧ ∀ j, j < k → xs.getD j 0 = ys.getD j 0) (fun k => [(2, (.pointer (some ⟨bq1, 0, none⟩))), (3, (.pointer (some ⟨bq2, 0, none⟩))), (5, (.int .i64 (((k : Nat) : Int))))]) (fun k => [⟨bq2, [(.int .i64 W2), (.int .i64 H2), (.slice (some ⟨b2, o2, none⟩) n2 cap2)], 32, true⟩, ⟨bq1, [(.int .i64 W1), (.int .i64 H1), (.slice (some ⟨b1, o1, none⟩) n1 cap1)], 32, true⟩]) (fun k => n1 - k) (0) ⟨Nat.zero_le _, fun j hj => absurd hj (Nat.not_lt_zero _)⟩ ((sub_cons rfl ((sub_cons rfl ((sub_cons rfl ((sub_nil _)))))))) (List.Sublist.cons_cons _ (List.Sublist.cons_cons _ (List.nil_sublist _))) (fun k hp => ?_)
        obtain ⟨hp1, hp2⟩ := hp
        refine GC.seq ?_
        refine GC.seq ?_
        refine GC.region ?_
        refine GL.val (v := (.int .i64 (((k : Nat) : Int)))) (Ex.move rfl) (by decide) ?_
        refine GL.val (v := (.pointer (some ⟨bq1, 2, none⟩))) (Ex.cast (Ex.fieldAddr rfl Try.underlying32 rfl T.sz30 (by decide)) rfl) (by decide) ?_
        refine GL.val (v := (.slice (some ⟨b1, o1, none⟩) n1 cap1)) (Ex.load rfl T.ag30 (i := 1) rfl rfl) (by decide) ?_
        refine GL.val (v := (.int .i64 ((n1 : Int)))) (Ex.len rfl Try.underlying30) (by decide) ?_
        refine GL.val (v := (.bool (decide ((((k : Nat) : Int)) < ((n1 : Int)))))) (Ex.lss rfl rfl) (by decide) ?_
        refine GL.nil ?_
        refine GE.thenN ?_
        refine GC.cond rfl (fun hq8 => ?_) (fun hq8 => ?_)
        · replace hq8 := of_decide_eq_true hq8
          refine GC.skip ?_
          refine GE.thenN ?_
          refine GC.seq ?_
          refine GC.block ?_
          refine GC.seq ?_
          refine GC.draw [⟨bq2, [(.int .i64 W2), (.int .i64 H2), (.slice (some ⟨b2, o2, none⟩) n2 cap2)], 32, true⟩, ⟨bq1, [(.int .i64 W1), (.int .i64 H1), (.slice (some ⟨b1, o1, none⟩) n1 cap1)], 32, true⟩] T.mixed (fuel := 11) rfl rfl ?_
          refine GH.take 0 (v := (.pointer (some ⟨bq1, 2, none⟩))) rfl (by kernel_rfl) (by kernel_rfl) (by kernel_rfl) (fun _ _ _ h => h) (Ex.cast (Ex.fieldAddr rfl Try.underlying32 rfl T.sz30 (by decide)) rfl) (List.Sublist.cons_cons _ (List.Sublist.cons_cons _ (List.nil_sublist _))) (by decide) ?_
          refine GH.take 1 (v := (.slice (some ⟨b1, o1, none⟩) n1 cap1)) rfl (by kernel_rfl) (by kernel_rfl) (by kernel_rfl) (fun _ _ _ h => h) (Ex.load rfl T.ag30 (i := 1) rfl rfl) (List.Sublist.cons_cons _ (List.Sublist.cons_cons _ (List.nil_sublist _))) (by decide) ?_
          refine GH.take 2 (v := (.int .i64 (((k : Nat) : Int)))) rfl (by kernel_rfl) (by kernel_rfl) (by kernel_rfl) (fun _ _ _ h => h) (Ex.move rfl) (List.Sublist.cons_cons _ (List.Sublist.cons_cons _ (List.nil_sublist _))) (by decide) ?_
          refine GH.take 3 (v := (.pointer (some ⟨b1, o1 + k, none⟩))) rfl (by kernel_rfl) (by kernel_rfl) (by kernel_rfl) (fun _ _ _ h => h) (Ex.cast (Ex.indexAddr rfl rfl Try.underlying30 T.sz72 (by omega) (by omega)) (by simp)) (List.Sublist.cons_cons _ (List.Sublist.cons_cons _ (List.nil_sublist _))) (by decide) ?_
          refine GH.take 4 (v := (.int .u32 (xs.getD k 0))) rfl (by kernel_rfl) (by kernel_rfl) (by kernel_rfl) (fun _ _ _ h => h) (Ex.loadO rfl T.ag72 (Rd.at hr1 (by omega)) (fun x => x)) (List.Sublist.cons_cons _ (List.Sublist.cons_cons _ (List.nil_sublist _))) (by decide) ?_
          refine GH.take 5 (v := (.pointer (some ⟨bq2, 2, none⟩))) rfl (by kernel_rfl) (by kernel_rfl) (by kernel_rfl) (fun _ _ _ h => h) (Ex.cast (Ex.fieldAddr rfl Try.underlying32 rfl T.sz30 (by decide)) rfl) (List.Sublist.cons_cons _ (List.Sublist.cons_cons _ (List.nil_sublist _))) (by decide) ?_
          refine GH.take 6 (v := (.slice (some ⟨b2, o2, none⟩) n2 cap2)) rfl (by kernel_rfl) (by kernel_rfl) (by kernel_rfl) (fun _ _ _ h => h) (Ex.load rfl T.ag30 (i := 0) rfl rfl) (List.Sublist.cons_cons _ (List.Sublist.cons_cons _ (List.nil_sublist _))) (by decide) ?_
          refine GH.take 7 (v := (.int .i64 (((k : Nat) : Int)))) rfl (by kernel_rfl) (by kernel_rfl) (by kernel_rfl) (fun _ _ _ h => h) (Ex.move rfl) (List.Sublist.cons_cons _ (List.Sublist.cons_cons _ (List.nil_sublist _))) (by decide) ?_
          refine GH.take 8 (v := (.pointer (some ⟨b2, o2 + k, none⟩))) rfl (by kernel_rfl) (by kernel_rfl) (by kernel_rfl) (fun _ _ _ h => h) (Ex.cast (Ex.indexAddr rfl rfl Try.underlying30 T.sz72 (by omega) (by omega)) (by simp)) (List.Sublist.cons_cons _ (List.Sublist.cons_cons _ (List.nil_sublist _))) (by decide) ?_
          refine GH.take 9 (v := (.int .u32 (ys.getD k 0))) rfl (by kernel_rfl) (by kernel_rfl) (by kernel_rfl) (fun _ _ _ h => h) (Ex.loadO rfl T.ag72 (Rd.at hr2 (by omega)) (fun x => x)) (List.Sublist.cons_cons _ (List.Sublist.cons_cons _ (List.nil_sublist _))) (by decide) ?_
          refine GH.take 10 (v := (.bool (decide ((xs.getD k 0) ≠ (ys.getD k 0))))) rfl (by kernel_rfl) (by kernel_rfl) (by kernel_rfl) (fun _ _ _ h => h) (Ex.neq rfl rfl) (List.Sublist.cons_cons _ (List.Sublist.cons_cons _ (List.nil_sublist _))) (by decide) ?_
          refine GH.done (by kernel_rfl) ?_
          refine GE.thenN ?_
          refine GC.cond rfl (fun hq9 => ?_) (fun hq9 => ?_)
          · replace hq9 := of_decide_eq_true hq9
            have hne := hq9
            refine GC.seq ?_
            refine GC.region ?_
            refine GL.val (v := (.bool false)) (Ex.assign rfl) (by decide) ?_
            refine GL.nil ?_
            refine GE.thenN ?_
            refine GC.ret ?_
            refine GE.blockR ?_
            refine GE.thenR ?_
            refine GE.thenR ?_
            refine GE.blockR ?_
            refine GE.thenR ?_
            refine GC.ret1 rfl (Rv.tmp rfl) (fun wN HN => ?_)
            exact HN.ret () trivial (by rw [eqB, decide_eq_false (fun h => hne (by rw [h.2.2]))]) (List.nil_sublist _) rfl
          · replace hq9 := of_decide_eq_false hq9
            have heq := hq9
            refine GC.skip ?_
            refine GE.blockN ?_
            refine GE.thenN ?_
            refine GC.region ?_
            refine GL.val (v := (.int .i64 (((k : Nat) : Int)))) (Ex.move rfl) (by decide) ?_
            refine GL.val (v := (.int .i64 (((k + 1 : Nat) : Int)))) (Ex.add rfl rfl (Z := ((k + 1 : Nat) : Int)) (w64 (by omega))) (by decide) ?_
            refine GL.val (v := (.int .i64 (((k + 1 : Nat) : Int)))) (Ex.assign rfl) (by decide) ?_
            refine GL.nil ?_
            refine GE.thenN ?_
            exact Head.mk (k + 1) ⟨by omega, fun j hj => by rcases Nat.lt_succ_iff_lt_or_eq.1 hj with hj | rfl; exact hp2 j hj; omega⟩ (by omega) ((sub_cons rfl ((sub_cons rfl ((sub_cons rfl ((sub_nil _)))))))) (List.Sublist.cons_cons _ (List.Sublist.cons_cons _ (List.nil_sublist _)))
        · replace hq8 := of_decide_eq_false hq8
          refine GC.exit ?_
          refine GE.thenE ?_
          refine GE.thenE ?_
          refine GE.blockE ?_
          refine GE.thenN ?_
          refine GC.seq ?_
          refine GC.region ?_
          refine GL.val (v := (.bool true)) (Ex.assign rfl) (by decide) ?_
          refine GL.nil ?_
          refine GE.thenN ?_
          refine GC.ret ?_
          refine GC.ret1 rfl (Rv.tmp rfl) (fun wN HN => ?_)
          exact HN.ret () trivial (by rw [eqB, decide_eq_true ⟨by omega, by omega, getD_ext (by omega) (fun j hj => hp2 j (by omega))⟩]) (List.nil_sublist _) rfl

set_option maxRecDepth 100000 in
set_option maxHeartbeats 1000000 in
theorem is_ (W1 H1 W2 H2 : Int) (b1 o1 n1 cap1 b2 o2 n2 cap2 : Nat) (xs ys : List Int) (w : World) (hx1 : xs.length = n1) (hx2 : ys.length = n2) (hr1 : Rd w b1 o1 (xs.map u32)) (hr2 : Rd w b2 o2 (ys.map u32)) (hb1 : n1 ≤ 35184372088832) :
    Calls Try.prog 44 #[(.agg #[(.int .i64 W1), (.int .i64 H1), (.slice (some ⟨b1, o1, none⟩) n1 cap1)]), (.int .i64 W2), (.int .i64 H2), (.slice (some ⟨b2, o2, none⟩) n2 cap2)] w (Ret w (fun _ : Unit => True) (fun _ => .bool (eqB W1 H1 xs W2 H2 ys)) (fun _ => [])) := by
  refine enter (M := None) (L := []) (n := 15) (l := [(0, (.agg #[(.int .i64 W1), (.int .i64 H1), (.slice (some ⟨b1, o1, none⟩) n1 cap1)])), (1, (.int .i64 W2)), (2, (.int .i64 H2)), (3, (.slice (some ⟨b2, o2, none⟩) n2 cap2))]) Try.func44 rfl rfl (Args.cons rfl (Args.cons rfl (Args.cons rfl (Args.cons rfl (Args.nil _))))) (Hp.start _ _) ?_
  refine GC.seq ?_
  refine GC.region ?_
  refine GL.step (Stp.box (cs := [(.int .i64 W1), (.int .i64 H1), (.slice (some ⟨b1, o1, none⟩) n1 cap1)]) rfl rfl (by decide)) (fun bq1 _ => ?_)
  refine GL.val (v := (.bool false)) (Ex.assign rfl) (by decide) ?_
  refine GL.nil ?_
  refine GE.thenN ?_
  refine GC.seq ?_
  refine GC.region ?_
  refine GL.val (v := (.agg #[(.int .i64 W1), (.int .i64 H1), (.slice (some ⟨b1, o1, none⟩) n1 cap1)])) (Ex.loadA rfl T.ag32 T.sz32 (i := 0) rfl (vs := [(.int .i64 W1), (.int .i64 H1), (.slice (some ⟨b1, o1, none⟩) n1 cap1)]) rfl rfl) (by decide) ?_
  refine GL.val (v := (.int .i64 W2)) (Ex.move rfl) (by decide) ?_
  refine GL.val (v := (.int .i64 H2)) (Ex.move rfl) (by decide) ?_
  refine GL.val (v := (.slice (some ⟨b2, o2, none⟩) n2 cap2)) (Ex.move rfl) (by decide) ?_
  refine GL.val (v := (.agg #[(.int .i64 W2), (.int .i64 H2), (.slice (some ⟨b2, o2, none⟩) n2 cap2)])) (Ex.build (vs := [(0, (.int .i64 W2)), (1, (.int .i64 H2)), (2, (.slice (some ⟨b2, o2, none⟩) n2 cap2))]) rfl (by first | rfl | kernel_rfl)) (by decide) ?_
  refine GL.step (Stp.callR (σ := Unit) (p := fun rz => True) (v := fun rz => (.bool (eqB W1 H1 xs W2 H2 ys))) (N := fun rz => []) (vs := [(.agg #[(.int .i64 W1), (.int .i64 H1), (.slice (some ⟨b1, o1, none⟩) n1 cap1)]), (.agg #[(.int .i64 W2), (.int .i64 H2), (.slice (some ⟨b2, o2, none⟩) n2 cap2)])]) rfl rfl T.own26 (by decide) (fun wc hw => ref_eq W1 H1 W2 H2 b1 o1 n1 cap1 b2 o2 n2 cap2 xs ys wc hx1 hx2 (hw.rd hr1 (fun x => x)) (hw.rd hr2 (fun x => x)) hb1)) (fun xq2 hq3 => ?_)
  refine GL.val (v := (.bool (eqB W1 H1 xs W2 H2 ys))) (Ex.assign rfl) (by decide) ?_
  refine GL.nil ?_
  refine GE.thenN ?_
  refine GC.ret ?_
  refine GC.ret1 rfl (Rv.tmp rfl) (fun wN HN => ?_)
  exact HN.ret () trivial rfl (List.nil_sublist _) rfl

set_option maxRecDepth 100000 in
set_option maxHeartbeats 1000000 in
theorem ref_border (k n i : Int) (w : World) :
    Calls Try.prog 15 #[(.int .i64 k), (.int .i64 n), (.int .i64 i)] w (Ret w (fun _ : Unit => True) (fun _ => .tuple #[.int .i64 (bord k n i).1, .int .i64 (bord k n i).2]) (fun _ => [])) := by
  refine enter (M := None) (L := []) (n := 64) (l := [(0, (.int .i64 k)), (1, (.int .i64 n)), (2, (.int .i64 i))]) Try.func15 rfl rfl (Args.cons rfl (Args.cons rfl (Args.cons rfl (Args.nil _)))) (Hp.start _ _) ?_
  refine GC.seq ?_
  refine GC.region ?_
  refine GL.val (v := (.int .i64 0)) (Ex.assign rfl) (by decide) ?_
  refine GL.val (v := (.int .i64 0)) (Ex.assign rfl) (by decide) ?_
  refine GL.nil ?_
  refine GE.thenN ?_
  refine GC.seq ?_
  refine GC.seq ?_
  refine GC.region ?_
  refine GL.val (v := (.int .i64 k)) (Ex.move rfl) (by decide) ?_
  by_cases hq1 : k ≠ 1
  · refine GL.val (v := (.bool true)) (Ex.cast (Ex.neq rfl rfl) (congrArg Value.bool (decide_eq_true hq1))) (by decide) ?_
    refine GL.val (v := (.bool true)) (Ex.move rfl) (by decide) ?_
    refine GL.stepG (tj := 12) rfl rfl (Ex.wp (v := (.int .i64 k)) (Ex.move rfl) (by decide)) (fun _ _ => ?_)
    by_cases hq2 : k ≠ 2
    · refine GL.stepG (tj := 12) rfl rfl (Ex.wp (v := (.bool true)) (Ex.cast (Ex.neq rfl rfl) (congrArg Value.bool (decide_eq_true hq2))) (by decide)) (fun _ _ => ?_)
      refine GL.val (v := (.bool true)) (Ex.pickT rfl rfl) (by decide) ?_
      refine GL.val (v := (.bool true)) (Ex.move rfl) (by decide) ?_
      refine GL.stepG (tj := 16) rfl rfl (Ex.wp (v := (.int .i64 k)) (Ex.move rfl) (by decide)) (fun _ _ => ?_)
      refine GL.stepG (tj := 16) rfl rfl (Ex.wp (v := (.bool (decide (k ≠ 3)))) (Ex.neq rfl rfl) (by decide)) (fun _ _ => ?_)
      refine GL.val (v := (.bool (decide (k ≠ 3)))) (Ex.pickT rfl rfl) (by decide) ?_
      refine GL.nil ?_
      refine GE.thenN ?_
      refine GC.cond rfl (fun hq3 => ?_) (fun hq3 => ?_)
      · replace hq3 := of_decide_eq_true hq3
        refine GC.seq ?_
        refine GC.region ?_
        refine GL.val (v := (.int .i64 0)) (Ex.assign rfl) (by decide) ?_
        refine GL.val (v := (.int .i64 53)) (Ex.assign rfl) (by decide) ?_
        refine GL.nil ?_
        refine GE.thenN ?_
        refine GC.ret ?_
        refine GE.thenR ?_
        refine GC.ret2 rfl (Rv.tmp rfl) (Rv.tmp rfl) (fun wN HN => ?_)
        exact HN.ret () trivial (by rw [show bord k n i = (0, 53) from by first | (exfalso; omega) | (unfold bord; (repeat (first | rw [if_pos (by omega)] | rw [if_neg (by omega)])); try exact Prod.ext (by dsimp only; omega) rfl)]) (List.nil_sublist _) rfl
      · replace hq3 := of_decide_eq_false hq3
        refine GC.skip ?_
        refine GE.thenN ?_
        refine GC.seq ?_
        refine GC.seq ?_
        refine GC.region ?_
        refine GL.val (v := (.int .i64 n)) (Ex.move rfl) (by decide) ?_
        by_cases hq4 : n < 1
        · refine GL.val (v := (.bool true)) (Ex.cast (Ex.lss rfl rfl) (congrArg Value.bool (decide_eq_true hq4))) (by decide) ?_
          refine GL.val (v := (.bool true)) (Ex.move rfl) (by decide) ?_
          refine GL.skipG (tj := 22) rfl rfl rfl (by decide) ?_
          refine GL.skipG (tj := 22) rfl rfl rfl (by decide) ?_
          refine GL.val (v := (.bool true)) (Ex.pickT rfl rfl) (by decide) ?_
          refine GL.nil ?_
          refine GE.thenN ?_
          refine GC.cond rfl (fun _ => ?_) (fun hq5 => by cases hq5)
          refine GC.seq ?_
          refine GC.region ?_
          refine GL.val (v := (.int .i64 0)) (Ex.assign rfl) (by decide) ?_
          refine GL.val (v := (.int .i64 50)) (Ex.assign rfl) (by decide) ?_
          refine GL.nil ?_
          refine GE.thenN ?_
          refine GC.ret ?_
          refine GE.thenR ?_
          refine GC.ret2 rfl (Rv.tmp rfl) (Rv.tmp rfl) (fun wN HN => ?_)
          exact HN.ret () trivial (by rw [show bord k n i = (0, 50) from by first | (exfalso; omega) | (unfold bord; (repeat (first | rw [if_pos (by omega)] | rw [if_neg (by omega)])); try exact Prod.ext (by dsimp only; omega) rfl)]) (List.nil_sublist _) rfl
        · refine GL.val (v := (.bool false)) (Ex.cast (Ex.lss rfl rfl) (congrArg Value.bool (decide_eq_false hq4))) (by decide) ?_
          refine GL.val (v := (.bool false)) (Ex.move rfl) (by decide) ?_
          refine GL.stepG (tj := 22) rfl rfl (Ex.wp (v := (.int .i64 n)) (Ex.move rfl) (by decide)) (fun _ _ => ?_)
          refine GL.stepG (tj := 22) rfl rfl (Ex.wp (v := (.bool (decide (1024 < n)))) (Ex.gtr rfl rfl) (by decide)) (fun _ _ => ?_)
          refine GL.val (v := (.bool (decide (1024 < n)))) (Ex.pickF rfl rfl) (by decide) ?_
          refine GL.nil ?_
          refine GE.thenN ?_
          refine GC.cond rfl (fun hq6 => ?_) (fun hq6 => ?_)
          · replace hq6 := of_decide_eq_true hq6
            refine GC.seq ?_
            refine GC.region ?_
            refine GL.val (v := (.int .i64 0)) (Ex.assign rfl) (by decide) ?_
            refine GL.val (v := (.int .i64 50)) (Ex.assign rfl) (by decide) ?_
            refine GL.nil ?_
            refine GE.thenN ?_
            refine GC.ret ?_
            refine GE.thenR ?_
            refine GC.ret2 rfl (Rv.tmp rfl) (Rv.tmp rfl) (fun wN HN => ?_)
            exact HN.ret () trivial (by rw [show bord k n i = (0, 50) from by first | (exfalso; omega) | (unfold bord; (repeat (first | rw [if_pos (by omega)] | rw [if_neg (by omega)])); try exact Prod.ext (by dsimp only; omega) rfl)]) (List.nil_sublist _) rfl
          · replace hq6 := of_decide_eq_false hq6
            refine GC.skip ?_
            refine GE.thenN ?_
            refine GC.seq ?_
            refine GC.block ?_
            refine GC.seq ?_
            refine GC.region ?_
            refine GL.val (v := (.int .i64 k)) (Ex.move rfl) (by decide) ?_
            refine GL.val (v := (.bool (decide (k = 1)))) (Ex.eql rfl rfl) (by decide) ?_
            refine GL.val (v := (.bool (decide (k = 1)))) (Ex.assign rfl) (by decide) ?_
            refine GL.nil ?_
            refine GE.thenN ?_
            refine GC.cond rfl (fun hq7 => ?_) (fun hq7 => ?_)
            · replace hq7 := of_decide_eq_true hq7
              refine GC.seq ?_
              refine GC.region ?_
              refine GL.val (v := (.int .i64 i)) (Ex.move rfl) (by decide) ?_
              refine GL.val (v := (.int .i64 n)) (Ex.move rfl) (by decide) ?_
              refine GL.val (v := (.int .i64 (n - 1))) (Ex.sub' rfl rfl (Z := n - 1) (w64 (by omega))) (by decide) ?_
              refine GL.val (v := (.int .i64 (min i (n - 1)))) (Ex.minI rfl rfl (Z := min i (n - 1)) (min64 _ _)) (by decide) ?_
              refine GL.val (v := (.int .i64 (max 0 (min i (n - 1))))) (Ex.maxI rfl rfl (Z := max 0 (min i (n - 1))) (max64 _ _)) (by decide) ?_
              refine GL.val (v := (.int .i64 (max 0 (min i (n - 1))))) (Ex.assign rfl) (by decide) ?_
              refine GL.val (v := (.int .i64 0)) (Ex.assign rfl) (by decide) ?_
              refine GL.nil ?_
              refine GE.thenN ?_
              refine GC.ret ?_
              refine GE.blockR ?_
              refine GE.thenR ?_
              refine GC.ret2 rfl (Rv.tmp rfl) (Rv.tmp rfl) (fun wN HN => ?_)
              exact HN.ret () trivial (by rw [show bord k n i = (max 0 (min i (n - 1)), 0) from by first | (exfalso; omega) | (unfold bord; (repeat (first | rw [if_pos (by omega)] | rw [if_neg (by omega)])); try exact Prod.ext (by dsimp only; omega) rfl)]) (List.nil_sublist _) rfl
            · replace hq7 := of_decide_eq_false hq7
              refine GC.seq ?_
              refine GC.region ?_
              refine GL.val (v := (.int .i64 k)) (Ex.move rfl) (by decide) ?_
              refine GL.val (v := (.bool (decide (k = 3)))) (Ex.eql rfl rfl) (by decide) ?_
              refine GL.val (v := (.bool (decide (k = 3)))) (Ex.assign rfl) (by decide) ?_
              refine GL.nil ?_
              refine GE.thenN ?_
              refine GC.cond rfl (fun hq8 => ?_) (fun hq8 => ?_)
              · replace hq8 := of_decide_eq_true hq8
                refine GC.seq ?_
                have hb := tmod_bd i (by omega : 1 ≤ n)
                refine GC.region ?_
                refine GL.val (v := (.int .i64 i)) (Ex.move rfl) (by decide) ?_
                refine GL.val (v := (.int .i64 n)) (Ex.move rfl) (by decide) ?_
                refine GL.val (v := (.int .i64 (i.tmod n))) (Ex.rem rfl rfl (Z := i.tmod n) (by omega) rfl) (by decide) ?_
                refine GL.val (v := (.int .i64 n)) (Ex.move rfl) (by decide) ?_
                refine GL.val (v := (.int .i64 ((i.tmod n) + n))) (Ex.add rfl rfl (Z := (i.tmod n) + n) (w64 (by omega))) (by decide) ?_
                refine GL.val (v := (.int .i64 n)) (Ex.move rfl) (by decide) ?_
                refine GL.val (v := (.int .i64 (rst i n))) (Ex.rem rfl rfl (Z := rst i n) (by omega) rfl) (by decide) ?_
                refine GL.val (v := (.int .i64 (rst i n))) (Ex.assign rfl) (by decide) ?_
                refine GL.val (v := (.int .i64 0)) (Ex.assign rfl) (by decide) ?_
                refine GL.nil ?_
                refine GE.thenN ?_
                refine GC.ret ?_
                refine GE.blockR ?_
                refine GE.thenR ?_
                refine GC.ret2 rfl (Rv.tmp rfl) (Rv.tmp rfl) (fun wN HN => ?_)
                exact HN.ret () trivial (by rw [show bord k n i = (rst i n, 0) from by first | (exfalso; omega) | (unfold bord; (repeat (first | rw [if_pos (by omega)] | rw [if_neg (by omega)])); try exact Prod.ext (by dsimp only; omega) rfl)]) (List.nil_sublist _) rfl
              · replace hq8 := of_decide_eq_false hq8
                refine GC.seq ?_
                refine GC.region ?_
                refine GL.val (v := (.int .i64 n)) (Ex.move rfl) (by decide) ?_
                refine GL.val (v := (.bool (decide (n = 1)))) (Ex.eql rfl rfl) (by decide) ?_
                refine GL.val (v := (.bool (decide (n = 1)))) (Ex.assign rfl) (by decide) ?_
                refine GL.nil ?_
                refine GE.thenN ?_
                refine GC.cond rfl (fun hq9 => ?_) (fun hq9 => ?_)
                · replace hq9 := of_decide_eq_true hq9
                  refine GC.seq ?_
                  refine GC.region ?_
                  refine GL.val (v := (.int .i64 0)) (Ex.assign rfl) (by decide) ?_
                  refine GL.val (v := (.int .i64 0)) (Ex.assign rfl) (by decide) ?_
                  refine GL.nil ?_
                  refine GE.thenN ?_
                  refine GC.ret ?_
                  refine GE.blockR ?_
                  refine GE.thenR ?_
                  refine GC.ret2 rfl (Rv.tmp rfl) (Rv.tmp rfl) (fun wN HN => ?_)
                  exact HN.ret () trivial (by rw [show bord k n i = (0, 0) from by first | (exfalso; omega) | (unfold bord; (repeat (first | rw [if_pos (by omega)] | rw [if_neg (by omega)])); try exact Prod.ext (by dsimp only; omega) rfl)]) (List.nil_sublist _) rfl
                · replace hq9 := of_decide_eq_false hq9
                  refine GC.skip ?_
                  refine GE.blockN ?_
                  refine GE.thenN ?_
                  refine GC.seq ?_
                  refine GC.region ?_
                  refine GL.val (v := (.int .i64 n)) (Ex.move rfl) (by decide) ?_
                  refine GL.val (v := (.int .i64 (n - 1))) (Ex.sub' rfl rfl (Z := n - 1) (w64 (by omega))) (by decide) ?_
                  refine GL.val (v := (.int .i64 (2 * (n - 1)))) (Ex.mul rfl rfl (Z := 2 * (n - 1)) (w64 (by omega))) (by decide) ?_
                  refine GL.val (v := (.int .i64 (2 * (n - 1)))) (Ex.assign rfl) (by decide) ?_
                  refine GL.nil ?_
                  refine GE.thenN ?_
                  refine GC.seq ?_
                  have hb := tmod_bd i (show 1 ≤ 2 * (n - 1) by omega); have hb2 := rst_bd i (show 1 ≤ 2 * (n - 1) by omega)
                  refine GC.region ?_
                  refine GL.val (v := (.int .i64 i)) (Ex.move rfl) (by decide) ?_
                  refine GL.val (v := (.int .i64 (2 * (n - 1)))) (Ex.move rfl) (by decide) ?_
                  refine GL.val (v := (.int .i64 (i.tmod (2 * (n - 1))))) (Ex.rem rfl rfl (Z := i.tmod (2 * (n - 1))) (by omega) rfl) (by decide) ?_
                  refine GL.val (v := (.int .i64 (2 * (n - 1)))) (Ex.move rfl) (by decide) ?_
                  refine GL.val (v := (.int .i64 ((i.tmod (2 * (n - 1))) + (2 * (n - 1))))) (Ex.add rfl rfl (Z := (i.tmod (2 * (n - 1))) + (2 * (n - 1))) (w64 (by omega))) (by decide) ?_
                  refine GL.val (v := (.int .i64 (2 * (n - 1)))) (Ex.move rfl) (by decide) ?_
                  refine GL.val (v := (.int .i64 (rst i (2 * (n - 1))))) (Ex.rem rfl rfl (Z := rst i (2 * (n - 1))) (by omega) rfl) (by decide) ?_
                  refine GL.val (v := (.int .i64 (rst i (2 * (n - 1))))) (Ex.assign rfl) (by decide) ?_
                  refine GL.nil ?_
                  refine GE.thenN ?_
                  refine GC.seq ?_
                  refine GC.seq ?_
                  refine GC.region ?_
                  refine GL.val (v := (.int .i64 (rst i (2 * (n - 1))))) (Ex.move rfl) (by decide) ?_
                  refine GL.val (v := (.int .i64 n)) (Ex.move rfl) (by decide) ?_
                  refine GL.val (v := (.bool (decide ((rst i (2 * (n - 1))) < n)))) (Ex.lss rfl rfl) (by decide) ?_
                  refine GL.nil ?_
                  refine GE.thenN ?_
                  refine GC.cond rfl (fun hq10 => ?_) (fun hq10 => ?_)
                  · replace hq10 := of_decide_eq_true hq10
                    refine GC.seq ?_
                    refine GC.region ?_
                    refine GL.val (v := (.int .i64 (rst i (2 * (n - 1))))) (Ex.move rfl) (by decide) ?_
                    refine GL.val (v := (.int .i64 (rst i (2 * (n - 1))))) (Ex.assign rfl) (by decide) ?_
                    refine GL.val (v := (.int .i64 0)) (Ex.assign rfl) (by decide) ?_
                    refine GL.nil ?_
                    refine GE.thenN ?_
                    refine GC.ret ?_
                    refine GE.thenR ?_
                    refine GC.ret2 rfl (Rv.tmp rfl) (Rv.tmp rfl) (fun wN HN => ?_)
                    exact HN.ret () trivial (by rw [show bord k n i = (rst i (2 * (n - 1)), 0) from by first | (exfalso; omega) | (unfold bord; (repeat (first | rw [if_pos (by omega)] | rw [if_neg (by omega)])); try exact Prod.ext (by dsimp only; omega) rfl)]) (List.nil_sublist _) rfl
                  · replace hq10 := of_decide_eq_false hq10
                    refine GC.skip ?_
                    refine GE.thenN ?_
                    refine GC.seq ?_
                    refine GC.region ?_
                    refine GL.val (v := (.int .i64 (2 * (n - 1)))) (Ex.move rfl) (by decide) ?_
                    refine GL.val (v := (.int .i64 (rst i (2 * (n - 1))))) (Ex.move rfl) (by decide) ?_
                    refine GL.val (v := (.int .i64 ((2 * (n - 1)) - (rst i (2 * (n - 1)))))) (Ex.sub' rfl rfl (Z := (2 * (n - 1)) - (rst i (2 * (n - 1)))) (w64 (by omega))) (by decide) ?_
                    refine GL.val (v := (.int .i64 ((2 * (n - 1)) - (rst i (2 * (n - 1)))))) (Ex.assign rfl) (by decide) ?_
                    refine GL.val (v := (.int .i64 0)) (Ex.assign rfl) (by decide) ?_
                    refine GL.nil ?_
                    refine GE.thenN ?_
                    refine GC.ret ?_
                    refine GC.ret2 rfl (Rv.tmp rfl) (Rv.tmp rfl) (fun wN HN => ?_)
                    exact HN.ret () trivial (by rw [show bord k n i = ((2 * (n - 1)) - (rst i (2 * (n - 1))), 0) from by first | (exfalso; omega) | (unfold bord; (repeat (first | rw [if_pos (by omega)] | rw [if_neg (by omega)])); try exact Prod.ext (by dsimp only; omega) rfl)]) (List.nil_sublist _) rfl
    · refine GL.stepG (tj := 12) rfl rfl (Ex.wp (v := (.bool false)) (Ex.cast (Ex.neq rfl rfl) (congrArg Value.bool (decide_eq_false hq2))) (by decide)) (fun _ _ => ?_)
      refine GL.val (v := (.bool false)) (Ex.pickT rfl rfl) (by decide) ?_
      refine GL.val (v := (.bool false)) (Ex.move rfl) (by decide) ?_
      refine GL.skipG (tj := 16) rfl rfl rfl (by decide) ?_
      refine GL.skipG (tj := 16) rfl rfl rfl (by decide) ?_
      refine GL.val (v := (.bool false)) (Ex.pickF rfl rfl) (by decide) ?_
      refine GL.nil ?_
      refine GE.thenN ?_
      refine GC.cond rfl (fun hq11 => by cases hq11) (fun _ => ?_)
      refine GC.skip ?_
      refine GE.thenN ?_
      refine GC.seq ?_
      refine GC.seq ?_
      refine GC.region ?_
      refine GL.val (v := (.int .i64 n)) (Ex.move rfl) (by decide) ?_
      by_cases hq12 : n < 1
      · refine GL.val (v := (.bool true)) (Ex.cast (Ex.lss rfl rfl) (congrArg Value.bool (decide_eq_true hq12))) (by decide) ?_
        refine GL.val (v := (.bool true)) (Ex.move rfl) (by decide) ?_
        refine GL.skipG (tj := 22) rfl rfl rfl (by decide) ?_
        refine GL.skipG (tj := 22) rfl rfl rfl (by decide) ?_
        refine GL.val (v := (.bool true)) (Ex.pickT rfl rfl) (by decide) ?_
        refine GL.nil ?_
        refine GE.thenN ?_
        refine GC.cond rfl (fun _ => ?_) (fun hq13 => by cases hq13)
        refine GC.seq ?_
        refine GC.region ?_
        refine GL.val (v := (.int .i64 0)) (Ex.assign rfl) (by decide) ?_
        refine GL.val (v := (.int .i64 50)) (Ex.assign rfl) (by decide) ?_
        refine GL.nil ?_
        refine GE.thenN ?_
        refine GC.ret ?_
        refine GE.thenR ?_
        refine GC.ret2 rfl (Rv.tmp rfl) (Rv.tmp rfl) (fun wN HN => ?_)
        exact HN.ret () trivial (by rw [show bord k n i = (0, 50) from by first | (exfalso; omega) | (unfold bord; (repeat (first | rw [if_pos (by omega)] | rw [if_neg (by omega)])); try exact Prod.ext (by dsimp only; omega) rfl)]) (List.nil_sublist _) rfl
      · refine GL.val (v := (.bool false)) (Ex.cast (Ex.lss rfl rfl) (congrArg Value.bool (decide_eq_false hq12))) (by decide) ?_
        refine GL.val (v := (.bool false)) (Ex.move rfl) (by decide) ?_
        refine GL.stepG (tj := 22) rfl rfl (Ex.wp (v := (.int .i64 n)) (Ex.move rfl) (by decide)) (fun _ _ => ?_)
        refine GL.stepG (tj := 22) rfl rfl (Ex.wp (v := (.bool (decide (1024 < n)))) (Ex.gtr rfl rfl) (by decide)) (fun _ _ => ?_)
        refine GL.val (v := (.bool (decide (1024 < n)))) (Ex.pickF rfl rfl) (by decide) ?_
        refine GL.nil ?_
        refine GE.thenN ?_
        refine GC.cond rfl (fun hq14 => ?_) (fun hq14 => ?_)
        · replace hq14 := of_decide_eq_true hq14
          refine GC.seq ?_
          refine GC.region ?_
          refine GL.val (v := (.int .i64 0)) (Ex.assign rfl) (by decide) ?_
          refine GL.val (v := (.int .i64 50)) (Ex.assign rfl) (by decide) ?_
          refine GL.nil ?_
          refine GE.thenN ?_
          refine GC.ret ?_
          refine GE.thenR ?_
          refine GC.ret2 rfl (Rv.tmp rfl) (Rv.tmp rfl) (fun wN HN => ?_)
          exact HN.ret () trivial (by rw [show bord k n i = (0, 50) from by first | (exfalso; omega) | (unfold bord; (repeat (first | rw [if_pos (by omega)] | rw [if_neg (by omega)])); try exact Prod.ext (by dsimp only; omega) rfl)]) (List.nil_sublist _) rfl
        · replace hq14 := of_decide_eq_false hq14
          refine GC.skip ?_
          refine GE.thenN ?_
          refine GC.seq ?_
          refine GC.block ?_
          refine GC.seq ?_
          refine GC.region ?_
          refine GL.val (v := (.int .i64 k)) (Ex.move rfl) (by decide) ?_
          refine GL.val (v := (.bool (decide (k = 1)))) (Ex.eql rfl rfl) (by decide) ?_
          refine GL.val (v := (.bool (decide (k = 1)))) (Ex.assign rfl) (by decide) ?_
          refine GL.nil ?_
          refine GE.thenN ?_
          refine GC.cond rfl (fun hq15 => ?_) (fun hq15 => ?_)
          · replace hq15 := of_decide_eq_true hq15
            refine GC.seq ?_
            refine GC.region ?_
            refine GL.val (v := (.int .i64 i)) (Ex.move rfl) (by decide) ?_
            refine GL.val (v := (.int .i64 n)) (Ex.move rfl) (by decide) ?_
            refine GL.val (v := (.int .i64 (n - 1))) (Ex.sub' rfl rfl (Z := n - 1) (w64 (by omega))) (by decide) ?_
            refine GL.val (v := (.int .i64 (min i (n - 1)))) (Ex.minI rfl rfl (Z := min i (n - 1)) (min64 _ _)) (by decide) ?_
            refine GL.val (v := (.int .i64 (max 0 (min i (n - 1))))) (Ex.maxI rfl rfl (Z := max 0 (min i (n - 1))) (max64 _ _)) (by decide) ?_
            refine GL.val (v := (.int .i64 (max 0 (min i (n - 1))))) (Ex.assign rfl) (by decide) ?_
            refine GL.val (v := (.int .i64 0)) (Ex.assign rfl) (by decide) ?_
            refine GL.nil ?_
            refine GE.thenN ?_
            refine GC.ret ?_
            refine GE.blockR ?_
            refine GE.thenR ?_
            refine GC.ret2 rfl (Rv.tmp rfl) (Rv.tmp rfl) (fun wN HN => ?_)
            exact HN.ret () trivial (by rw [show bord k n i = (max 0 (min i (n - 1)), 0) from by first | (exfalso; omega) | (unfold bord; (repeat (first | rw [if_pos (by omega)] | rw [if_neg (by omega)])); try exact Prod.ext (by dsimp only; omega) rfl)]) (List.nil_sublist _) rfl
          · replace hq15 := of_decide_eq_false hq15
            refine GC.seq ?_
            refine GC.region ?_
            refine GL.val (v := (.int .i64 k)) (Ex.move rfl) (by decide) ?_
            refine GL.val (v := (.bool (decide (k = 3)))) (Ex.eql rfl rfl) (by decide) ?_
            refine GL.val (v := (.bool (decide (k = 3)))) (Ex.assign rfl) (by decide) ?_
            refine GL.nil ?_
            refine GE.thenN ?_
            refine GC.cond rfl (fun hq16 => ?_) (fun hq16 => ?_)
            · replace hq16 := of_decide_eq_true hq16
              refine GC.seq ?_
              have hb := tmod_bd i (by omega : 1 ≤ n)
              refine GC.region ?_
              refine GL.val (v := (.int .i64 i)) (Ex.move rfl) (by decide) ?_
              refine GL.val (v := (.int .i64 n)) (Ex.move rfl) (by decide) ?_
              refine GL.val (v := (.int .i64 (i.tmod n))) (Ex.rem rfl rfl (Z := i.tmod n) (by omega) rfl) (by decide) ?_
              refine GL.val (v := (.int .i64 n)) (Ex.move rfl) (by decide) ?_
              refine GL.val (v := (.int .i64 ((i.tmod n) + n))) (Ex.add rfl rfl (Z := (i.tmod n) + n) (w64 (by omega))) (by decide) ?_
              refine GL.val (v := (.int .i64 n)) (Ex.move rfl) (by decide) ?_
              refine GL.val (v := (.int .i64 (rst i n))) (Ex.rem rfl rfl (Z := rst i n) (by omega) rfl) (by decide) ?_
              refine GL.val (v := (.int .i64 (rst i n))) (Ex.assign rfl) (by decide) ?_
              refine GL.val (v := (.int .i64 0)) (Ex.assign rfl) (by decide) ?_
              refine GL.nil ?_
              refine GE.thenN ?_
              refine GC.ret ?_
              refine GE.blockR ?_
              refine GE.thenR ?_
              refine GC.ret2 rfl (Rv.tmp rfl) (Rv.tmp rfl) (fun wN HN => ?_)
              exact HN.ret () trivial (by rw [show bord k n i = (rst i n, 0) from by first | (exfalso; omega) | (unfold bord; (repeat (first | rw [if_pos (by omega)] | rw [if_neg (by omega)])); try exact Prod.ext (by dsimp only; omega) rfl)]) (List.nil_sublist _) rfl
            · replace hq16 := of_decide_eq_false hq16
              refine GC.seq ?_
              refine GC.region ?_
              refine GL.val (v := (.int .i64 n)) (Ex.move rfl) (by decide) ?_
              refine GL.val (v := (.bool (decide (n = 1)))) (Ex.eql rfl rfl) (by decide) ?_
              refine GL.val (v := (.bool (decide (n = 1)))) (Ex.assign rfl) (by decide) ?_
              refine GL.nil ?_
              refine GE.thenN ?_
              refine GC.cond rfl (fun hq17 => ?_) (fun hq17 => ?_)
              · replace hq17 := of_decide_eq_true hq17
                refine GC.seq ?_
                refine GC.region ?_
                refine GL.val (v := (.int .i64 0)) (Ex.assign rfl) (by decide) ?_
                refine GL.val (v := (.int .i64 0)) (Ex.assign rfl) (by decide) ?_
                refine GL.nil ?_
                refine GE.thenN ?_
                refine GC.ret ?_
                refine GE.blockR ?_
                refine GE.thenR ?_
                refine GC.ret2 rfl (Rv.tmp rfl) (Rv.tmp rfl) (fun wN HN => ?_)
                exact HN.ret () trivial (by rw [show bord k n i = (0, 0) from by first | (exfalso; omega) | (unfold bord; (repeat (first | rw [if_pos (by omega)] | rw [if_neg (by omega)])); try exact Prod.ext (by dsimp only; omega) rfl)]) (List.nil_sublist _) rfl
              · replace hq17 := of_decide_eq_false hq17
                refine GC.skip ?_
                refine GE.blockN ?_
                refine GE.thenN ?_
                refine GC.seq ?_
                refine GC.region ?_
                refine GL.val (v := (.int .i64 n)) (Ex.move rfl) (by decide) ?_
                refine GL.val (v := (.int .i64 (n - 1))) (Ex.sub' rfl rfl (Z := n - 1) (w64 (by omega))) (by decide) ?_
                refine GL.val (v := (.int .i64 (2 * (n - 1)))) (Ex.mul rfl rfl (Z := 2 * (n - 1)) (w64 (by omega))) (by decide) ?_
                refine GL.val (v := (.int .i64 (2 * (n - 1)))) (Ex.assign rfl) (by decide) ?_
                refine GL.nil ?_
                refine GE.thenN ?_
                refine GC.seq ?_
                have hb := tmod_bd i (show 1 ≤ 2 * (n - 1) by omega); have hb2 := rst_bd i (show 1 ≤ 2 * (n - 1) by omega)
                refine GC.region ?_
                refine GL.val (v := (.int .i64 i)) (Ex.move rfl) (by decide) ?_
                refine GL.val (v := (.int .i64 (2 * (n - 1)))) (Ex.move rfl) (by decide) ?_
                refine GL.val (v := (.int .i64 (i.tmod (2 * (n - 1))))) (Ex.rem rfl rfl (Z := i.tmod (2 * (n - 1))) (by omega) rfl) (by decide) ?_
                refine GL.val (v := (.int .i64 (2 * (n - 1)))) (Ex.move rfl) (by decide) ?_
                refine GL.val (v := (.int .i64 ((i.tmod (2 * (n - 1))) + (2 * (n - 1))))) (Ex.add rfl rfl (Z := (i.tmod (2 * (n - 1))) + (2 * (n - 1))) (w64 (by omega))) (by decide) ?_
                refine GL.val (v := (.int .i64 (2 * (n - 1)))) (Ex.move rfl) (by decide) ?_
                refine GL.val (v := (.int .i64 (rst i (2 * (n - 1))))) (Ex.rem rfl rfl (Z := rst i (2 * (n - 1))) (by omega) rfl) (by decide) ?_
                refine GL.val (v := (.int .i64 (rst i (2 * (n - 1))))) (Ex.assign rfl) (by decide) ?_
                refine GL.nil ?_
                refine GE.thenN ?_
                refine GC.seq ?_
                refine GC.seq ?_
                refine GC.region ?_
                refine GL.val (v := (.int .i64 (rst i (2 * (n - 1))))) (Ex.move rfl) (by decide) ?_
                refine GL.val (v := (.int .i64 n)) (Ex.move rfl) (by decide) ?_
                refine GL.val (v := (.bool (decide ((rst i (2 * (n - 1))) < n)))) (Ex.lss rfl rfl) (by decide) ?_
                refine GL.nil ?_
                refine GE.thenN ?_
                refine GC.cond rfl (fun hq18 => ?_) (fun hq18 => ?_)
                · replace hq18 := of_decide_eq_true hq18
                  refine GC.seq ?_
                  refine GC.region ?_
                  refine GL.val (v := (.int .i64 (rst i (2 * (n - 1))))) (Ex.move rfl) (by decide) ?_
                  refine GL.val (v := (.int .i64 (rst i (2 * (n - 1))))) (Ex.assign rfl) (by decide) ?_
                  refine GL.val (v := (.int .i64 0)) (Ex.assign rfl) (by decide) ?_
                  refine GL.nil ?_
                  refine GE.thenN ?_
                  refine GC.ret ?_
                  refine GE.thenR ?_
                  refine GC.ret2 rfl (Rv.tmp rfl) (Rv.tmp rfl) (fun wN HN => ?_)
                  exact HN.ret () trivial (by rw [show bord k n i = (rst i (2 * (n - 1)), 0) from by first | (exfalso; omega) | (unfold bord; (repeat (first | rw [if_pos (by omega)] | rw [if_neg (by omega)])); try exact Prod.ext (by dsimp only; omega) rfl)]) (List.nil_sublist _) rfl
                · replace hq18 := of_decide_eq_false hq18
                  refine GC.skip ?_
                  refine GE.thenN ?_
                  refine GC.seq ?_
                  refine GC.region ?_
                  refine GL.val (v := (.int .i64 (2 * (n - 1)))) (Ex.move rfl) (by decide) ?_
                  refine GL.val (v := (.int .i64 (rst i (2 * (n - 1))))) (Ex.move rfl) (by decide) ?_
                  refine GL.val (v := (.int .i64 ((2 * (n - 1)) - (rst i (2 * (n - 1)))))) (Ex.sub' rfl rfl (Z := (2 * (n - 1)) - (rst i (2 * (n - 1)))) (w64 (by omega))) (by decide) ?_
                  refine GL.val (v := (.int .i64 ((2 * (n - 1)) - (rst i (2 * (n - 1)))))) (Ex.assign rfl) (by decide) ?_
                  refine GL.val (v := (.int .i64 0)) (Ex.assign rfl) (by decide) ?_
                  refine GL.nil ?_
                  refine GE.thenN ?_
                  refine GC.ret ?_
                  refine GC.ret2 rfl (Rv.tmp rfl) (Rv.tmp rfl) (fun wN HN => ?_)
                  exact HN.ret () trivial (by rw [show bord k n i = ((2 * (n - 1)) - (rst i (2 * (n - 1))), 0) from by first | (exfalso; omega) | (unfold bord; (repeat (first | rw [if_pos (by omega)] | rw [if_neg (by omega)])); try exact Prod.ext (by dsimp only; omega) rfl)]) (List.nil_sublist _) rfl
  · refine GL.val (v := (.bool false)) (Ex.cast (Ex.neq rfl rfl) (congrArg Value.bool (decide_eq_false hq1))) (by decide) ?_
    refine GL.val (v := (.bool false)) (Ex.move rfl) (by decide) ?_
    refine GL.skipG (tj := 12) rfl rfl rfl (by decide) ?_
    refine GL.skipG (tj := 12) rfl rfl rfl (by decide) ?_
    refine GL.val (v := (.bool false)) (Ex.pickF rfl rfl) (by decide) ?_
    refine GL.val (v := (.bool false)) (Ex.move rfl) (by decide) ?_
    refine GL.skipG (tj := 16) rfl rfl rfl (by decide) ?_
    refine GL.skipG (tj := 16) rfl rfl rfl (by decide) ?_
    refine GL.val (v := (.bool false)) (Ex.pickF rfl rfl) (by decide) ?_
    refine GL.nil ?_
    refine GE.thenN ?_
    refine GC.cond rfl (fun hq19 => by cases hq19) (fun _ => ?_)
    refine GC.skip ?_
    refine GE.thenN ?_
    refine GC.seq ?_
    refine GC.seq ?_
    refine GC.region ?_
    refine GL.val (v := (.int .i64 n)) (Ex.move rfl) (by decide) ?_
    by_cases hq20 : n < 1
    · refine GL.val (v := (.bool true)) (Ex.cast (Ex.lss rfl rfl) (congrArg Value.bool (decide_eq_true hq20))) (by decide) ?_
      refine GL.val (v := (.bool true)) (Ex.move rfl) (by decide) ?_
      refine GL.skipG (tj := 22) rfl rfl rfl (by decide) ?_
      refine GL.skipG (tj := 22) rfl rfl rfl (by decide) ?_
      refine GL.val (v := (.bool true)) (Ex.pickT rfl rfl) (by decide) ?_
      refine GL.nil ?_
      refine GE.thenN ?_
      refine GC.cond rfl (fun _ => ?_) (fun hq21 => by cases hq21)
      refine GC.seq ?_
      refine GC.region ?_
      refine GL.val (v := (.int .i64 0)) (Ex.assign rfl) (by decide) ?_
      refine GL.val (v := (.int .i64 50)) (Ex.assign rfl) (by decide) ?_
      refine GL.nil ?_
      refine GE.thenN ?_
      refine GC.ret ?_
      refine GE.thenR ?_
      refine GC.ret2 rfl (Rv.tmp rfl) (Rv.tmp rfl) (fun wN HN => ?_)
      exact HN.ret () trivial (by rw [show bord k n i = (0, 50) from by first | (exfalso; omega) | (unfold bord; (repeat (first | rw [if_pos (by omega)] | rw [if_neg (by omega)])); try exact Prod.ext (by dsimp only; omega) rfl)]) (List.nil_sublist _) rfl
    · refine GL.val (v := (.bool false)) (Ex.cast (Ex.lss rfl rfl) (congrArg Value.bool (decide_eq_false hq20))) (by decide) ?_
      refine GL.val (v := (.bool false)) (Ex.move rfl) (by decide) ?_
      refine GL.stepG (tj := 22) rfl rfl (Ex.wp (v := (.int .i64 n)) (Ex.move rfl) (by decide)) (fun _ _ => ?_)
      refine GL.stepG (tj := 22) rfl rfl (Ex.wp (v := (.bool (decide (1024 < n)))) (Ex.gtr rfl rfl) (by decide)) (fun _ _ => ?_)
      refine GL.val (v := (.bool (decide (1024 < n)))) (Ex.pickF rfl rfl) (by decide) ?_
      refine GL.nil ?_
      refine GE.thenN ?_
      refine GC.cond rfl (fun hq22 => ?_) (fun hq22 => ?_)
      · replace hq22 := of_decide_eq_true hq22
        refine GC.seq ?_
        refine GC.region ?_
        refine GL.val (v := (.int .i64 0)) (Ex.assign rfl) (by decide) ?_
        refine GL.val (v := (.int .i64 50)) (Ex.assign rfl) (by decide) ?_
        refine GL.nil ?_
        refine GE.thenN ?_
        refine GC.ret ?_
        refine GE.thenR ?_
        refine GC.ret2 rfl (Rv.tmp rfl) (Rv.tmp rfl) (fun wN HN => ?_)
        exact HN.ret () trivial (by rw [show bord k n i = (0, 50) from by first | (exfalso; omega) | (unfold bord; (repeat (first | rw [if_pos (by omega)] | rw [if_neg (by omega)])); try exact Prod.ext (by dsimp only; omega) rfl)]) (List.nil_sublist _) rfl
      · replace hq22 := of_decide_eq_false hq22
        refine GC.skip ?_
        refine GE.thenN ?_
        refine GC.seq ?_
        refine GC.block ?_
        refine GC.seq ?_
        refine GC.region ?_
        refine GL.val (v := (.int .i64 k)) (Ex.move rfl) (by decide) ?_
        refine GL.val (v := (.bool (decide (k = 1)))) (Ex.eql rfl rfl) (by decide) ?_
        refine GL.val (v := (.bool (decide (k = 1)))) (Ex.assign rfl) (by decide) ?_
        refine GL.nil ?_
        refine GE.thenN ?_
        refine GC.cond rfl (fun hq23 => ?_) (fun hq23 => ?_)
        · replace hq23 := of_decide_eq_true hq23
          refine GC.seq ?_
          refine GC.region ?_
          refine GL.val (v := (.int .i64 i)) (Ex.move rfl) (by decide) ?_
          refine GL.val (v := (.int .i64 n)) (Ex.move rfl) (by decide) ?_
          refine GL.val (v := (.int .i64 (n - 1))) (Ex.sub' rfl rfl (Z := n - 1) (w64 (by omega))) (by decide) ?_
          refine GL.val (v := (.int .i64 (min i (n - 1)))) (Ex.minI rfl rfl (Z := min i (n - 1)) (min64 _ _)) (by decide) ?_
          refine GL.val (v := (.int .i64 (max 0 (min i (n - 1))))) (Ex.maxI rfl rfl (Z := max 0 (min i (n - 1))) (max64 _ _)) (by decide) ?_
          refine GL.val (v := (.int .i64 (max 0 (min i (n - 1))))) (Ex.assign rfl) (by decide) ?_
          refine GL.val (v := (.int .i64 0)) (Ex.assign rfl) (by decide) ?_
          refine GL.nil ?_
          refine GE.thenN ?_
          refine GC.ret ?_
          refine GE.blockR ?_
          refine GE.thenR ?_
          refine GC.ret2 rfl (Rv.tmp rfl) (Rv.tmp rfl) (fun wN HN => ?_)
          exact HN.ret () trivial (by rw [show bord k n i = (max 0 (min i (n - 1)), 0) from by first | (exfalso; omega) | (unfold bord; (repeat (first | rw [if_pos (by omega)] | rw [if_neg (by omega)])); try exact Prod.ext (by dsimp only; omega) rfl)]) (List.nil_sublist _) rfl
        · replace hq23 := of_decide_eq_false hq23
          refine GC.seq ?_
          refine GC.region ?_
          refine GL.val (v := (.int .i64 k)) (Ex.move rfl) (by decide) ?_
          refine GL.val (v := (.bool (decide (k = 3)))) (Ex.eql rfl rfl) (by decide) ?_
          refine GL.val (v := (.bool (decide (k = 3)))) (Ex.assign rfl) (by decide) ?_
          refine GL.nil ?_
          refine GE.thenN ?_
          refine GC.cond rfl (fun hq24 => ?_) (fun hq24 => ?_)
          · replace hq24 := of_decide_eq_true hq24
            refine GC.seq ?_
            have hb := tmod_bd i (by omega : 1 ≤ n)
            refine GC.region ?_
            refine GL.val (v := (.int .i64 i)) (Ex.move rfl) (by decide) ?_
            refine GL.val (v := (.int .i64 n)) (Ex.move rfl) (by decide) ?_
            refine GL.val (v := (.int .i64 (i.tmod n))) (Ex.rem rfl rfl (Z := i.tmod n) (by omega) rfl) (by decide) ?_
            refine GL.val (v := (.int .i64 n)) (Ex.move rfl) (by decide) ?_
            refine GL.val (v := (.int .i64 ((i.tmod n) + n))) (Ex.add rfl rfl (Z := (i.tmod n) + n) (w64 (by omega))) (by decide) ?_
            refine GL.val (v := (.int .i64 n)) (Ex.move rfl) (by decide) ?_
            refine GL.val (v := (.int .i64 (rst i n))) (Ex.rem rfl rfl (Z := rst i n) (by omega) rfl) (by decide) ?_
            refine GL.val (v := (.int .i64 (rst i n))) (Ex.assign rfl) (by decide) ?_
            refine GL.val (v := (.int .i64 0)) (Ex.assign rfl) (by decide) ?_
            refine GL.nil ?_
            refine GE.thenN ?_
            refine GC.ret ?_
            refine GE.blockR ?_
            refine GE.thenR ?_
            refine GC.ret2 rfl (Rv.tmp rfl) (Rv.tmp rfl) (fun wN HN => ?_)
            exact HN.ret () trivial (by rw [show bord k n i = (rst i n, 0) from by first | (exfalso; omega) | (unfold bord; (repeat (first | rw [if_pos (by omega)] | rw [if_neg (by omega)])); try exact Prod.ext (by dsimp only; omega) rfl)]) (List.nil_sublist _) rfl
          · replace hq24 := of_decide_eq_false hq24
            refine GC.seq ?_
            refine GC.region ?_
            refine GL.val (v := (.int .i64 n)) (Ex.move rfl) (by decide) ?_
            refine GL.val (v := (.bool (decide (n = 1)))) (Ex.eql rfl rfl) (by decide) ?_
            refine GL.val (v := (.bool (decide (n = 1)))) (Ex.assign rfl) (by decide) ?_
            refine GL.nil ?_
            refine GE.thenN ?_
            refine GC.cond rfl (fun hq25 => ?_) (fun hq25 => ?_)
            · replace hq25 := of_decide_eq_true hq25
              refine GC.seq ?_
              refine GC.region ?_
              refine GL.val (v := (.int .i64 0)) (Ex.assign rfl) (by decide) ?_
              refine GL.val (v := (.int .i64 0)) (Ex.assign rfl) (by decide) ?_
              refine GL.nil ?_
              refine GE.thenN ?_
              refine GC.ret ?_
              refine GE.blockR ?_
              refine GE.thenR ?_
              refine GC.ret2 rfl (Rv.tmp rfl) (Rv.tmp rfl) (fun wN HN => ?_)
              exact HN.ret () trivial (by rw [show bord k n i = (0, 0) from by first | (exfalso; omega) | (unfold bord; (repeat (first | rw [if_pos (by omega)] | rw [if_neg (by omega)])); try exact Prod.ext (by dsimp only; omega) rfl)]) (List.nil_sublist _) rfl
            · replace hq25 := of_decide_eq_false hq25
              refine GC.skip ?_
              refine GE.blockN ?_
              refine GE.thenN ?_
              refine GC.seq ?_
              refine GC.region ?_
              refine GL.val (v := (.int .i64 n)) (Ex.move rfl) (by decide) ?_
              refine GL.val (v := (.int .i64 (n - 1))) (Ex.sub' rfl rfl (Z := n - 1) (w64 (by omega))) (by decide) ?_
              refine GL.val (v := (.int .i64 (2 * (n - 1)))) (Ex.mul rfl rfl (Z := 2 * (n - 1)) (w64 (by omega))) (by decide) ?_
              refine GL.val (v := (.int .i64 (2 * (n - 1)))) (Ex.assign rfl) (by decide) ?_
              refine GL.nil ?_
              refine GE.thenN ?_
              refine GC.seq ?_
              have hb := tmod_bd i (show 1 ≤ 2 * (n - 1) by omega); have hb2 := rst_bd i (show 1 ≤ 2 * (n - 1) by omega)
              refine GC.region ?_
              refine GL.val (v := (.int .i64 i)) (Ex.move rfl) (by decide) ?_
              refine GL.val (v := (.int .i64 (2 * (n - 1)))) (Ex.move rfl) (by decide) ?_
              refine GL.val (v := (.int .i64 (i.tmod (2 * (n - 1))))) (Ex.rem rfl rfl (Z := i.tmod (2 * (n - 1))) (by omega) rfl) (by decide) ?_
              refine GL.val (v := (.int .i64 (2 * (n - 1)))) (Ex.move rfl) (by decide) ?_
              refine GL.val (v := (.int .i64 ((i.tmod (2 * (n - 1))) + (2 * (n - 1))))) (Ex.add rfl rfl (Z := (i.tmod (2 * (n - 1))) + (2 * (n - 1))) (w64 (by omega))) (by decide) ?_
              refine GL.val (v := (.int .i64 (2 * (n - 1)))) (Ex.move rfl) (by decide) ?_
              refine GL.val (v := (.int .i64 (rst i (2 * (n - 1))))) (Ex.rem rfl rfl (Z := rst i (2 * (n - 1))) (by omega) rfl) (by decide) ?_
              refine GL.val (v := (.int .i64 (rst i (2 * (n - 1))))) (Ex.assign rfl) (by decide) ?_
              refine GL.nil ?_
              refine GE.thenN ?_
              refine GC.seq ?_
              refine GC.seq ?_
              refine GC.region ?_
              refine GL.val (v := (.int .i64 (rst i (2 * (n - 1))))) (Ex.move rfl) (by decide) ?_
              refine GL.val (v := (.int .i64 n)) (Ex.move rfl) (by decide) ?_
              refine GL.val (v := (.bool (decide ((rst i (2 * (n - 1))) < n)))) (Ex.lss rfl rfl) (by decide) ?_
              refine GL.nil ?_
              refine GE.thenN ?_
              refine GC.cond rfl (fun hq26 => ?_) (fun hq26 => ?_)
              · replace hq26 := of_decide_eq_true hq26
                refine GC.seq ?_
                refine GC.region ?_
                refine GL.val (v := (.int .i64 (rst i (2 * (n - 1))))) (Ex.move rfl) (by decide) ?_
                refine GL.val (v := (.int .i64 (rst i (2 * (n - 1))))) (Ex.assign rfl) (by decide) ?_
                refine GL.val (v := (.int .i64 0)) (Ex.assign rfl) (by decide) ?_
                refine GL.nil ?_
                refine GE.thenN ?_
                refine GC.ret ?_
                refine GE.thenR ?_
                refine GC.ret2 rfl (Rv.tmp rfl) (Rv.tmp rfl) (fun wN HN => ?_)
                exact HN.ret () trivial (by rw [show bord k n i = (rst i (2 * (n - 1)), 0) from by first | (exfalso; omega) | (unfold bord; (repeat (first | rw [if_pos (by omega)] | rw [if_neg (by omega)])); try exact Prod.ext (by dsimp only; omega) rfl)]) (List.nil_sublist _) rfl
              · replace hq26 := of_decide_eq_false hq26
                refine GC.skip ?_
                refine GE.thenN ?_
                refine GC.seq ?_
                refine GC.region ?_
                refine GL.val (v := (.int .i64 (2 * (n - 1)))) (Ex.move rfl) (by decide) ?_
                refine GL.val (v := (.int .i64 (rst i (2 * (n - 1))))) (Ex.move rfl) (by decide) ?_
                refine GL.val (v := (.int .i64 ((2 * (n - 1)) - (rst i (2 * (n - 1)))))) (Ex.sub' rfl rfl (Z := (2 * (n - 1)) - (rst i (2 * (n - 1)))) (w64 (by omega))) (by decide) ?_
                refine GL.val (v := (.int .i64 ((2 * (n - 1)) - (rst i (2 * (n - 1)))))) (Ex.assign rfl) (by decide) ?_
                refine GL.val (v := (.int .i64 0)) (Ex.assign rfl) (by decide) ?_
                refine GL.nil ?_
                refine GE.thenN ?_
                refine GC.ret ?_
                refine GC.ret2 rfl (Rv.tmp rfl) (Rv.tmp rfl) (fun wN HN => ?_)
                exact HN.ret () trivial (by rw [show bord k n i = ((2 * (n - 1)) - (rst i (2 * (n - 1))), 0) from by first | (exfalso; omega) | (unfold bord; (repeat (first | rw [if_pos (by omega)] | rw [if_neg (by omega)])); try exact Prod.ext (by dsimp only; omega) rfl)]) (List.nil_sublist _) rfl

set_option maxRecDepth 100000 in
set_option maxHeartbeats 1000000 in
theorem num (e : Int) (w : World) :
    Calls Try.prog 16 #[(.int .i64 e)] w (Ret w (fun _ : Unit => True) (fun _ => .int .i64 e) (fun _ => [])) := by
  refine enter (M := None) (L := []) (n := 4) (l := [(0, (.int .i64 e))]) Try.func16 rfl rfl (Args.cons rfl (Args.nil _)) (Hp.start _ _) ?_
  refine GC.seq ?_
  refine GC.region ?_
  refine GL.val (v := (.int .i64 0)) (Ex.assign rfl) (by decide) ?_
  refine GL.nil ?_
  refine GE.thenN ?_
  refine GC.seq ?_
  refine GC.region ?_
  refine GL.val (v := (.int .i64 e)) (Ex.move rfl) (by decide) ?_
  refine GL.val (v := (.int .i64 e)) (Ex.assign rfl) (by decide) ?_
  refine GL.nil ?_
  refine GE.thenN ?_
  refine GC.ret ?_
  refine GC.ret1 rfl (Rv.tmp rfl) (fun wN HN => ?_)
  exact HN.ret () trivial rfl (List.nil_sublist _) rfl

set_option maxRecDepth 100000 in
set_option maxHeartbeats 1000000 in
theorem known (w : World) :
    Calls Try.prog 13 #[] w (Ret w (fun _ : Unit => True) (fun _ => .bool true) (fun _ => [])) := by
  refine enter (M := None) (L := []) (n := 105) (l := []) Try.func13 rfl rfl (Args.nil _) (Hp.start _ _) ?_
  refine GC.seq ?_
  refine GC.region ?_
  refine GL.val (v := (.bool false)) (Ex.assign rfl) (by decide) ?_
  refine GL.nil ?_
  refine GE.thenN ?_
  refine GC.seq ?_
  refine GC.region ?_
  refine GL.step (Stp.buildSlice (cs := [(.int .u32 1), (.int .u32 2), (.int .u32 3), (.int .u32 4), (.int .u32 5), (.int .u32 6)]) (vs := [(0, (.int .u32 1)), (1, (.int .u32 2)), (2, (.int .u32 3)), (3, (.int .u32 4)), (4, (.int .u32 5)), (5, (.int .u32 6))]) Try.underlying30 T.zr72 T.sz72 rfl (by decide) (by decide) (by first | rfl | kernel_rfl) (by decide)) (fun bq1 _ => ?_)
  refine GL.val (v := (.agg #[(.int .i64 2), (.int .i64 3), (.slice (some ⟨bq1, 0, none⟩) 6 6)])) (Ex.build (vs := [(0, (.int .i64 2)), (1, (.int .i64 3)), (2, (.slice (some ⟨bq1, 0, none⟩) 6 6))]) rfl (by first | rfl | kernel_rfl)) (by decide) ?_
  refine GL.step (Stp.alloc T.zr32 (by decide)) (fun bq2 _ => ?_)
  refine GL.step (Stp.storeL (i := 0) (L1 := [⟨bq2, [(.int .i64 2), (.int .i64 3), (.slice (some ⟨bq1, 0, none⟩) 6 6)], 32, true⟩, ⟨bq1, [(.int .u32 1), (.int .u32 2), (.int .u32 3), (.int .u32 4), (.int .u32 5), (.int .u32 6)], 72, true⟩]) rfl rfl rfl T.sz32 rfl rfl rfl rfl) (fun _ _ => ?_)
  refine GL.nil ?_
  refine GE.thenN ?_
  refine GC.seq ?_
  refine GC.region ?_
  refine GL.val (v := (.agg #[(.int .i64 2), (.int .i64 3), (.slice (some ⟨bq1, 0, none⟩) 6 6)])) (Ex.loadA rfl T.ag32 T.sz32 (i := 0) rfl (vs := [(.int .i64 2), (.int .i64 3), (.slice (some ⟨bq1, 0, none⟩) 6 6)]) rfl rfl) (by decide) ?_
  refine GL.step (Stp.callR (σ := Nat) (p := fun rz => True) (v := fun rz => (.tuple #[(.agg #[(.int .i64 (((3 : Nat) : Int))), (.int .i64 (((2 : Nat) : Int))), (.slice (some ⟨rz, 0, none⟩) (3 * 2) (3 * 2))]), (.int .i64 0)])) (N := fun rz => [⟨rz, (tab 3 (fun x y => smp [1, 2, 3, 4, 5, 6] 2 y (3 - 1 - x)) (3 * 2)).map u32, 72, true⟩]) (vs := [(.agg #[(.int .i64 2), (.int .i64 3), (.slice (some ⟨bq1, 0, none⟩) 6 6)]), (.int .i64 1)]) rfl rfl T.own33 (by decide) (fun wc hw => turn_1 2 3 6 6 bq1 0 [1, 2, 3, 4, 5, 6] 1 wc (by decide) rfl rfl (hw.rdOf (i := 1) rfl 0) (by decide) (by decide))) (fun xq3 hq4 => ?_)
  refine GL.val (v := (.tuple #[(.agg #[(.int .i64 (((3 : Nat) : Int))), (.int .i64 (((2 : Nat) : Int))), (.slice (some ⟨xq3, 0, none⟩) (3 * 2) (3 * 2))]), (.int .i64 0)])) (Ex.move rfl) (by decide) ?_
  refine GL.val (v := (.agg #[(.int .i64 (((3 : Nat) : Int))), (.int .i64 (((2 : Nat) : Int))), (.slice (some ⟨xq3, 0, none⟩) (3 * 2) (3 * 2))])) (Ex.extract rfl rfl) (by decide) ?_
  refine GL.val (v := (.int .i64 0)) (Ex.extract rfl rfl) (by decide) ?_
  refine GL.step (Stp.alloc T.zr32 (by decide)) (fun bq5 _ => ?_)
  refine GL.step (Stp.storeL (i := 0) (L1 := [⟨bq5, [(.int .i64 (((3 : Nat) : Int))), (.int .i64 (((2 : Nat) : Int))), (.slice (some ⟨xq3, 0, none⟩) (3 * 2) (3 * 2))], 32, true⟩, ⟨xq3, (tab 3 (fun x y => smp [1, 2, 3, 4, 5, 6] 2 y (3 - 1 - x)) (3 * 2)).map u32, 72, true⟩, ⟨bq2, [(.int .i64 2), (.int .i64 3), (.slice (some ⟨bq1, 0, none⟩) 6 6)], 32, true⟩, ⟨bq1, [(.int .u32 1), (.int .u32 2), (.int .u32 3), (.int .u32 4), (.int .u32 5), (.int .u32 6)], 72, true⟩]) rfl rfl rfl T.sz32 rfl rfl rfl rfl) (fun _ _ => ?_)
  refine GL.val (v := (.int .i64 0)) (Ex.assign rfl) (by decide) ?_
  refine GL.nil ?_
  refine GE.thenN ?_
  refine GC.seq ?_
  refine GC.region ?_
  refine GL.val (v := (.agg #[(.int .i64 2), (.int .i64 3), (.slice (some ⟨bq1, 0, none⟩) 6 6)])) (Ex.loadA rfl T.ag32 T.sz32 (i := 2) rfl (vs := [(.int .i64 2), (.int .i64 3), (.slice (some ⟨bq1, 0, none⟩) 6 6)]) rfl rfl) (by decide) ?_
  refine GL.step (Stp.callR (σ := Nat) (p := fun rz => True) (v := fun rz => (.tuple #[(.agg #[(.int .i64 (((3 : Nat) : Int))), (.int .i64 (((2 : Nat) : Int))), (.slice (some ⟨rz, 0, none⟩) (3 * 2) (3 * 2))]), (.int .i64 0)])) (N := fun rz => [⟨rz, (tab 3 (fun x y => smp [1, 2, 3, 4, 5, 6] 2 y x) (3 * 2)).map u32, 72, true⟩]) (vs := [(.agg #[(.int .i64 2), (.int .i64 3), (.slice (some ⟨bq1, 0, none⟩) 6 6)])]) rfl rfl T.own31 (by decide) (fun wc hw => transp 2 3 6 6 bq1 0 [1, 2, 3, 4, 5, 6] wc (by decide) rfl rfl (hw.rdOf (i := 3) rfl 0))) (fun xq6 hq7 => ?_)
  refine GL.val (v := (.tuple #[(.agg #[(.int .i64 (((3 : Nat) : Int))), (.int .i64 (((2 : Nat) : Int))), (.slice (some ⟨xq6, 0, none⟩) (3 * 2) (3 * 2))]), (.int .i64 0)])) (Ex.move rfl) (by decide) ?_
  refine GL.val (v := (.agg #[(.int .i64 (((3 : Nat) : Int))), (.int .i64 (((2 : Nat) : Int))), (.slice (some ⟨xq6, 0, none⟩) (3 * 2) (3 * 2))])) (Ex.extract rfl rfl) (by decide) ?_
  refine GL.val (v := (.int .i64 0)) (Ex.extract rfl rfl) (by decide) ?_
  refine GL.step (Stp.alloc T.zr32 (by decide)) (fun bq8 _ => ?_)
  refine GL.step (Stp.storeL (i := 0) (L1 := [⟨bq8, [(.int .i64 (((3 : Nat) : Int))), (.int .i64 (((2 : Nat) : Int))), (.slice (some ⟨xq6, 0, none⟩) (3 * 2) (3 * 2))], 32, true⟩, ⟨xq6, (tab 3 (fun x y => smp [1, 2, 3, 4, 5, 6] 2 y x) (3 * 2)).map u32, 72, true⟩, ⟨bq5, [(.int .i64 (((3 : Nat) : Int))), (.int .i64 (((2 : Nat) : Int))), (.slice (some ⟨xq3, 0, none⟩) (3 * 2) (3 * 2))], 32, true⟩, ⟨xq3, (tab 3 (fun x y => smp [1, 2, 3, 4, 5, 6] 2 y (3 - 1 - x)) (3 * 2)).map u32, 72, true⟩, ⟨bq2, [(.int .i64 2), (.int .i64 3), (.slice (some ⟨bq1, 0, none⟩) 6 6)], 32, true⟩, ⟨bq1, [(.int .u32 1), (.int .u32 2), (.int .u32 3), (.int .u32 4), (.int .u32 5), (.int .u32 6)], 72, true⟩]) rfl rfl rfl T.sz32 rfl rfl rfl rfl) (fun _ _ => ?_)
  refine GL.val (v := (.int .i64 0)) (Ex.assign rfl) (by decide) ?_
  refine GL.nil ?_
  refine GE.thenN ?_
  refine GC.seq ?_
  refine GC.region ?_
  refine GL.val (v := (.agg #[(.int .i64 2), (.int .i64 3), (.slice (some ⟨bq1, 0, none⟩) 6 6)])) (Ex.loadA rfl T.ag32 T.sz32 (i := 4) rfl (vs := [(.int .i64 2), (.int .i64 3), (.slice (some ⟨bq1, 0, none⟩) 6 6)]) rfl rfl) (by decide) ?_
  refine GL.val (v := (.agg #[(.int .i64 1), (.int .i64 0), (.int .i64 2), (.int .i64 2)])) (Ex.build (vs := [(0, (.int .i64 1)), (2, (.int .i64 2)), (3, (.int .i64 2))]) rfl (by first | rfl | kernel_rfl)) (by decide) ?_
  refine GL.step (Stp.callR (σ := Nat) (p := fun rz => True) (v := fun rz => (.tuple #[(.agg #[(.int .i64 ((((2 - 1) : Nat) : Int))), (.int .i64 ((((2 - 0) : Nat) : Int))), (.slice (some ⟨rz, 0, none⟩) ((2 - 1) * (2 - 0)) ((2 - 1) * (2 - 0)))]), (.int .i64 0)])) (N := fun rz => [⟨rz, (tab (2 - 1) (fun x y => smp [1, 2, 3, 4, 5, 6] 2 (1 + x) (0 + y)) ((2 - 1) * (2 - 0))).map u32, 72, true⟩]) (vs := [(.agg #[(.int .i64 2), (.int .i64 3), (.slice (some ⟨bq1, 0, none⟩) 6 6)]), (.agg #[(.int .i64 1), (.int .i64 0), (.int .i64 2), (.int .i64 2)])]) rfl rfl T.own24 (by decide) (fun wc hw => crop_in 2 3 6 6 bq1 0 1 0 2 2 [1, 2, 3, 4, 5, 6] wc (by decide) rfl rfl (hw.rdOf (i := 5) rfl 0) (by decide) (by decide) (by decide) (by decide))) (fun xq9 hq10 => ?_)
  refine GL.val (v := (.tuple #[(.agg #[(.int .i64 ((((2 - 1) : Nat) : Int))), (.int .i64 ((((2 - 0) : Nat) : Int))), (.slice (some ⟨xq9, 0, none⟩) ((2 - 1) * (2 - 0)) ((2 - 1) * (2 - 0)))]), (.int .i64 0)])) (Ex.move rfl) (by decide) ?_
  refine GL.val (v := (.agg #[(.int .i64 ((((2 - 1) : Nat) : Int))), (.int .i64 ((((2 - 0) : Nat) : Int))), (.slice (some ⟨xq9, 0, none⟩) ((2 - 1) * (2 - 0)) ((2 - 1) * (2 - 0)))])) (Ex.extract rfl rfl) (by decide) ?_
  refine GL.val (v := (.int .i64 0)) (Ex.extract rfl rfl) (by decide) ?_
  refine GL.step (Stp.alloc T.zr32 (by decide)) (fun bq11 _ => ?_)
  refine GL.step (Stp.storeL (i := 0) (L1 := [⟨bq11, [(.int .i64 ((((2 - 1) : Nat) : Int))), (.int .i64 ((((2 - 0) : Nat) : Int))), (.slice (some ⟨xq9, 0, none⟩) ((2 - 1) * (2 - 0)) ((2 - 1) * (2 - 0)))], 32, true⟩, ⟨xq9, (tab (2 - 1) (fun x y => smp [1, 2, 3, 4, 5, 6] 2 (1 + x) (0 + y)) ((2 - 1) * (2 - 0))).map u32, 72, true⟩, ⟨bq8, [(.int .i64 (((3 : Nat) : Int))), (.int .i64 (((2 : Nat) : Int))), (.slice (some ⟨xq6, 0, none⟩) (3 * 2) (3 * 2))], 32, true⟩, ⟨xq6, (tab 3 (fun x y => smp [1, 2, 3, 4, 5, 6] 2 y x) (3 * 2)).map u32, 72, true⟩, ⟨bq5, [(.int .i64 (((3 : Nat) : Int))), (.int .i64 (((2 : Nat) : Int))), (.slice (some ⟨xq3, 0, none⟩) (3 * 2) (3 * 2))], 32, true⟩, ⟨xq3, (tab 3 (fun x y => smp [1, 2, 3, 4, 5, 6] 2 y (3 - 1 - x)) (3 * 2)).map u32, 72, true⟩, ⟨bq2, [(.int .i64 2), (.int .i64 3), (.slice (some ⟨bq1, 0, none⟩) 6 6)], 32, true⟩, ⟨bq1, [(.int .u32 1), (.int .u32 2), (.int .u32 3), (.int .u32 4), (.int .u32 5), (.int .u32 6)], 72, true⟩]) rfl rfl rfl T.sz32 rfl rfl rfl rfl) (fun _ _ => ?_)
  refine GL.val (v := (.int .i64 0)) (Ex.assign rfl) (by decide) ?_
  refine GL.nil ?_
  refine GE.thenN ?_
  refine GC.seq ?_
  refine GC.region ?_
  refine GL.val (v := (.agg #[(.int .i64 2), (.int .i64 3), (.slice (some ⟨bq1, 0, none⟩) 6 6)])) (Ex.loadA rfl T.ag32 T.sz32 (i := 6) rfl (vs := [(.int .i64 2), (.int .i64 3), (.slice (some ⟨bq1, 0, none⟩) 6 6)]) rfl rfl) (by decide) ?_
  refine GL.step (Stp.buildSlice (cs := [(.int .u32 9), (.int .u32 9)]) (vs := [(0, (.int .u32 9)), (1, (.int .u32 9))]) Try.underlying30 T.zr72 T.sz72 rfl (by decide) (by decide) (by first | rfl | kernel_rfl) (by decide)) (fun bq12 _ => ?_)
  refine GL.val (v := (.agg #[(.int .i64 1), (.int .i64 2), (.slice (some ⟨bq12, 0, none⟩) 2 2)])) (Ex.build (vs := [(0, (.int .i64 1)), (1, (.int .i64 2)), (2, (.slice (some ⟨bq12, 0, none⟩) 2 2))]) rfl (by first | rfl | kernel_rfl)) (by decide) ?_
  refine GL.step (Stp.callR (σ := Nat) (p := fun rz => True) (v := fun rz => (.tuple #[(.agg #[(.int .i64 (((2 : Nat) : Int))), (.int .i64 (((3 : Nat) : Int))), (.slice (some ⟨rz, 0, none⟩) (2 * 3) (2 * 3))]), (.int .i64 0)])) (N := fun rz => [⟨rz, (tab 2 (pst 1 (-1) 1 2 (smp [1, 2, 3, 4, 5, 6] 2) (smp [9, 9] 1)) (2 * 3)).map u32, 72, true⟩]) (vs := [(.agg #[(.int .i64 2), (.int .i64 3), (.slice (some ⟨bq1, 0, none⟩) 6 6)]), (.agg #[(.int .i64 1), (.int .i64 2), (.slice (some ⟨bq12, 0, none⟩) 2 2)]), (.int .i64 1), (.int .i64 (-1))]) rfl rfl T.own25 (by decide) (fun wc hw => paste 2 3 6 6 bq1 0 1 2 2 2 bq12 0 [1, 2, 3, 4, 5, 6] [9, 9] 1 (-1) wc (by decide) rfl rfl (hw.rdOf (i := 8) rfl 0) (by decide) rfl rfl (hw.rdOf (i := 0) rfl 0) (by decide) (by decide))) (fun xq13 hq14 => ?_)
  refine GL.val (v := (.tuple #[(.agg #[(.int .i64 (((2 : Nat) : Int))), (.int .i64 (((3 : Nat) : Int))), (.slice (some ⟨xq13, 0, none⟩) (2 * 3) (2 * 3))]), (.int .i64 0)])) (Ex.move rfl) (by decide) ?_
  refine GL.val (v := (.agg #[(.int .i64 (((2 : Nat) : Int))), (.int .i64 (((3 : Nat) : Int))), (.slice (some ⟨xq13, 0, none⟩) (2 * 3) (2 * 3))])) (Ex.extract rfl rfl) (by decide) ?_
  refine GL.val (v := (.int .i64 0)) (Ex.extract rfl rfl) (by decide) ?_
  refine GL.step (Stp.alloc T.zr32 (by decide)) (fun bq15 _ => ?_)
  refine GL.step (Stp.storeL (i := 0) (L1 := [⟨bq15, [(.int .i64 (((2 : Nat) : Int))), (.int .i64 (((3 : Nat) : Int))), (.slice (some ⟨xq13, 0, none⟩) (2 * 3) (2 * 3))], 32, true⟩, ⟨xq13, (tab 2 (pst 1 (-1) 1 2 (smp [1, 2, 3, 4, 5, 6] 2) (smp [9, 9] 1)) (2 * 3)).map u32, 72, true⟩, ⟨bq12, [(.int .u32 9), (.int .u32 9)], 72, true⟩, ⟨bq11, [(.int .i64 ((((2 - 1) : Nat) : Int))), (.int .i64 ((((2 - 0) : Nat) : Int))), (.slice (some ⟨xq9, 0, none⟩) ((2 - 1) * (2 - 0)) ((2 - 1) * (2 - 0)))], 32, true⟩, ⟨xq9, (tab (2 - 1) (fun x y => smp [1, 2, 3, 4, 5, 6] 2 (1 + x) (0 + y)) ((2 - 1) * (2 - 0))).map u32, 72, true⟩, ⟨bq8, [(.int .i64 (((3 : Nat) : Int))), (.int .i64 (((2 : Nat) : Int))), (.slice (some ⟨xq6, 0, none⟩) (3 * 2) (3 * 2))], 32, true⟩, ⟨xq6, (tab 3 (fun x y => smp [1, 2, 3, 4, 5, 6] 2 y x) (3 * 2)).map u32, 72, true⟩, ⟨bq5, [(.int .i64 (((3 : Nat) : Int))), (.int .i64 (((2 : Nat) : Int))), (.slice (some ⟨xq3, 0, none⟩) (3 * 2) (3 * 2))], 32, true⟩, ⟨xq3, (tab 3 (fun x y => smp [1, 2, 3, 4, 5, 6] 2 y (3 - 1 - x)) (3 * 2)).map u32, 72, true⟩, ⟨bq2, [(.int .i64 2), (.int .i64 3), (.slice (some ⟨bq1, 0, none⟩) 6 6)], 32, true⟩, ⟨bq1, [(.int .u32 1), (.int .u32 2), (.int .u32 3), (.int .u32 4), (.int .u32 5), (.int .u32 6)], 72, true⟩]) rfl rfl rfl T.sz32 rfl rfl rfl rfl) (fun _ _ => ?_)
  refine GL.val (v := (.int .i64 0)) (Ex.assign rfl) (by decide) ?_
  refine GL.nil ?_
  refine GE.thenN ?_
  refine GC.seq ?_
  refine GC.region ?_
  refine GL.val (v := (.agg #[(.int .i64 2), (.int .i64 3), (.slice (some ⟨bq1, 0, none⟩) 6 6)])) (Ex.loadA rfl T.ag32 T.sz32 (i := 9) rfl (vs := [(.int .i64 2), (.int .i64 3), (.slice (some ⟨bq1, 0, none⟩) 6 6)]) rfl rfl) (by decide) ?_
  refine GL.step (Stp.callR (σ := Nat) (p := fun rz => True) (v := fun rz => (.tuple #[(.agg #[(.int .i64 ((((1 + 2 + 0) : Nat) : Int))), (.int .i64 ((((0 + 3 + 0) : Nat) : Int))), (.slice (some ⟨rz, 0, none⟩) ((1 + 2 + 0) * (0 + 3 + 0)) ((1 + 2 + 0) * (0 + 3 + 0)))]), (.int .i64 0)])) (N := fun rz => [⟨rz, (tab (1 + 2 + 0) (fun x y => smp [1, 2, 3, 4, 5, 6] 2 (bord 2 2 ((x : Int) - ((1 : Nat) : Int))).1.toNat (bord 2 3 ((y : Int) - ((0 : Nat) : Int))).1.toNat) ((1 + 2 + 0) * (0 + 3 + 0))).map u32, 72, true⟩]) (vs := [(.agg #[(.int .i64 2), (.int .i64 3), (.slice (some ⟨bq1, 0, none⟩) 6 6)]), (.int .i64 2), (.int .i64 1), (.int .i64 0), (.int .i64 0), (.int .i64 0)]) rfl rfl T.own19 (by decide) (fun wc hw => extend 2 3 6 6 bq1 0 1 0 0 0 [1, 2, 3, 4, 5, 6] 2 wc (by decide) rfl rfl (hw.rdOf (i := 10) rfl 0) (by decide) (by decide) (by decide))) (fun xq16 hq17 => ?_)
  refine GL.val (v := (.tuple #[(.agg #[(.int .i64 ((((1 + 2 + 0) : Nat) : Int))), (.int .i64 ((((0 + 3 + 0) : Nat) : Int))), (.slice (some ⟨xq16, 0, none⟩) ((1 + 2 + 0) * (0 + 3 + 0)) ((1 + 2 + 0) * (0 + 3 + 0)))]), (.int .i64 0)])) (Ex.move rfl) (by decide) ?_
  refine GL.val (v := (.agg #[(.int .i64 ((((1 + 2 + 0) : Nat) : Int))), (.int .i64 ((((0 + 3 + 0) : Nat) : Int))), (.slice (some ⟨xq16, 0, none⟩) ((1 + 2 + 0) * (0 + 3 + 0)) ((1 + 2 + 0) * (0 + 3 + 0)))])) (Ex.extract rfl rfl) (by decide) ?_
  refine GL.val (v := (.int .i64 0)) (Ex.extract rfl rfl) (by decide) ?_
  refine GL.step (Stp.alloc T.zr32 (by decide)) (fun bq18 _ => ?_)
  refine GL.step (Stp.storeL (i := 0) (L1 := [⟨bq18, [(.int .i64 ((((1 + 2 + 0) : Nat) : Int))), (.int .i64 ((((0 + 3 + 0) : Nat) : Int))), (.slice (some ⟨xq16, 0, none⟩) ((1 + 2 + 0) * (0 + 3 + 0)) ((1 + 2 + 0) * (0 + 3 + 0)))], 32, true⟩, ⟨xq16, (tab (1 + 2 + 0) (fun x y => smp [1, 2, 3, 4, 5, 6] 2 (bord 2 2 ((x : Int) - ((1 : Nat) : Int))).1.toNat (bord 2 3 ((y : Int) - ((0 : Nat) : Int))).1.toNat) ((1 + 2 + 0) * (0 + 3 + 0))).map u32, 72, true⟩, ⟨bq15, [(.int .i64 (((2 : Nat) : Int))), (.int .i64 (((3 : Nat) : Int))), (.slice (some ⟨xq13, 0, none⟩) (2 * 3) (2 * 3))], 32, true⟩, ⟨xq13, (tab 2 (pst 1 (-1) 1 2 (smp [1, 2, 3, 4, 5, 6] 2) (smp [9, 9] 1)) (2 * 3)).map u32, 72, true⟩, ⟨bq12, [(.int .u32 9), (.int .u32 9)], 72, true⟩, ⟨bq11, [(.int .i64 ((((2 - 1) : Nat) : Int))), (.int .i64 ((((2 - 0) : Nat) : Int))), (.slice (some ⟨xq9, 0, none⟩) ((2 - 1) * (2 - 0)) ((2 - 1) * (2 - 0)))], 32, true⟩, ⟨xq9, (tab (2 - 1) (fun x y => smp [1, 2, 3, 4, 5, 6] 2 (1 + x) (0 + y)) ((2 - 1) * (2 - 0))).map u32, 72, true⟩, ⟨bq8, [(.int .i64 (((3 : Nat) : Int))), (.int .i64 (((2 : Nat) : Int))), (.slice (some ⟨xq6, 0, none⟩) (3 * 2) (3 * 2))], 32, true⟩, ⟨xq6, (tab 3 (fun x y => smp [1, 2, 3, 4, 5, 6] 2 y x) (3 * 2)).map u32, 72, true⟩, ⟨bq5, [(.int .i64 (((3 : Nat) : Int))), (.int .i64 (((2 : Nat) : Int))), (.slice (some ⟨xq3, 0, none⟩) (3 * 2) (3 * 2))], 32, true⟩, ⟨xq3, (tab 3 (fun x y => smp [1, 2, 3, 4, 5, 6] 2 y (3 - 1 - x)) (3 * 2)).map u32, 72, true⟩, ⟨bq2, [(.int .i64 2), (.int .i64 3), (.slice (some ⟨bq1, 0, none⟩) 6 6)], 32, true⟩, ⟨bq1, [(.int .u32 1), (.int .u32 2), (.int .u32 3), (.int .u32 4), (.int .u32 5), (.int .u32 6)], 72, true⟩]) rfl rfl rfl T.sz32 rfl rfl rfl rfl) (fun _ _ => ?_)
  refine GL.val (v := (.int .i64 0)) (Ex.assign rfl) (by decide) ?_
  refine GL.nil ?_
  refine GE.thenN ?_
  refine GC.seq ?_
  refine GC.region ?_
  refine GL.step (Stp.callR (σ := Unit) (p := fun rz => True) (v := fun rz => (.tuple #[(.int .i64 1), (.int .i64 0)])) (N := fun rz => []) (vs := [(.int .i64 2), (.int .i64 4), (.int .i64 (-1))]) rfl rfl T.own14 (by decide) (fun wc hw => by have h := border 2 4 (-1) wc; rw [show bord 2 4 (-1) = (1, 0) from by decide] at h; exact h)) (fun xq19 hq20 => ?_)
  refine GL.val (v := (.tuple #[(.int .i64 1), (.int .i64 0)])) (Ex.move rfl) (by decide) ?_
  refine GL.val (v := (.int .i64 1)) (Ex.extract rfl rfl) (by decide) ?_
  refine GL.val (v := (.int .i64 0)) (Ex.extract rfl rfl) (by decide) ?_
  refine GL.val (v := (.int .i64 1)) (Ex.assign rfl) (by decide) ?_
  refine GL.val (v := (.int .i64 0)) (Ex.assign rfl) (by decide) ?_
  refine GL.nil ?_
  refine GE.thenN ?_
  refine GC.seq ?_
  refine GC.region ?_
  refine GL.step (Stp.callR (σ := Unit) (p := fun rz => True) (v := fun rz => (.tuple #[(.int .i64 1), (.int .i64 0)])) (N := fun rz => []) (vs := [(.int .i64 2), (.int .i64 4), (.int .i64 5)]) rfl rfl T.own14 (by decide) (fun wc hw => by have h := border 2 4 5 wc; rw [show bord 2 4 5 = (1, 0) from by decide] at h; exact h)) (fun xq21 hq22 => ?_)
  refine GL.val (v := (.tuple #[(.int .i64 1), (.int .i64 0)])) (Ex.move rfl) (by decide) ?_
  refine GL.val (v := (.int .i64 1)) (Ex.extract rfl rfl) (by decide) ?_
  refine GL.val (v := (.int .i64 0)) (Ex.extract rfl rfl) (by decide) ?_
  refine GL.val (v := (.int .i64 1)) (Ex.assign rfl) (by decide) ?_
  refine GL.val (v := (.int .i64 0)) (Ex.assign rfl) (by decide) ?_
  refine GL.nil ?_
  refine GE.thenN ?_
  refine GC.seq ?_
  refine GC.region ?_
  refine GL.step (Stp.callR (σ := Unit) (p := fun rz => True) (v := fun rz => (.tuple #[(.int .i64 0), (.int .i64 0)])) (N := fun rz => []) (vs := [(.int .i64 2), (.int .i64 4), (.int .i64 6)]) rfl rfl T.own14 (by decide) (fun wc hw => by have h := border 2 4 6 wc; rw [show bord 2 4 6 = (0, 0) from by decide] at h; exact h)) (fun xq23 hq24 => ?_)
  refine GL.val (v := (.tuple #[(.int .i64 0), (.int .i64 0)])) (Ex.move rfl) (by decide) ?_
  refine GL.val (v := (.int .i64 0)) (Ex.extract rfl rfl) (by decide) ?_
  refine GL.val (v := (.int .i64 0)) (Ex.extract rfl rfl) (by decide) ?_
  refine GL.val (v := (.int .i64 0)) (Ex.assign rfl) (by decide) ?_
  refine GL.val (v := (.int .i64 0)) (Ex.assign rfl) (by decide) ?_
  refine GL.nil ?_
  refine GE.thenN ?_
  refine GC.seq ?_
  refine GC.region ?_
  refine GL.step (Stp.callR (σ := Unit) (p := fun rz => True) (v := fun rz => (.tuple #[(.int .i64 3), (.int .i64 0)])) (N := fun rz => []) (vs := [(.int .i64 3), (.int .i64 4), (.int .i64 (-1))]) rfl rfl T.own14 (by decide) (fun wc hw => by have h := border 3 4 (-1) wc; rw [show bord 3 4 (-1) = (3, 0) from by decide] at h; exact h)) (fun xq25 hq26 => ?_)
  refine GL.val (v := (.tuple #[(.int .i64 3), (.int .i64 0)])) (Ex.move rfl) (by decide) ?_
  refine GL.val (v := (.int .i64 3)) (Ex.extract rfl rfl) (by decide) ?_
  refine GL.val (v := (.int .i64 0)) (Ex.extract rfl rfl) (by decide) ?_
  refine GL.val (v := (.int .i64 3)) (Ex.assign rfl) (by decide) ?_
  refine GL.val (v := (.int .i64 0)) (Ex.assign rfl) (by decide) ?_
  refine GL.nil ?_
  refine GE.thenN ?_
  refine GC.seq ?_
  refine GC.region ?_
  refine GL.val (v := (.agg #[(.int .i64 (((3 : Nat) : Int))), (.int .i64 (((2 : Nat) : Int))), (.slice (some ⟨xq3, 0, none⟩) (3 * 2) (3 * 2))])) (Ex.loadA rfl T.ag32 T.sz32 (i := 9) rfl (vs := [(.int .i64 (((3 : Nat) : Int))), (.int .i64 (((2 : Nat) : Int))), (.slice (some ⟨xq3, 0, none⟩) (3 * 2) (3 * 2))]) rfl rfl) (by decide) ?_
  refine GL.step (Stp.buildSlice (cs := [(.int .u32 5), (.int .u32 3), (.int .u32 1), (.int .u32 6), (.int .u32 4), (.int .u32 2)]) (vs := [(0, (.int .u32 5)), (1, (.int .u32 3)), (2, (.int .u32 1)), (3, (.int .u32 6)), (4, (.int .u32 4)), (5, (.int .u32 2))]) Try.underlying30 T.zr72 T.sz72 rfl (by decide) (by decide) (by first | rfl | kernel_rfl) (by decide)) (fun bq27 _ => ?_)
  refine GL.step (Stp.callR (σ := Unit) (p := fun rz => True) (v := fun rz => (.bool true)) (N := fun rz => []) (vs := [(.agg #[(.int .i64 (((3 : Nat) : Int))), (.int .i64 (((2 : Nat) : Int))), (.slice (some ⟨xq3, 0, none⟩) (3 * 2) (3 * 2))]), (.int .i64 3), (.int .i64 2), (.slice (some ⟨bq27, 0, none⟩) 6 6)]) rfl rfl T.own44 (by decide) (fun wc hw => by have h := is_ 3 2 3 2 xq3 0 (3 * 2) (3 * 2) bq27 0 (6) (6) (tab 3 (fun x y => smp [1, 2, 3, 4, 5, 6] 2 y (3 - 1 - x)) (3 * 2)) [5, 3, 1, 6, 4, 2] wc rfl rfl (hw.rdOf (i := 11) rfl 0) (hw.rdOf (i := 0) rfl 0) (by decide); rw [show eqB 3 2 (tab 3 (fun x y => smp [1, 2, 3, 4, 5, 6] 2 y (3 - 1 - x)) (3 * 2)) 3 2 [5, 3, 1, 6, 4, 2] = true from by decide] at h; exact h)) (fun xq28 hq29 => ?_)
  refine GL.val (v := (.bool true)) (Ex.move rfl) (by decide) ?_
  refine GL.stepG (tj := 69) rfl rfl (Ex.wp (v := (.agg #[(.int .i64 (((3 : Nat) : Int))), (.int .i64 (((2 : Nat) : Int))), (.slice (some ⟨xq6, 0, none⟩) (3 * 2) (3 * 2))])) (Ex.loadA rfl T.ag32 T.sz32 (i := 8) rfl (vs := [(.int .i64 (((3 : Nat) : Int))), (.int .i64 (((2 : Nat) : Int))), (.slice (some ⟨xq6, 0, none⟩) (3 * 2) (3 * 2))]) rfl rfl) (by decide)) (fun _ _ => ?_)
  refine GL.stepG (tj := 69) rfl rfl (Stp.buildSlice (cs := [(.int .u32 1), (.int .u32 3), (.int .u32 5), (.int .u32 2), (.int .u32 4), (.int .u32 6)]) (vs := [(0, (.int .u32 1)), (1, (.int .u32 3)), (2, (.int .u32 5)), (3, (.int .u32 2)), (4, (.int .u32 4)), (5, (.int .u32 6))]) Try.underlying30 T.zr72 T.sz72 rfl (by decide) (by decide) (by first | rfl | kernel_rfl) (by decide)) (fun bq30 _ => ?_)
  refine GL.stepG (tj := 69) rfl rfl (Stp.callR (σ := Unit) (p := fun rz => True) (v := fun rz => (.bool true)) (N := fun rz => []) (vs := [(.agg #[(.int .i64 (((3 : Nat) : Int))), (.int .i64 (((2 : Nat) : Int))), (.slice (some ⟨xq6, 0, none⟩) (3 * 2) (3 * 2))]), (.int .i64 3), (.int .i64 2), (.slice (some ⟨bq30, 0, none⟩) 6 6)]) rfl rfl T.own44 (by decide) (fun wc hw => by have h := is_ 3 2 3 2 xq6 0 (3 * 2) (3 * 2) bq30 0 (6) (6) (tab 3 (fun x y => smp [1, 2, 3, 4, 5, 6] 2 y x) (3 * 2)) [1, 3, 5, 2, 4, 6] wc rfl rfl (hw.rdOf (i := 10) rfl 0) (hw.rdOf (i := 0) rfl 0) (by decide); rw [show eqB 3 2 (tab 3 (fun x y => smp [1, 2, 3, 4, 5, 6] 2 y x) (3 * 2)) 3 2 [1, 3, 5, 2, 4, 6] = true from by decide] at h; exact h)) (fun xq31 hq32 => ?_)
  refine GL.val (v := (.bool true)) (Ex.pickT rfl rfl) (by decide) ?_
  refine GL.val (v := (.bool true)) (Ex.move rfl) (by decide) ?_
  refine GL.stepG (tj := 74) rfl rfl (Ex.wp (v := (.agg #[(.int .i64 ((((2 - 1) : Nat) : Int))), (.int .i64 ((((2 - 0) : Nat) : Int))), (.slice (some ⟨xq9, 0, none⟩) ((2 - 1) * (2 - 0)) ((2 - 1) * (2 - 0)))])) (Ex.loadA rfl T.ag32 T.sz32 (i := 7) rfl (vs := [(.int .i64 ((((2 - 1) : Nat) : Int))), (.int .i64 ((((2 - 0) : Nat) : Int))), (.slice (some ⟨xq9, 0, none⟩) ((2 - 1) * (2 - 0)) ((2 - 1) * (2 - 0)))]) rfl rfl) (by decide)) (fun _ _ => ?_)
  refine GL.stepG (tj := 74) rfl rfl (Stp.buildSlice (cs := [(.int .u32 2), (.int .u32 4)]) (vs := [(0, (.int .u32 2)), (1, (.int .u32 4))]) Try.underlying30 T.zr72 T.sz72 rfl (by decide) (by decide) (by first | rfl | kernel_rfl) (by decide)) (fun bq33 _ => ?_)
  refine GL.stepG (tj := 74) rfl rfl (Stp.callR (σ := Unit) (p := fun rz => True) (v := fun rz => (.bool true)) (N := fun rz => []) (vs := [(.agg #[(.int .i64 ((((2 - 1) : Nat) : Int))), (.int .i64 ((((2 - 0) : Nat) : Int))), (.slice (some ⟨xq9, 0, none⟩) ((2 - 1) * (2 - 0)) ((2 - 1) * (2 - 0)))]), (.int .i64 1), (.int .i64 2), (.slice (some ⟨bq33, 0, none⟩) 2 2)]) rfl rfl T.own44 (by decide) (fun wc hw => by have h := is_ 1 2 1 2 xq9 0 ((2 - 1) * (2 - 0)) ((2 - 1) * (2 - 0)) bq33 0 (2) (2) (tab (2 - 1) (fun x y => smp [1, 2, 3, 4, 5, 6] 2 (1 + x) (0 + y)) ((2 - 1) * (2 - 0))) [2, 4] wc rfl rfl (hw.rdOf (i := 9) rfl 0) (hw.rdOf (i := 0) rfl 0) (by decide); rw [show eqB 1 2 (tab (2 - 1) (fun x y => smp [1, 2, 3, 4, 5, 6] 2 (1 + x) (0 + y)) ((2 - 1) * (2 - 0))) 1 2 [2, 4] = true from by decide] at h; exact h)) (fun xq34 hq35 => ?_)
  refine GL.val (v := (.bool true)) (Ex.pickT rfl rfl) (by decide) ?_
  refine GL.val (v := (.bool true)) (Ex.move rfl) (by decide) ?_
  refine GL.stepG (tj := 79) rfl rfl (Ex.wp (v := (.agg #[(.int .i64 (((2 : Nat) : Int))), (.int .i64 (((3 : Nat) : Int))), (.slice (some ⟨xq13, 0, none⟩) (2 * 3) (2 * 3))])) (Ex.loadA rfl T.ag32 T.sz32 (i := 5) rfl (vs := [(.int .i64 (((2 : Nat) : Int))), (.int .i64 (((3 : Nat) : Int))), (.slice (some ⟨xq13, 0, none⟩) (2 * 3) (2 * 3))]) rfl rfl) (by decide)) (fun _ _ => ?_)
  refine GL.stepG (tj := 79) rfl rfl (Stp.buildSlice (cs := [(.int .u32 1), (.int .u32 9), (.int .u32 3), (.int .u32 4), (.int .u32 5), (.int .u32 6)]) (vs := [(0, (.int .u32 1)), (1, (.int .u32 9)), (2, (.int .u32 3)), (3, (.int .u32 4)), (4, (.int .u32 5)), (5, (.int .u32 6))]) Try.underlying30 T.zr72 T.sz72 rfl (by decide) (by decide) (by first | rfl | kernel_rfl) (by decide)) (fun bq36 _ => ?_)
  refine GL.stepG (tj := 79) rfl rfl (Stp.callR (σ := Unit) (p := fun rz => True) (v := fun rz => (.bool true)) (N := fun rz => []) (vs := [(.agg #[(.int .i64 (((2 : Nat) : Int))), (.int .i64 (((3 : Nat) : Int))), (.slice (some ⟨xq13, 0, none⟩) (2 * 3) (2 * 3))]), (.int .i64 2), (.int .i64 3), (.slice (some ⟨bq36, 0, none⟩) 6 6)]) rfl rfl T.own44 (by decide) (fun wc hw => by have h := is_ 2 3 2 3 xq13 0 (2 * 3) (2 * 3) bq36 0 (6) (6) (tab 2 (pst 1 (-1) 1 2 (smp [1, 2, 3, 4, 5, 6] 2) (smp [9, 9] 1)) (2 * 3)) [1, 9, 3, 4, 5, 6] wc rfl rfl (hw.rdOf (i := 7) rfl 0) (hw.rdOf (i := 0) rfl 0) (by decide); rw [show eqB 2 3 (tab 2 (pst 1 (-1) 1 2 (smp [1, 2, 3, 4, 5, 6] 2) (smp [9, 9] 1)) (2 * 3)) 2 3 [1, 9, 3, 4, 5, 6] = true from by decide] at h; exact h)) (fun xq37 hq38 => ?_)
  refine GL.val (v := (.bool true)) (Ex.pickT rfl rfl) (by decide) ?_
  refine GL.val (v := (.bool true)) (Ex.move rfl) (by decide) ?_
  refine GL.stepG (tj := 84) rfl rfl (Ex.wp (v := (.agg #[(.int .i64 ((((1 + 2 + 0) : Nat) : Int))), (.int .i64 ((((0 + 3 + 0) : Nat) : Int))), (.slice (some ⟨xq16, 0, none⟩) ((1 + 2 + 0) * (0 + 3 + 0)) ((1 + 2 + 0) * (0 + 3 + 0)))])) (Ex.loadA rfl T.ag32 T.sz32 (i := 4) rfl (vs := [(.int .i64 ((((1 + 2 + 0) : Nat) : Int))), (.int .i64 ((((0 + 3 + 0) : Nat) : Int))), (.slice (some ⟨xq16, 0, none⟩) ((1 + 2 + 0) * (0 + 3 + 0)) ((1 + 2 + 0) * (0 + 3 + 0)))]) rfl rfl) (by decide)) (fun _ _ => ?_)
  refine GL.stepG (tj := 84) rfl rfl (Stp.buildSlice (cs := [(.int .u32 2), (.int .u32 1), (.int .u32 2), (.int .u32 4), (.int .u32 3), (.int .u32 4), (.int .u32 6), (.int .u32 5), (.int .u32 6)]) (vs := [(0, (.int .u32 2)), (1, (.int .u32 1)), (2, (.int .u32 2)), (3, (.int .u32 4)), (4, (.int .u32 3)), (5, (.int .u32 4)), (6, (.int .u32 6)), (7, (.int .u32 5)), (8, (.int .u32 6))]) Try.underlying30 T.zr72 T.sz72 rfl (by decide) (by decide) (by first | rfl | kernel_rfl) (by decide)) (fun bq39 _ => ?_)
  refine GL.stepG (tj := 84) rfl rfl (Stp.callR (σ := Unit) (p := fun rz => True) (v := fun rz => (.bool true)) (N := fun rz => []) (vs := [(.agg #[(.int .i64 ((((1 + 2 + 0) : Nat) : Int))), (.int .i64 ((((0 + 3 + 0) : Nat) : Int))), (.slice (some ⟨xq16, 0, none⟩) ((1 + 2 + 0) * (0 + 3 + 0)) ((1 + 2 + 0) * (0 + 3 + 0)))]), (.int .i64 3), (.int .i64 3), (.slice (some ⟨bq39, 0, none⟩) 9 9)]) rfl rfl T.own44 (by decide) (fun wc hw => by have h := is_ 3 3 3 3 xq16 0 ((1 + 2 + 0) * (0 + 3 + 0)) ((1 + 2 + 0) * (0 + 3 + 0)) bq39 0 (9) (9) (tab (1 + 2 + 0) (fun x y => smp [1, 2, 3, 4, 5, 6] 2 (bord 2 2 ((x : Int) - ((1 : Nat) : Int))).1.toNat (bord 2 3 ((y : Int) - ((0 : Nat) : Int))).1.toNat) ((1 + 2 + 0) * (0 + 3 + 0))) [2, 1, 2, 4, 3, 4, 6, 5, 6] wc rfl rfl (hw.rdOf (i := 6) rfl 0) (hw.rdOf (i := 0) rfl 0) (by decide); rw [show eqB 3 3 (tab (1 + 2 + 0) (fun x y => smp [1, 2, 3, 4, 5, 6] 2 (bord 2 2 ((x : Int) - ((1 : Nat) : Int))).1.toNat (bord 2 3 ((y : Int) - ((0 : Nat) : Int))).1.toNat) ((1 + 2 + 0) * (0 + 3 + 0))) 3 3 [2, 1, 2, 4, 3, 4, 6, 5, 6] = true from by decide] at h; exact h)) (fun xq40 hq41 => ?_)
  refine GL.val (v := (.bool true)) (Ex.pickT rfl rfl) (by decide) ?_
  refine GL.val (v := (.bool true)) (Ex.move rfl) (by decide) ?_
  refine GL.stepG (tj := 89) rfl rfl (Ex.wp (v := (.int .i64 1)) (Ex.move rfl) (by decide)) (fun _ _ => ?_)
  refine GL.stepG (tj := 89) rfl rfl (Ex.wp (v := (.bool true)) (Ex.cast (Ex.eql rfl rfl) rfl) (by decide)) (fun _ _ => ?_)
  refine GL.val (v := (.bool true)) (Ex.pickT rfl rfl) (by decide) ?_
  refine GL.val (v := (.bool true)) (Ex.move rfl) (by decide) ?_
  refine GL.stepG (tj := 93) rfl rfl (Ex.wp (v := (.int .i64 1)) (Ex.move rfl) (by decide)) (fun _ _ => ?_)
  refine GL.stepG (tj := 93) rfl rfl (Ex.wp (v := (.bool true)) (Ex.cast (Ex.eql rfl rfl) rfl) (by decide)) (fun _ _ => ?_)
  refine GL.val (v := (.bool true)) (Ex.pickT rfl rfl) (by decide) ?_
  refine GL.val (v := (.bool true)) (Ex.move rfl) (by decide) ?_
  refine GL.stepG (tj := 97) rfl rfl (Ex.wp (v := (.int .i64 0)) (Ex.move rfl) (by decide)) (fun _ _ => ?_)
  refine GL.stepG (tj := 97) rfl rfl (Ex.wp (v := (.bool true)) (Ex.cast (Ex.eql rfl rfl) rfl) (by decide)) (fun _ _ => ?_)
  refine GL.val (v := (.bool true)) (Ex.pickT rfl rfl) (by decide) ?_
  refine GL.val (v := (.bool true)) (Ex.move rfl) (by decide) ?_
  refine GL.stepG (tj := 101) rfl rfl (Ex.wp (v := (.int .i64 3)) (Ex.move rfl) (by decide)) (fun _ _ => ?_)
  refine GL.stepG (tj := 101) rfl rfl (Ex.wp (v := (.bool true)) (Ex.cast (Ex.eql rfl rfl) rfl) (by decide)) (fun _ _ => ?_)
  refine GL.val (v := (.bool true)) (Ex.pickT rfl rfl) (by decide) ?_
  refine GL.val (v := (.bool true)) (Ex.assign rfl) (by decide) ?_
  refine GL.nil ?_
  refine GE.thenN ?_
  refine GC.ret ?_
  refine GC.ret1 rfl (Rv.tmp rfl) (fun wN HN => ?_)
  exact HN.ret () trivial rfl (List.nil_sublist _) rfl

set_option maxRecDepth 100000 in
set_option maxHeartbeats 1000000 in
theorem lawBorders (k n i : Int) (w : World) :
    Calls Try.prog 4 #[(.int .i64 k), (.int .i64 n), (.int .i64 i)] w (Ret w (fun _ : Unit => True) (fun _ => .bool true) (fun _ => [])) := by
  refine enter (M := None) (L := []) (n := 36) (l := [(0, (.int .i64 k)), (1, (.int .i64 n)), (2, (.int .i64 i))]) Try.func4 rfl rfl (Args.cons rfl (Args.cons rfl (Args.cons rfl (Args.nil _)))) (Hp.start _ _) ?_
  refine GC.seq ?_
  refine GC.region ?_
  refine GL.val (v := (.bool false)) (Ex.assign rfl) (by decide) ?_
  refine GL.nil ?_
  refine GE.thenN ?_
  refine GC.seq ?_
  refine GC.seq ?_
  refine GC.region ?_
  refine GL.step (Stp.callR (σ := Unit) (p := fun rz => True) (v := fun rz => (.bool true)) (N := fun rz => []) (vs := []) rfl rfl T.own13 (by decide) (fun wc hw => known wc)) (fun xq1 hq2 => ?_)
  refine GL.val (v := (.bool false)) (Ex.cast (Ex.not rfl) rfl) (by decide) ?_
  refine GL.nil ?_
  refine GE.thenN ?_
  refine GC.cond rfl (fun hq3 => by cases hq3) (fun _ => ?_)
  refine GC.skip ?_
  refine GE.thenN ?_
  refine GC.seq ?_
  refine GC.region ?_
  refine GL.val (v := (.int .i64 k)) (Ex.move rfl) (by decide) ?_
  refine GL.val (v := (.int .i64 n)) (Ex.move rfl) (by decide) ?_
  refine GL.val (v := (.int .i64 i)) (Ex.move rfl) (by decide) ?_
  refine GL.step (Stp.callR (σ := Unit) (p := fun rz => True) (v := fun rz => (.tuple #[(.int .i64 ((bord k n i).1)), (.int .i64 ((bord k n i).2))])) (N := fun rz => []) (vs := [(.int .i64 k), (.int .i64 n), (.int .i64 i)]) rfl rfl T.own14 (by decide) (fun wc hw => border k n i wc)) (fun xq4 hq5 => ?_)
  refine GL.val (v := (.tuple #[(.int .i64 ((bord k n i).1)), (.int .i64 ((bord k n i).2))])) (Ex.move rfl) (by decide) ?_
  refine GL.val (v := (.int .i64 ((bord k n i).1))) (Ex.extract rfl rfl) (by decide) ?_
  refine GL.val (v := (.int .i64 ((bord k n i).2))) (Ex.extract rfl rfl) (by decide) ?_
  refine GL.val (v := (.int .i64 ((bord k n i).1))) (Ex.assign rfl) (by decide) ?_
  refine GL.val (v := (.int .i64 ((bord k n i).2))) (Ex.assign rfl) (by decide) ?_
  refine GL.nil ?_
  refine GE.thenN ?_
  refine GC.seq ?_
  refine GC.region ?_
  refine GL.val (v := (.int .i64 k)) (Ex.move rfl) (by decide) ?_
  refine GL.val (v := (.int .i64 n)) (Ex.move rfl) (by decide) ?_
  refine GL.val (v := (.int .i64 i)) (Ex.move rfl) (by decide) ?_
  refine GL.step (Stp.callR (σ := Unit) (p := fun rz => True) (v := fun rz => (.tuple #[(.int .i64 ((bord k n i).1)), (.int .i64 ((bord k n i).2))])) (N := fun rz => []) (vs := [(.int .i64 k), (.int .i64 n), (.int .i64 i)]) rfl rfl T.own15 (by decide) (fun wc hw => ref_border k n i wc)) (fun xq6 hq7 => ?_)
  refine GL.val (v := (.tuple #[(.int .i64 ((bord k n i).1)), (.int .i64 ((bord k n i).2))])) (Ex.move rfl) (by decide) ?_
  refine GL.val (v := (.int .i64 ((bord k n i).1))) (Ex.extract rfl rfl) (by decide) ?_
  refine GL.val (v := (.int .i64 ((bord k n i).2))) (Ex.extract rfl rfl) (by decide) ?_
  refine GL.val (v := (.int .i64 ((bord k n i).1))) (Ex.assign rfl) (by decide) ?_
  refine GL.val (v := (.int .i64 ((bord k n i).2))) (Ex.assign rfl) (by decide) ?_
  refine GL.nil ?_
  refine GE.thenN ?_
  refine GC.seq ?_
  refine GC.region ?_
  refine GL.val (v := (.int .i64 ((bord k n i).1))) (Ex.move rfl) (by decide) ?_
  refine GL.val (v := (.int .i64 ((bord k n i).1))) (Ex.move rfl) (by decide) ?_
  refine GL.val (v := (.bool true)) (Ex.cast (Ex.eql rfl rfl) (congrArg Value.bool (decide_eq_true (by rfl)))) (by decide) ?_
  refine GL.val (v := (.bool true)) (Ex.move rfl) (by decide) ?_
  refine GL.stepG (tj := 30) rfl rfl (Ex.wp (v := (.int .i64 ((bord k n i).2))) (Ex.move rfl) (by decide)) (fun _ _ => ?_)
  refine GL.stepG (tj := 30) rfl rfl (Stp.callR (σ := Unit) (p := fun rz => True) (v := fun rz => (.int .i64 ((bord k n i).2))) (N := fun rz => []) (vs := [(.int .i64 ((bord k n i).2))]) rfl rfl T.own16 (by decide) (fun wc hw => num ((bord k n i).2) wc)) (fun xq8 hq9 => ?_)
  refine GL.stepG (tj := 30) rfl rfl (Ex.wp (v := (.int .i64 ((bord k n i).2))) (Ex.move rfl) (by decide)) (fun _ _ => ?_)
  refine GL.stepG (tj := 30) rfl rfl (Ex.wp (v := (.bool true)) (Ex.cast (Ex.eql rfl rfl) (congrArg Value.bool (decide_eq_true (by rfl)))) (by decide)) (fun _ _ => ?_)
  refine GL.val (v := (.bool true)) (Ex.pickT rfl rfl) (by decide) ?_
  refine GL.val (v := (.bool true)) (Ex.assign rfl) (by decide) ?_
  refine GL.nil ?_
  refine GE.thenN ?_
  refine GC.ret ?_
  refine GC.ret1 rfl (Rv.tmp rfl) (fun wN HN => ?_)
  exact HN.ret () trivial rfl (List.nil_sublist _) rfl
end Go.Proofs.Ytileciohbhoehaa.C
