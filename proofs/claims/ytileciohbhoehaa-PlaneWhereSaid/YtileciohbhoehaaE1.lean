/- Equal and Unlike, walked. -/
import Derived.Test.YtileciohbhoehaaD1
import Derived.Test.YtileciohbhoehaaUn
namespace Go.Proofs.Ytileciohbhoehaa.C
open Go Go.RowKit Sx
set_option linter.unusedVariables false
set_option maxRecDepth 100000 in
set_option maxHeartbeats 1000000 in
theorem sl_eq (b1 o1 n1 cap1 b2 o2 n2 cap2 : Nat) (xs ys : List Int) (w : World) (hx1 : xs.length = n1) (hx2 : ys.length = n2) (hr1 : Rd w b1 o1 (xs.map u32)) (hr2 : Rd w b2 o2 (ys.map u32)) (hb1 : n1 ≤ 9223372036854775807) :
    Calls Try.prog 74 #[(.slice (some ⟨b1, o1, none⟩) n1 cap1), (.slice (some ⟨b2, o2, none⟩) n2 cap2)] w (Ret w (fun _ : Unit => True) (fun _ => .bool (decide (xs = ys))) (fun _ => [])) := by
  refine enter (M := None) (L := []) (n := 26) (l := [(0, (.slice (some ⟨b1, o1, none⟩) n1 cap1)), (1, (.slice (some ⟨b2, o2, none⟩) n2 cap2))]) Try.func74 rfl rfl (Args.cons rfl (Args.cons rfl (Args.nil _))) (Hp.start _ _) ?_
  refine GC.seq ?_
  refine GC.region ?_
  refine GL.val (v := (.bool false)) (Ex.assign rfl) (by decide) ?_
  refine GL.nil ?_
  refine GE.thenN ?_
  refine GC.seq ?_
  refine GC.seq ?_
  refine GC.region ?_
  refine GL.val (v := (.slice (some ⟨b1, o1, none⟩) n1 cap1)) (Ex.move rfl) (by decide) ?_
  refine GL.val (v := (.int .i64 ((n1 : Int)))) (Ex.len rfl Try.underlying30) (by decide) ?_
  refine GL.val (v := (.slice (some ⟨b2, o2, none⟩) n2 cap2)) (Ex.move rfl) (by decide) ?_
  refine GL.val (v := (.int .i64 ((n2 : Int)))) (Ex.len rfl Try.underlying30) (by decide) ?_
  refine GL.val (v := (.bool (decide (((n1 : Int)) ≠ ((n2 : Int)))))) (Ex.neq rfl rfl) (by decide) ?_
  refine GL.nil ?_
  refine GE.thenN ?_
  refine GC.cond rfl (fun hq1 => ?_) (fun hq1 => ?_)
  · replace hq1 := of_decide_eq_true hq1
    refine GC.seq ?_
    refine GC.region ?_
    refine GL.val (v := (.bool false)) (Ex.assign rfl) (by decide) ?_
    refine GL.nil ?_
    refine GE.thenN ?_
    refine GC.ret ?_
    refine GE.thenR ?_
    refine GC.ret1 rfl (Rv.tmp rfl) (fun wN HN => ?_)
    exact HN.ret () trivial (congrArg Value.bool (decide_eq_false (fun h => by have := congrArg List.length h; omega)).symm) (List.nil_sublist _) rfl
  · replace hq1 := of_decide_eq_false hq1
    refine GC.skip ?_
    refine GE.thenN ?_
    refine GC.seq ?_
    refine GC.seq ?_
    refine GC.region ?_
    refine GL.val (v := (.slice (some ⟨b1, o1, none⟩) n1 cap1)) (Ex.move rfl) (by decide) ?_
    refine GL.val (v := (.int .i64 ((n1 : Int)))) (Ex.len rfl Try.underlying30) (by decide) ?_
    refine GL.val (v := (.int .i64 0)) (Ex.move rfl) (by decide) ?_
    refine GL.nil ?_
    refine GE.thenN ?_
    refine GC.block ?_
    refine GC.loop (σ := Nat) (fun k => k ≤ n1 ∧ ∀ j, j < k → xs.getD j 0 = ys.getD j 0) (fun k => [(0, (.slice (some ⟨b1, o1, none⟩) n1 cap1)), (1, (.slice (some ⟨b2, o2, none⟩) n2 cap2)), (12, (.int .i64 ((n1 : Int)))), (13, (.int .i64 (((k : Nat) : Int))))]) (fun k => []) (fun k => n1 - k) (0) ⟨Nat.zero_le _, fun j hj => absurd hj (Nat.not_lt_zero _)⟩ ((sub_cons rfl ((sub_cons rfl ((sub_cons rfl ((sub_cons rfl ((sub_nil _)))))))))) (List.nil_sublist _) (fun k hp => ?_)
    obtain ⟨hp1, hp2⟩ := hp
    refine GC.seq ?_
    refine GC.region ?_
    refine GL.val (v := (.bool (decide ((((k : Nat) : Int)) < ((n1 : Int)))))) (Ex.lss rfl rfl) (by decide) ?_
    refine GL.nil ?_
    refine GE.thenN ?_
    refine GC.seq ?_
    refine GC.cond rfl (fun hq2 => ?_) (fun hq2 => ?_)
    · replace hq2 := of_decide_eq_true hq2
      refine GC.skip ?_
      refine GE.thenN ?_
      refine GC.seq ?_
      refine GC.block ?_
      refine GC.seq ?_
      refine GC.region ?_
      refine GL.val (v := (.int .i64 (((k : Nat) : Int)))) (Ex.move rfl) (by decide) ?_
      refine GL.val (v := (.int .i64 (((k : Nat) : Int)))) (Ex.assign rfl) (by decide) ?_
      refine GL.nil ?_
      refine GE.thenN ?_
      refine GC.seq ?_
      refine GC.draw [] T.mixed (fuel := 9) rfl rfl ?_
      refine GH.take 0 (v := (.slice (some ⟨b1, o1, none⟩) n1 cap1)) rfl (by kernel_rfl) (by kernel_rfl) (by kernel_rfl) (fun _ _ _ h => h) (Ex.move rfl) (List.nil_sublist _) (by decide) ?_
      refine GH.take 1 (v := (.int .i64 (((k : Nat) : Int)))) rfl (by kernel_rfl) (by kernel_rfl) (by kernel_rfl) (fun _ _ _ h => h) (Ex.move rfl) (List.nil_sublist _) (by decide) ?_
      refine GH.take 2 (v := (.pointer (some ⟨b1, o1 + k, none⟩))) rfl (by kernel_rfl) (by kernel_rfl) (by kernel_rfl) (fun _ _ _ h => h) (Ex.cast (Ex.indexAddr rfl rfl Try.underlying30 T.sz72 (by omega) (by omega)) (by simp)) (List.nil_sublist _) (by decide) ?_
      refine GH.take 3 (v := (.int .u32 (xs.getD k 0))) rfl (by kernel_rfl) (by kernel_rfl) (by kernel_rfl) (fun _ _ _ h => h) (Ex.loadO rfl T.ag72 (Rd.at hr1 (by omega)) (fun x => x)) (List.nil_sublist _) (by decide) ?_
      refine GH.take 4 (v := (.slice (some ⟨b2, o2, none⟩) n2 cap2)) rfl (by kernel_rfl) (by kernel_rfl) (by kernel_rfl) (fun _ _ _ h => h) (Ex.move rfl) (List.nil_sublist _) (by decide) ?_
      refine GH.take 5 (v := (.int .i64 (((k : Nat) : Int)))) rfl (by kernel_rfl) (by kernel_rfl) (by kernel_rfl) (fun _ _ _ h => h) (Ex.move rfl) (List.nil_sublist _) (by decide) ?_
      refine GH.take 6 (v := (.pointer (some ⟨b2, o2 + k, none⟩))) rfl (by kernel_rfl) (by kernel_rfl) (by kernel_rfl) (fun _ _ _ h => h) (Ex.cast (Ex.indexAddr rfl rfl Try.underlying30 T.sz72 (by omega) (by omega)) (by simp)) (List.nil_sublist _) (by decide) ?_
      refine GH.take 7 (v := (.int .u32 (ys.getD k 0))) rfl (by kernel_rfl) (by kernel_rfl) (by kernel_rfl) (fun _ _ _ h => h) (Ex.loadO rfl T.ag72 (Rd.at hr2 (by omega)) (fun x => x)) (List.nil_sublist _) (by decide) ?_
      refine GH.take 8 (v := (.bool (decide ((xs.getD k 0) ≠ (ys.getD k 0))))) rfl (by kernel_rfl) (by kernel_rfl) (by kernel_rfl) (fun _ _ _ h => h) (Ex.neq rfl rfl) (List.nil_sublist _) (by decide) ?_
      refine GH.done (by kernel_rfl) ?_
      refine GE.thenN ?_
      refine GC.cond rfl (fun hq3 => ?_) (fun hq3 => ?_)
      · replace hq3 := of_decide_eq_true hq3
        have hne := hq3
        refine GC.seq ?_
        refine GC.region ?_
        refine GL.val (v := (.bool false)) (Ex.assign rfl) (by decide) ?_
        refine GL.nil ?_
        refine GE.thenN ?_
        refine GC.ret ?_
        refine GE.blockR ?_
        refine GE.thenR ?_
        refine GE.thenR ?_
        refine GE.blockR ?_
        refine GE.thenR ?_
        refine GC.ret1 rfl (Rv.tmp rfl) (fun wN HN => ?_)
        exact HN.ret () trivial (congrArg Value.bool (decide_eq_false (fun h => hne (by rw [h]))).symm) (List.nil_sublist _) rfl
      · replace hq3 := of_decide_eq_false hq3
        refine GC.skip ?_
        refine GE.blockN ?_
        refine GE.thenN ?_
        refine GC.region ?_
        refine GL.val (v := (.int .i64 (((k + 1 : Nat) : Int)))) (Ex.add rfl rfl (Z := ((k + 1 : Nat) : Int)) (w64 (by omega))) (by decide) ?_
        refine GL.val (v := (.int .i64 (((k + 1 : Nat) : Int)))) (Ex.move rfl) (by decide) ?_
        refine GL.nil ?_
        refine GE.thenN ?_
        exact Head.mk (k + 1) ⟨by omega, fun j hj => by rcases Nat.lt_succ_iff_lt_or_eq.1 hj with hj | rfl; exact hp2 j hj; omega⟩ (by omega) ((sub_cons rfl ((sub_cons rfl ((sub_cons rfl ((sub_cons rfl ((sub_nil _)))))))))) (List.nil_sublist _)
    · replace hq2 := of_decide_eq_false hq2
      refine GC.exit ?_
      refine GE.thenE ?_
      refine GE.thenE ?_
      refine GE.blockE ?_
      refine GE.thenN ?_
      refine GC.seq ?_
      refine GC.region ?_
      refine GL.val (v := (.bool true)) (Ex.assign rfl) (by decide) ?_
      refine GL.nil ?_
      refine GE.thenN ?_
      refine GC.ret ?_
      refine GC.ret1 rfl (Rv.tmp rfl) (fun wN HN => ?_)
      exact HN.ret () trivial (congrArg Value.bool (decide_eq_true (getD_ext (by omega) (fun j hj => hp2 j (by omega)))).symm) (List.nil_sublist _) rfl
set_option maxRecDepth 100000 in
set_option maxHeartbeats 1000000 in
theorem sl_ne (ad1 ad2 : Option Addr) (n1 cap1 n2 cap2 : Nat) (w : World) (h : n1 ≠ n2 ∨ n1 = 0) :
    Calls Try.prog 74 #[(.slice ad1 n1 cap1), (.slice ad2 n2 cap2)] w (Ret w (fun _ : Unit => True) (fun _ => .bool (decide (n1 = n2))) (fun _ => [])) := by
  refine enter (M := None) (L := []) (n := 26) (l := [(0, (.slice ad1 n1 cap1)), (1, (.slice ad2 n2 cap2))]) Try.func74 rfl rfl (Args.cons rfl (Args.cons rfl (Args.nil _))) (Hp.start _ _) ?_
  refine GC.seq ?_
  refine GC.region ?_
  refine GL.val (v := (.bool false)) (Ex.assign rfl) (by decide) ?_
  refine GL.nil ?_
  refine GE.thenN ?_
  refine GC.seq ?_
  refine GC.seq ?_
  refine GC.region ?_
  refine GL.val (v := (.slice ad1 n1 cap1)) (Ex.move rfl) (by decide) ?_
  refine GL.val (v := (.int .i64 ((n1 : Int)))) (Ex.len rfl Try.underlying30) (by decide) ?_
  refine GL.val (v := (.slice ad2 n2 cap2)) (Ex.move rfl) (by decide) ?_
  refine GL.val (v := (.int .i64 ((n2 : Int)))) (Ex.len rfl Try.underlying30) (by decide) ?_
  refine GL.val (v := (.bool (decide (((n1 : Int)) ≠ ((n2 : Int)))))) (Ex.neq rfl rfl) (by decide) ?_
  refine GL.nil ?_
  refine GE.thenN ?_
  refine GC.cond rfl (fun hq1 => ?_) (fun hq1 => ?_)
  · replace hq1 := of_decide_eq_true hq1
    refine GC.seq ?_
    refine GC.region ?_
    refine GL.val (v := (.bool false)) (Ex.assign rfl) (by decide) ?_
    refine GL.nil ?_
    refine GE.thenN ?_
    refine GC.ret ?_
    refine GE.thenR ?_
    refine GC.ret1 rfl (Rv.tmp rfl) (fun wN HN => ?_)
    exact HN.ret () trivial (congrArg Value.bool (by first | exact (decide_eq_true (by omega)).symm | exact (decide_eq_false (by omega)).symm)) (List.nil_sublist _) rfl
  · replace hq1 := of_decide_eq_false hq1
    refine GC.skip ?_
    refine GE.thenN ?_
    refine GC.seq ?_
    refine GC.seq ?_
    refine GC.region ?_
    refine GL.val (v := (.slice ad1 n1 cap1)) (Ex.move rfl) (by decide) ?_
    refine GL.val (v := (.int .i64 ((n1 : Int)))) (Ex.len rfl Try.underlying30) (by decide) ?_
    refine GL.val (v := (.int .i64 0)) (Ex.move rfl) (by decide) ?_
    refine GL.nil ?_
    refine GE.thenN ?_
    refine GC.block ?_
    refine GC.unroll 1 ?_
    refine GE.round ?_
    refine GC.seq ?_
    refine GC.region ?_
    refine GL.val (v := (.bool (decide (0 < ((n1 : Int)))))) (Ex.lss rfl rfl) (by decide) ?_
    refine GL.nil ?_
    refine GE.thenN ?_
    refine GC.seq ?_
    refine GC.cond rfl (fun hq2 => by exfalso; have hq2 := of_decide_eq_true hq2; omega) (fun _ => ?_)
    refine GC.exit ?_
    refine GE.thenE ?_
    refine GE.thenE ?_
    refine GE.blockE ?_
    refine GE.thenN ?_
    refine GC.seq ?_
    refine GC.region ?_
    refine GL.val (v := (.bool true)) (Ex.assign rfl) (by decide) ?_
    refine GL.nil ?_
    refine GE.thenN ?_
    refine GC.ret ?_
    refine GC.ret1 rfl (Rv.tmp rfl) (fun wN HN => ?_)
    exact HN.ret () trivial (congrArg Value.bool (by first | exact (decide_eq_true (by omega)).symm | exact (decide_eq_false (by omega)).symm)) (List.nil_sublist _) rfl
theorem sl_any (ad1 ad2 : Option Addr) (n1 cap1 n2 cap2 : Nat) (xs ys : List Int) (w : World) (h1 : Lst w ad1 n1 xs) (h2 : Lst w ad2 n2 ys) :
    Calls Try.prog 74 #[.slice ad1 n1 cap1, .slice ad2 n2 cap2] w (Ret w (fun _ : Unit => True) (fun _ => .bool (decide (xs = ys))) (fun _ => [])) := by
  by_cases hn : n1 ≠ n2 ∨ n1 = 0
  · have h := sl_ne ad1 ad2 n1 cap1 n2 cap2 w hn
    rw [show decide (n1 = n2) = decide (xs = ys) from decide_eq_decide.2 ⟨fun e => ?_, fun e => ?_⟩] at h
    · exact h
    · rcases hn with hn | hn
      · exact absurd e hn
      · have a1 := h1.1; have a2 := h2.1
        rw [List.eq_nil_of_length_eq_zero (show xs.length = 0 by omega), List.eq_nil_of_length_eq_zero (show ys.length = 0 by omega)]
    · have a1 := h1.1; have a2 := h2.1; rw [e] at a1; omega
  · rcases h1.2.2.2 with h | ⟨b1, o1, rfl, hr1⟩
    · exact absurd (Or.inr h) hn
    · rcases h2.2.2.2 with h | ⟨b2, o2, rfl, hr2⟩
      · exfalso; omega
      · exact sl_eq b1 o1 n1 cap1 b2 o2 n2 cap2 xs ys w h1.1 h2.1 hr1 hr2 h1.2.2.1

set_option maxRecDepth 100000 in
set_option maxHeartbeats 1000000 in
theorem eq_p (W1 H1 : Int) (ad1 : Option Addr) (n1 cap1 : Nat) (W2 H2 : Int) (ad2 : Option Addr) (n2 cap2 : Nat) (xs ys : List Int) (w : World) (h1 : Lst w ad1 n1 xs) (h2 : Lst w ad2 n2 ys) :
    Calls Try.prog 43 #[(.agg #[(.int .i64 W1), (.int .i64 H1), (.slice ad1 n1 cap1)]), (.agg #[(.int .i64 W2), (.int .i64 H2), (.slice ad2 n2 cap2)])] w (Ret w (fun _ : Unit => True) (fun _ => .bool (eqB W1 H1 xs W2 H2 ys)) (fun _ => [])) := by
  refine enter (M := None) (L := []) (n := 24) (l := [(0, (.agg #[(.int .i64 W1), (.int .i64 H1), (.slice ad1 n1 cap1)])), (1, (.agg #[(.int .i64 W2), (.int .i64 H2), (.slice ad2 n2 cap2)]))]) Try.func43 rfl rfl (Args.cons rfl (Args.cons rfl (Args.nil _))) (Hp.start _ _) ?_
  refine GC.seq ?_
  refine GC.region ?_
  refine GL.step (Stp.box (cs := [(.int .i64 W1), (.int .i64 H1), (.slice ad1 n1 cap1)]) rfl rfl (by decide)) (fun bq1 _ => ?_)
  refine GL.step (Stp.box (cs := [(.int .i64 W2), (.int .i64 H2), (.slice ad2 n2 cap2)]) rfl rfl (by decide)) (fun bq2 _ => ?_)
  refine GL.val (v := (.bool false)) (Ex.assign rfl) (by decide) ?_
  refine GL.nil ?_
  refine GE.thenN ?_
  refine GC.seq ?_
  refine GC.region ?_
  refine GL.val (v := (.pointer (some ⟨bq1, 0, none⟩))) (Ex.cast (Ex.fieldAddr rfl Try.underlying32 rfl T.sz3 (by decide)) rfl) (by decide) ?_
  refine GL.val (v := (.int .i64 W1)) (Ex.load rfl T.ag3 (i := 1) rfl rfl) (by decide) ?_
  refine GL.val (v := (.pointer (some ⟨bq2, 0, none⟩))) (Ex.cast (Ex.fieldAddr rfl Try.underlying32 rfl T.sz3 (by decide)) rfl) (by decide) ?_
  refine GL.val (v := (.int .i64 W2)) (Ex.load rfl T.ag3 (i := 0) rfl rfl) (by decide) ?_
  by_cases hq3 : W1 = W2
  · refine GL.val (v := (.bool true)) (Ex.cast (Ex.eql rfl rfl) (congrArg Value.bool (decide_eq_true hq3))) (by decide) ?_
    refine GL.val (v := (.bool true)) (Ex.move rfl) (by decide) ?_
    refine GL.stepG (tj := 10) rfl rfl (Ex.wp (v := (.pointer (some ⟨bq1, 1, none⟩))) (Ex.cast (Ex.fieldAddr rfl Try.underlying32 rfl T.sz3 (by decide)) rfl) (by decide)) (fun _ _ => ?_)
    refine GL.stepG (tj := 10) rfl rfl (Ex.wp (v := (.int .i64 H1)) (Ex.load rfl T.ag3 (i := 1) rfl rfl) (by decide)) (fun _ _ => ?_)
    refine GL.stepG (tj := 10) rfl rfl (Ex.wp (v := (.pointer (some ⟨bq2, 1, none⟩))) (Ex.cast (Ex.fieldAddr rfl Try.underlying32 rfl T.sz3 (by decide)) rfl) (by decide)) (fun _ _ => ?_)
    refine GL.stepG (tj := 10) rfl rfl (Ex.wp (v := (.int .i64 H2)) (Ex.load rfl T.ag3 (i := 0) rfl rfl) (by decide)) (fun _ _ => ?_)
    by_cases hq4 : H1 = H2
    · refine GL.stepG (tj := 10) rfl rfl (Ex.wp (v := (.bool true)) (Ex.cast (Ex.eql rfl rfl) (congrArg Value.bool (decide_eq_true hq4))) (by decide)) (fun _ _ => ?_)
      refine GL.val (v := (.bool true)) (Ex.pickT rfl rfl) (by decide) ?_
      refine GL.val (v := (.bool true)) (Ex.move rfl) (by decide) ?_
      refine GL.stepG (tj := 17) rfl rfl (Ex.wp (v := (.pointer (some ⟨bq1, 2, none⟩))) (Ex.cast (Ex.fieldAddr rfl Try.underlying32 rfl T.sz30 (by decide)) rfl) (by decide)) (fun _ _ => ?_)
      refine GL.stepG (tj := 17) rfl rfl (Ex.wp (v := (.slice ad1 n1 cap1)) (Ex.load rfl T.ag30 (i := 1) rfl rfl) (by decide)) (fun _ _ => ?_)
      refine GL.stepG (tj := 17) rfl rfl (Ex.wp (v := (.pointer (some ⟨bq2, 2, none⟩))) (Ex.cast (Ex.fieldAddr rfl Try.underlying32 rfl T.sz30 (by decide)) rfl) (by decide)) (fun _ _ => ?_)
      refine GL.stepG (tj := 17) rfl rfl (Ex.wp (v := (.slice ad2 n2 cap2)) (Ex.load rfl T.ag30 (i := 0) rfl rfl) (by decide)) (fun _ _ => ?_)
      refine GL.stepG (tj := 17) rfl rfl (Stp.callR (σ := Unit) (p := fun rz => True) (v := fun rz => (.bool (decide (xs = ys)))) (N := fun rz => []) (vs := [(.slice ad1 n1 cap1), (.slice ad2 n2 cap2)]) rfl rfl T.own74 (by decide) (fun wc hw => sl_any ad1 ad2 n1 cap1 n2 cap2 xs ys wc (h1.later hw.1) (h2.later hw.1))) (fun xq5 hq6 => ?_)
      refine GL.val (v := (.bool (decide (xs = ys)))) (Ex.pickT rfl rfl) (by decide) ?_
      refine GL.val (v := (.bool (decide (xs = ys)))) (Ex.assign rfl) (by decide) ?_
      refine GL.nil ?_
      refine GE.thenN ?_
      refine GC.ret ?_
      refine GC.ret1 rfl (Rv.tmp rfl) (fun wN HN => ?_)
      exact HN.ret () trivial (congrArg Value.bool (by unfold eqB; exact decide_eq_decide.2 ⟨fun h => ⟨by omega, by omega, h⟩, fun h => h.2.2⟩)) (List.nil_sublist _) rfl
    · refine GL.stepG (tj := 10) rfl rfl (Ex.wp (v := (.bool false)) (Ex.cast (Ex.eql rfl rfl) (congrArg Value.bool (decide_eq_false hq4))) (by decide)) (fun _ _ => ?_)
      refine GL.val (v := (.bool false)) (Ex.pickT rfl rfl) (by decide) ?_
      refine GL.val (v := (.bool false)) (Ex.move rfl) (by decide) ?_
      refine GL.skipG (tj := 17) rfl rfl rfl (by decide) ?_
      refine GL.skipG (tj := 17) rfl rfl rfl (by decide) ?_
      refine GL.skipG (tj := 17) rfl rfl rfl (by decide) ?_
      refine GL.skipG (tj := 17) rfl rfl rfl (by decide) ?_
      refine GL.skipG (tj := 17) rfl rfl rfl (by decide) ?_
      refine GL.val (v := (.bool false)) (Ex.pickF rfl rfl) (by decide) ?_
      refine GL.val (v := (.bool false)) (Ex.assign rfl) (by decide) ?_
      refine GL.nil ?_
      refine GE.thenN ?_
      refine GC.ret ?_
      refine GC.ret1 rfl (Rv.tmp rfl) (fun wN HN => ?_)
      exact HN.ret () trivial (congrArg Value.bool (decide_eq_false (fun h => by omega)).symm) (List.nil_sublist _) rfl
  · refine GL.val (v := (.bool false)) (Ex.cast (Ex.eql rfl rfl) (congrArg Value.bool (decide_eq_false hq3))) (by decide) ?_
    refine GL.val (v := (.bool false)) (Ex.move rfl) (by decide) ?_
    refine GL.skipG (tj := 10) rfl rfl rfl (by decide) ?_
    refine GL.skipG (tj := 10) rfl rfl rfl (by decide) ?_
    refine GL.skipG (tj := 10) rfl rfl rfl (by decide) ?_
    refine GL.skipG (tj := 10) rfl rfl rfl (by decide) ?_
    refine GL.skipG (tj := 10) rfl rfl rfl (by decide) ?_
    refine GL.val (v := (.bool false)) (Ex.pickF rfl rfl) (by decide) ?_
    refine GL.val (v := (.bool false)) (Ex.move rfl) (by decide) ?_
    refine GL.skipG (tj := 17) rfl rfl rfl (by decide) ?_
    refine GL.skipG (tj := 17) rfl rfl rfl (by decide) ?_
    refine GL.skipG (tj := 17) rfl rfl rfl (by decide) ?_
    refine GL.skipG (tj := 17) rfl rfl rfl (by decide) ?_
    refine GL.skipG (tj := 17) rfl rfl rfl (by decide) ?_
    refine GL.val (v := (.bool false)) (Ex.pickF rfl rfl) (by decide) ?_
    refine GL.val (v := (.bool false)) (Ex.assign rfl) (by decide) ?_
    refine GL.nil ?_
    refine GE.thenN ?_
    refine GC.ret ?_
    refine GC.ret1 rfl (Rv.tmp rfl) (fun wN HN => ?_)
    exact HN.ret () trivial (congrArg Value.bool (decide_eq_false (fun h => by omega)).symm) (List.nil_sublist _) rfl

set_option maxRecDepth 100000 in
set_option maxHeartbeats 1000000 in
theorem unlike_ne (W H b1 o1 n1 cap1 b2 o2 n2 cap2 : Nat) (xs ys : List Int) (w : World) (hok : okP W H) (hn : n1 = W * H) (hn2 : n2 = W * H) (h1 : Lst w (some ⟨b1, o1, none⟩) n1 xs) (h2 : Lst w (some ⟨b2, o2, none⟩) n2 ys) (hr1 : Rd w b1 o1 (xs.map u32)) (hr2 : Rd w b2 o2 (ys.map u32)) (hxy : xs ≠ ys) :
    Calls Try.prog 41 #[(.agg #[(.int .i64 ((W : Int))), (.int .i64 ((H : Int))), (.slice (some ⟨b1, o1, none⟩) n1 cap1)]), (.agg #[(.int .i64 ((W : Int))), (.int .i64 ((H : Int))), (.slice (some ⟨b2, o2, none⟩) n2 cap2)])] w (Ret w (fun _ : Unit => True) (fun _ => .tuple #[.agg #[.int .i64 (unl W H xs ys n1).1, .int .i64 (unl W H xs ys n1).2.1, .int .i64 (unl W H xs ys n1).2.2.1, .int .i64 (unl W H xs ys n1).2.2.2], .bool true]) (fun _ => [])) := by
  refine enter (M := None) (L := []) (n := 89) (l := [(0, (.agg #[(.int .i64 ((W : Int))), (.int .i64 ((H : Int))), (.slice (some ⟨b1, o1, none⟩) n1 cap1)])), (1, (.agg #[(.int .i64 ((W : Int))), (.int .i64 ((H : Int))), (.slice (some ⟨b2, o2, none⟩) n2 cap2)]))]) Try.func41 rfl rfl (Args.cons rfl (Args.cons rfl (Args.nil _))) (Hp.start _ _) ?_
  refine GC.seq ?_
  have hW := hok.1
  have hH := hok.2.1
  have hW2 := hok.2.2.1
  have hH2 := hok.2.2.2.1
  have hA := hok.2.2.2.2
  refine GC.region ?_
  refine GL.step (Stp.box (cs := [(.int .i64 ((W : Int))), (.int .i64 ((H : Int))), (.slice (some ⟨b1, o1, none⟩) n1 cap1)]) rfl rfl (by decide)) (fun bq1 _ => ?_)
  refine GL.step (Stp.box (cs := [(.int .i64 ((W : Int))), (.int .i64 ((H : Int))), (.slice (some ⟨b2, o2, none⟩) n2 cap2)]) rfl rfl (by decide)) (fun bq2 _ => ?_)
  refine GL.step (Stp.alloc T.zr54 (by decide)) (fun bq3 _ => ?_)
  refine GL.val (v := (.bool false)) (Ex.assign rfl) (by decide) ?_
  refine GL.nil ?_
  refine GE.thenN ?_
  refine GC.seq ?_
  refine GC.seq ?_
  refine GC.region ?_
  refine GL.val (v := (.agg #[(.int .i64 ((W : Int))), (.int .i64 ((H : Int))), (.slice (some ⟨b1, o1, none⟩) n1 cap1)])) (Ex.loadA rfl T.ag32 T.sz32 (i := 2) rfl (vs := [(.int .i64 ((W : Int))), (.int .i64 ((H : Int))), (.slice (some ⟨b1, o1, none⟩) n1 cap1)]) rfl rfl) (by decide) ?_
  refine GL.step (Stp.callR (σ := Unit) (p := fun rz => True) (v := fun rz => (.int .i64 0)) (N := fun rz => []) (vs := [(.agg #[(.int .i64 ((W : Int))), (.int .i64 ((H : Int))), (.slice (some ⟨b1, o1, none⟩) n1 cap1)])]) rfl rfl T.own36 (by decide) (fun wc hw => (by have h := check W H (some ⟨b1, o1, none⟩) n1 cap1 wc; rw [show chk W H n1 = 0 from by rw [hn]; exact chk_ok hok] at h; exact h))) (fun xq4 hq5 => ?_)
  refine GL.val (v := (.bool false)) (Ex.cast (Ex.neq rfl rfl) rfl) (by decide) ?_
  refine GL.val (v := (.bool false)) (Ex.move rfl) (by decide) ?_
  refine GL.stepG (tj := 13) rfl rfl (Ex.wp (v := (.agg #[(.int .i64 ((W : Int))), (.int .i64 ((H : Int))), (.slice (some ⟨b2, o2, none⟩) n2 cap2)])) (Ex.loadA rfl T.ag32 T.sz32 (i := 1) rfl (vs := [(.int .i64 ((W : Int))), (.int .i64 ((H : Int))), (.slice (some ⟨b2, o2, none⟩) n2 cap2)]) rfl rfl) (by decide)) (fun _ _ => ?_)
  refine GL.stepG (tj := 13) rfl rfl (Stp.callR (σ := Unit) (p := fun rz => True) (v := fun rz => (.int .i64 0)) (N := fun rz => []) (vs := [(.agg #[(.int .i64 ((W : Int))), (.int .i64 ((H : Int))), (.slice (some ⟨b2, o2, none⟩) n2 cap2)])]) rfl rfl T.own36 (by decide) (fun wc hw => (by have h := check W H (some ⟨b2, o2, none⟩) n2 cap2 wc; rw [show chk W H n2 = 0 from by rw [hn2]; exact chk_ok hok] at h; exact h))) (fun xq6 hq7 => ?_)
  refine GL.stepG (tj := 13) rfl rfl (Ex.wp (v := (.bool false)) (Ex.cast (Ex.neq rfl rfl) rfl) (by decide)) (fun _ _ => ?_)
  refine GL.val (v := (.bool false)) (Ex.pickF rfl rfl) (by decide) ?_
  refine GL.val (v := (.bool false)) (Ex.move rfl) (by decide) ?_
  refine GL.stepG (tj := 18) rfl rfl (Ex.wp (v := (.pointer (some ⟨bq1, 0, none⟩))) (Ex.cast (Ex.fieldAddr rfl Try.underlying32 rfl T.sz3 (by decide)) rfl) (by decide)) (fun _ _ => ?_)
  refine GL.stepG (tj := 18) rfl rfl (Ex.wp (v := (.int .i64 ((W : Int)))) (Ex.load rfl T.ag3 (i := 2) rfl rfl) (by decide)) (fun _ _ => ?_)
  refine GL.stepG (tj := 18) rfl rfl (Ex.wp (v := (.pointer (some ⟨bq2, 0, none⟩))) (Ex.cast (Ex.fieldAddr rfl Try.underlying32 rfl T.sz3 (by decide)) rfl) (by decide)) (fun _ _ => ?_)
  refine GL.stepG (tj := 18) rfl rfl (Ex.wp (v := (.int .i64 ((W : Int)))) (Ex.load rfl T.ag3 (i := 1) rfl rfl) (by decide)) (fun _ _ => ?_)
  refine GL.stepG (tj := 18) rfl rfl (Ex.wp (v := (.bool false)) (Ex.cast (Ex.neq rfl rfl) (congrArg Value.bool (decide_eq_false (by simp)))) (by decide)) (fun _ _ => ?_)
  refine GL.val (v := (.bool false)) (Ex.pickF rfl rfl) (by decide) ?_
  refine GL.val (v := (.bool false)) (Ex.move rfl) (by decide) ?_
  refine GL.stepG (tj := 25) rfl rfl (Ex.wp (v := (.pointer (some ⟨bq1, 1, none⟩))) (Ex.cast (Ex.fieldAddr rfl Try.underlying32 rfl T.sz3 (by decide)) rfl) (by decide)) (fun _ _ => ?_)
  refine GL.stepG (tj := 25) rfl rfl (Ex.wp (v := (.int .i64 ((H : Int)))) (Ex.load rfl T.ag3 (i := 2) rfl rfl) (by decide)) (fun _ _ => ?_)
  refine GL.stepG (tj := 25) rfl rfl (Ex.wp (v := (.pointer (some ⟨bq2, 1, none⟩))) (Ex.cast (Ex.fieldAddr rfl Try.underlying32 rfl T.sz3 (by decide)) rfl) (by decide)) (fun _ _ => ?_)
  refine GL.stepG (tj := 25) rfl rfl (Ex.wp (v := (.int .i64 ((H : Int)))) (Ex.load rfl T.ag3 (i := 1) rfl rfl) (by decide)) (fun _ _ => ?_)
  refine GL.stepG (tj := 25) rfl rfl (Ex.wp (v := (.bool false)) (Ex.cast (Ex.neq rfl rfl) (congrArg Value.bool (decide_eq_false (by simp)))) (by decide)) (fun _ _ => ?_)
  refine GL.val (v := (.bool false)) (Ex.pickF rfl rfl) (by decide) ?_
  refine GL.val (v := (.bool false)) (Ex.move rfl) (by decide) ?_
  refine GL.stepG (tj := 32) rfl rfl (Ex.wp (v := (.agg #[(.int .i64 ((W : Int))), (.int .i64 ((H : Int))), (.slice (some ⟨b1, o1, none⟩) n1 cap1)])) (Ex.loadA rfl T.ag32 T.sz32 (i := 2) rfl (vs := [(.int .i64 ((W : Int))), (.int .i64 ((H : Int))), (.slice (some ⟨b1, o1, none⟩) n1 cap1)]) rfl rfl) (by decide)) (fun _ _ => ?_)
  refine GL.stepG (tj := 32) rfl rfl (Ex.wp (v := (.agg #[(.int .i64 ((W : Int))), (.int .i64 ((H : Int))), (.slice (some ⟨b2, o2, none⟩) n2 cap2)])) (Ex.loadA rfl T.ag32 T.sz32 (i := 1) rfl (vs := [(.int .i64 ((W : Int))), (.int .i64 ((H : Int))), (.slice (some ⟨b2, o2, none⟩) n2 cap2)]) rfl rfl) (by decide)) (fun _ _ => ?_)
  refine GL.stepG (tj := 32) rfl rfl (Stp.callR (σ := Unit) (p := fun rz => True) (v := fun rz => (.bool false)) (N := fun rz => []) (vs := [(.agg #[(.int .i64 ((W : Int))), (.int .i64 ((H : Int))), (.slice (some ⟨b1, o1, none⟩) n1 cap1)]), (.agg #[(.int .i64 ((W : Int))), (.int .i64 ((H : Int))), (.slice (some ⟨b2, o2, none⟩) n2 cap2)])]) rfl rfl T.own43 (by decide) (fun wc hw => (by have h := eq_p W H (some ⟨b1, o1, none⟩) n1 cap1 W H (some ⟨b2, o2, none⟩) n2 cap2 xs ys wc (h1.later hw.1) (h2.later hw.1); rw [show eqB W H xs W H ys = false from decide_eq_false (fun h => hxy h.2.2)] at h; exact h))) (fun xq8 hq9 => ?_)
  refine GL.val (v := (.bool false)) (Ex.pickF rfl rfl) (by decide) ?_
  refine GL.nil ?_
  refine GE.thenN ?_
  refine GC.cond rfl (fun hq10 => by cases hq10) (fun _ => ?_)
  refine GC.skip ?_
  refine GE.thenN ?_
  refine GC.seq ?_
  refine GC.region ?_
  refine GL.val (v := (.pointer (some ⟨bq1, 0, none⟩))) (Ex.cast (Ex.fieldAddr rfl Try.underlying32 rfl T.sz3 (by decide)) rfl) (by decide) ?_
  refine GL.val (v := (.int .i64 ((W : Int)))) (Ex.load rfl T.ag3 (i := 2) rfl rfl) (by decide) ?_
  refine GL.val (v := (.pointer (some ⟨bq1, 1, none⟩))) (Ex.cast (Ex.fieldAddr rfl Try.underlying32 rfl T.sz3 (by decide)) rfl) (by decide) ?_
  refine GL.val (v := (.int .i64 ((H : Int)))) (Ex.load rfl T.ag3 (i := 2) rfl rfl) (by decide) ?_
  refine GL.val (v := (.agg #[(.int .i64 ((W : Int))), (.int .i64 ((H : Int))), (.int .i64 0), (.int .i64 0)])) (Ex.build (vs := [(0, (.int .i64 ((W : Int)))), (1, (.int .i64 ((H : Int))))]) rfl (by first | rfl | kernel_rfl)) (by decide) ?_
  refine GL.step (Stp.alloc T.zr54 (by decide)) (fun bq11 _ => ?_)
  refine GL.step (Stp.storeL (i := 0) (L1 := [⟨bq11, [(.int .i64 ((W : Int))), (.int .i64 ((H : Int))), (.int .i64 0), (.int .i64 0)], 54, true⟩, ⟨bq3, [(.int .i64 0), (.int .i64 0), (.int .i64 0), (.int .i64 0)], 54, true⟩, ⟨bq2, [(.int .i64 ((W : Int))), (.int .i64 ((H : Int))), (.slice (some ⟨b2, o2, none⟩) n2 cap2)], 32, true⟩, ⟨bq1, [(.int .i64 ((W : Int))), (.int .i64 ((H : Int))), (.slice (some ⟨b1, o1, none⟩) n1 cap1)], 32, true⟩]) rfl rfl rfl T.sz54 rfl rfl rfl rfl) (fun _ _ => ?_)
  refine GL.nil ?_
  refine GE.thenN ?_
  refine GC.seq ?_
  refine GC.seq ?_
  refine GC.region ?_
  refine GL.val (v := (.pointer (some ⟨bq1, 2, none⟩))) (Ex.cast (Ex.fieldAddr rfl Try.underlying32 rfl T.sz30 (by decide)) rfl) (by decide) ?_
  refine GL.val (v := (.slice (some ⟨b1, o1, none⟩) n1 cap1)) (Ex.load rfl T.ag30 (i := 3) rfl rfl) (by decide) ?_
  refine GL.val (v := (.int .i64 ((n1 : Int)))) (Ex.len rfl Try.underlying30) (by decide) ?_
  refine GL.val (v := (.int .i64 0)) (Ex.move rfl) (by decide) ?_
  refine GL.nil ?_
  refine GE.thenN ?_
  refine GC.block ?_
  refine GC.loop (σ := Nat) (fun k => k ≤ n1) (fun k => [(2, (.pointer (some ⟨bq1, 0, none⟩))), (3, (.pointer (some ⟨bq2, 0, none⟩))), (4, (.pointer (some ⟨bq3, 0, none⟩))), (6, (.pointer (some ⟨bq11, 0, none⟩))), (45, (.int .i64 ((n1 : Int)))), (46, (.int .i64 (((k : Nat) : Int))))]) (fun k => [⟨bq11, [(.int .i64 ((unl W H xs ys k).1)), (.int .i64 ((unl W H xs ys k).2.1)), (.int .i64 ((unl W H xs ys k).2.2.1)), (.int .i64 ((unl W H xs ys k).2.2.2))], 54, true⟩, ⟨bq3, [(.int .i64 0), (.int .i64 0), (.int .i64 0), (.int .i64 0)], 54, true⟩, ⟨bq2, [(.int .i64 ((W : Int))), (.int .i64 ((H : Int))), (.slice (some ⟨b2, o2, none⟩) n2 cap2)], 32, true⟩, ⟨bq1, [(.int .i64 ((W : Int))), (.int .i64 ((H : Int))), (.slice (some ⟨b1, o1, none⟩) n1 cap1)], 32, true⟩]) (fun k => n1 - k) (0) (Nat.zero_le _) ((sub_cons rfl ((sub_cons rfl ((sub_cons rfl ((sub_cons rfl ((sub_cons rfl ((sub_cons rfl ((sub_nil _)))))))))))))) (List.Sublist.cons_cons _ (List.Sublist.cons_cons _ (List.Sublist.cons_cons _ (List.Sublist.cons_cons _ (List.nil_sublist _))))) (fun k hp => ?_)
  refine GC.seq ?_
  refine GC.region ?_
  refine GL.val (v := (.bool (decide ((((k : Nat) : Int)) < ((n1 : Int)))))) (Ex.lss rfl rfl) (by decide) ?_
  refine GL.nil ?_
  refine GE.thenN ?_
  refine GC.seq ?_
  refine GC.cond rfl (fun hq12 => ?_) (fun hq12 => ?_)
  · replace hq12 := of_decide_eq_true hq12
    refine GC.skip ?_
    refine GE.thenN ?_
    refine GC.seq ?_
    refine GC.block ?_
    refine GC.seq ?_
    refine GC.region ?_
    refine GL.val (v := (.int .i64 (((k : Nat) : Int)))) (Ex.move rfl) (by decide) ?_
    refine GL.val (v := (.int .i64 (((k : Nat) : Int)))) (Ex.assign rfl) (by decide) ?_
    refine GL.nil ?_
    refine GE.thenN ?_
    refine GC.seq ?_
    refine GC.draw [⟨bq11, [(.int .i64 ((unl W H xs ys k).1)), (.int .i64 ((unl W H xs ys k).2.1)), (.int .i64 ((unl W H xs ys k).2.2.1)), (.int .i64 ((unl W H xs ys k).2.2.2))], 54, true⟩, ⟨bq3, [(.int .i64 0), (.int .i64 0), (.int .i64 0), (.int .i64 0)], 54, true⟩, ⟨bq2, [(.int .i64 ((W : Int))), (.int .i64 ((H : Int))), (.slice (some ⟨b2, o2, none⟩) n2 cap2)], 32, true⟩, ⟨bq1, [(.int .i64 ((W : Int))), (.int .i64 ((H : Int))), (.slice (some ⟨b1, o1, none⟩) n1 cap1)], 32, true⟩] T.mixed (fuel := 11) rfl rfl ?_
    refine GH.take 0 (v := (.pointer (some ⟨bq1, 2, none⟩))) rfl (by kernel_rfl) (by kernel_rfl) (by kernel_rfl) (fun _ _ _ h => h) (Ex.cast (Ex.fieldAddr rfl Try.underlying32 rfl T.sz30 (by decide)) rfl) (List.Sublist.cons_cons _ (List.Sublist.cons_cons _ (List.Sublist.cons_cons _ (List.Sublist.cons_cons _ (List.nil_sublist _))))) (by decide) ?_
    refine GH.take 1 (v := (.slice (some ⟨b1, o1, none⟩) n1 cap1)) rfl (by kernel_rfl) (by kernel_rfl) (by kernel_rfl) (fun _ _ _ h => h) (Ex.load rfl T.ag30 (i := 3) rfl rfl) (List.Sublist.cons_cons _ (List.Sublist.cons_cons _ (List.Sublist.cons_cons _ (List.Sublist.cons_cons _ (List.nil_sublist _))))) (by decide) ?_
    refine GH.take 2 (v := (.int .i64 (((k : Nat) : Int)))) rfl (by kernel_rfl) (by kernel_rfl) (by kernel_rfl) (fun _ _ _ h => h) (Ex.move rfl) (List.Sublist.cons_cons _ (List.Sublist.cons_cons _ (List.Sublist.cons_cons _ (List.Sublist.cons_cons _ (List.nil_sublist _))))) (by decide) ?_
    refine GH.take 3 (v := (.pointer (some ⟨b1, o1 + k, none⟩))) rfl (by kernel_rfl) (by kernel_rfl) (by kernel_rfl) (fun _ _ _ h => h) (Ex.cast (Ex.indexAddr rfl rfl Try.underlying30 T.sz72 (by omega) (by omega)) (by simp)) (List.Sublist.cons_cons _ (List.Sublist.cons_cons _ (List.Sublist.cons_cons _ (List.Sublist.cons_cons _ (List.nil_sublist _))))) (by decide) ?_
    refine GH.take 4 (v := (.int .u32 (xs.getD k 0))) rfl (by kernel_rfl) (by kernel_rfl) (by kernel_rfl) (fun _ _ _ h => h) (Ex.loadO rfl T.ag72 (Rd.at hr1 (by have a := h1.1; omega)) (fun x => x)) (List.Sublist.cons_cons _ (List.Sublist.cons_cons _ (List.Sublist.cons_cons _ (List.Sublist.cons_cons _ (List.nil_sublist _))))) (by decide) ?_
    refine GH.take 5 (v := (.pointer (some ⟨bq2, 2, none⟩))) rfl (by kernel_rfl) (by kernel_rfl) (by kernel_rfl) (fun _ _ _ h => h) (Ex.cast (Ex.fieldAddr rfl Try.underlying32 rfl T.sz30 (by decide)) rfl) (List.Sublist.cons_cons _ (List.Sublist.cons_cons _ (List.Sublist.cons_cons _ (List.Sublist.cons_cons _ (List.nil_sublist _))))) (by decide) ?_
    refine GH.take 6 (v := (.slice (some ⟨b2, o2, none⟩) n2 cap2)) rfl (by kernel_rfl) (by kernel_rfl) (by kernel_rfl) (fun _ _ _ h => h) (Ex.load rfl T.ag30 (i := 2) rfl rfl) (List.Sublist.cons_cons _ (List.Sublist.cons_cons _ (List.Sublist.cons_cons _ (List.Sublist.cons_cons _ (List.nil_sublist _))))) (by decide) ?_
    refine GH.take 7 (v := (.int .i64 (((k : Nat) : Int)))) rfl (by kernel_rfl) (by kernel_rfl) (by kernel_rfl) (fun _ _ _ h => h) (Ex.move rfl) (List.Sublist.cons_cons _ (List.Sublist.cons_cons _ (List.Sublist.cons_cons _ (List.Sublist.cons_cons _ (List.nil_sublist _))))) (by decide) ?_
    refine GH.take 8 (v := (.pointer (some ⟨b2, o2 + k, none⟩))) rfl (by kernel_rfl) (by kernel_rfl) (by kernel_rfl) (fun _ _ _ h => h) (Ex.cast (Ex.indexAddr rfl rfl Try.underlying30 T.sz72 (by omega) (by omega)) (by simp)) (List.Sublist.cons_cons _ (List.Sublist.cons_cons _ (List.Sublist.cons_cons _ (List.Sublist.cons_cons _ (List.nil_sublist _))))) (by decide) ?_
    refine GH.take 9 (v := (.int .u32 (ys.getD k 0))) rfl (by kernel_rfl) (by kernel_rfl) (by kernel_rfl) (fun _ _ _ h => h) (Ex.loadO rfl T.ag72 (Rd.at hr2 (by have a := h2.1; omega)) (fun x => x)) (List.Sublist.cons_cons _ (List.Sublist.cons_cons _ (List.Sublist.cons_cons _ (List.Sublist.cons_cons _ (List.nil_sublist _))))) (by decide) ?_
    refine GH.take 10 (v := (.bool (decide ((xs.getD k 0) ≠ (ys.getD k 0))))) rfl (by kernel_rfl) (by kernel_rfl) (by kernel_rfl) (fun _ _ _ h => h) (Ex.neq rfl rfl) (List.Sublist.cons_cons _ (List.Sublist.cons_cons _ (List.Sublist.cons_cons _ (List.Sublist.cons_cons _ (List.nil_sublist _))))) (by decide) ?_
    refine GH.done (by kernel_rfl) ?_
    refine GE.thenN ?_
    refine GC.cond rfl (fun hq13 => ?_) (fun hq13 => ?_)
    · replace hq13 := of_decide_eq_true hq13
      have hne := hq13
      have hx1 : k % W < W := Nat.mod_lt _ hok.1
      have hy1 : k / W < H := Nat.div_lt_of_lt_mul (by omega)
      have hy0 : (0 : Int) ≤ ((k / W : Nat) : Int) := Int.natCast_nonneg _
      refine GC.seq ?_
      refine GC.drawP [⟨bq11, [(.int .i64 ((unl W H xs ys k).1)), (.int .i64 ((unl W H xs ys k).2.1)), (.int .i64 ((unl W H xs ys k).2.2.1)), (.int .i64 ((unl W H xs ys k).2.2.2))], 54, true⟩, ⟨bq3, [(.int .i64 0), (.int .i64 0), (.int .i64 0), (.int .i64 0)], 54, true⟩, ⟨bq2, [(.int .i64 ((W : Int))), (.int .i64 ((H : Int))), (.slice (some ⟨b2, o2, none⟩) n2 cap2)], 32, true⟩, ⟨bq1, [(.int .i64 ((W : Int))), (.int .i64 ((H : Int))), (.slice (some ⟨b1, o1, none⟩) n1 cap1)], 32, true⟩] T.mixed (by kernel_rfl) (by kernel_rfl) (fuel := 9) rfl rfl ?_
      refine GH.take 0 (v := (.int .i64 (((k : Nat) : Int)))) rfl (by kernel_rfl) (by kernel_rfl) (by kernel_rfl) (fun _ _ _ h => h) (Ex.move rfl) (List.Sublist.cons_cons _ (List.Sublist.cons_cons _ (List.Sublist.cons_cons _ (List.Sublist.cons_cons _ (List.nil_sublist _))))) (by decide) ?_
      refine GH.take 1 (v := (.pointer (some ⟨bq1, 0, none⟩))) rfl (by kernel_rfl) (by kernel_rfl) (by kernel_rfl) (fun _ _ _ h => h) (Ex.cast (Ex.fieldAddr rfl Try.underlying32 rfl T.sz3 (by decide)) rfl) (List.Sublist.cons_cons _ (List.Sublist.cons_cons _ (List.Sublist.cons_cons _ (List.Sublist.cons_cons _ (List.nil_sublist _))))) (by decide) ?_
      refine GH.take 2 (v := (.int .i64 ((W : Int)))) rfl (by kernel_rfl) (by kernel_rfl) (by kernel_rfl) (fun _ _ _ h => h) (Ex.load rfl T.ag3 (i := 3) rfl rfl) (List.Sublist.cons_cons _ (List.Sublist.cons_cons _ (List.Sublist.cons_cons _ (List.Sublist.cons_cons _ (List.nil_sublist _))))) (by decide) ?_
      refine GH.take 3 (v := (.int .i64 (((k % W : Nat) : Int)))) rfl (by kernel_rfl) (by kernel_rfl) (by kernel_rfl) (fun _ _ _ h => h) (Ex.rem rfl rfl (Z := ((k % W : Nat) : Int)) (by omega) (by rw [Int.tmod_eq_emod_of_nonneg (Int.natCast_nonneg _)]; simp)) (List.Sublist.cons_cons _ (List.Sublist.cons_cons _ (List.Sublist.cons_cons _ (List.Sublist.cons_cons _ (List.nil_sublist _))))) (by decide) ?_
      refine GH.take 4 (v := (.int .i64 (((k : Nat) : Int)))) rfl (by kernel_rfl) (by kernel_rfl) (by kernel_rfl) (fun _ _ _ h => h) (Ex.move rfl) (List.Sublist.cons_cons _ (List.Sublist.cons_cons _ (List.Sublist.cons_cons _ (List.Sublist.cons_cons _ (List.nil_sublist _))))) (by decide) ?_
      refine GH.take 5 (v := (.pointer (some ⟨bq1, 0, none⟩))) rfl (by kernel_rfl) (by kernel_rfl) (by kernel_rfl) (fun _ _ _ h => h) (Ex.cast (Ex.fieldAddr rfl Try.underlying32 rfl T.sz3 (by decide)) rfl) (List.Sublist.cons_cons _ (List.Sublist.cons_cons _ (List.Sublist.cons_cons _ (List.Sublist.cons_cons _ (List.nil_sublist _))))) (by decide) ?_
      refine GH.take 6 (v := (.int .i64 ((W : Int)))) rfl (by kernel_rfl) (by kernel_rfl) (by kernel_rfl) (fun _ _ _ h => h) (Ex.load rfl T.ag3 (i := 3) rfl rfl) (List.Sublist.cons_cons _ (List.Sublist.cons_cons _ (List.Sublist.cons_cons _ (List.Sublist.cons_cons _ (List.nil_sublist _))))) (by decide) ?_
      refine GH.take 7 (v := (.int .i64 (((k / W : Nat) : Int)))) rfl (by kernel_rfl) (by kernel_rfl) (by kernel_rfl) (fun _ _ _ h => h) (Ex.quo rfl rfl (Z := ((k / W : Nat) : Int)) (by omega) (by rw [quo64 (Int.natCast_nonneg _) (by omega) (by omega)]; simp)) (List.Sublist.cons_cons _ (List.Sublist.cons_cons _ (List.Sublist.cons_cons _ (List.Sublist.cons_cons _ (List.nil_sublist _))))) (by decide) ?_
      refine GH.take 8 (v := (.int .i64 (((k % W : Nat) : Int)))) rfl (by kernel_rfl) (by kernel_rfl) (by kernel_rfl) (fun _ _ _ h => h) (Ex.assign rfl) (List.Sublist.cons_cons _ (List.Sublist.cons_cons _ (List.Sublist.cons_cons _ (List.Sublist.cons_cons _ (List.nil_sublist _))))) (by decide) ?_
      refine GH.done (by kernel_rfl) ?_
      refine GE.thenN ?_
      refine GE.tail rfl (Ex.wp (v := (.int .i64 (((k / W : Nat) : Int)))) (Ex.assign rfl) (by decide)) (fun _ _ => ?_)
      refine GE.thenN ?_
      refine GC.region ?_
      refine GL.val (v := (.pointer (some ⟨bq11, 0, none⟩))) (Ex.cast (Ex.fieldAddr rfl Try.underlying54 rfl T.sz3 (by decide)) rfl) (by decide) ?_
      refine GL.val (v := (.int .i64 ((unl W H xs ys k).1))) (Ex.load rfl T.ag3 (i := 0) rfl rfl) (by decide) ?_
      refine GL.val (v := (.int .i64 (((k % W : Nat) : Int)))) (Ex.move rfl) (by decide) ?_
      refine GL.val (v := (.int .i64 (min ((unl W H xs ys k).1) (((k % W : Nat) : Int))))) (Ex.minI rfl rfl (Z := min ((unl W H xs ys k).1) (((k % W : Nat) : Int))) (min64 _ _)) (by decide) ?_
      refine GL.val (v := (.pointer (some ⟨bq11, 1, none⟩))) (Ex.cast (Ex.fieldAddr rfl Try.underlying54 rfl T.sz3 (by decide)) rfl) (by decide) ?_
      refine GL.val (v := (.int .i64 ((unl W H xs ys k).2.1))) (Ex.load rfl T.ag3 (i := 0) rfl rfl) (by decide) ?_
      refine GL.val (v := (.int .i64 (((k / W : Nat) : Int)))) (Ex.move rfl) (by decide) ?_
      refine GL.val (v := (.int .i64 (min ((unl W H xs ys k).2.1) (((k / W : Nat) : Int))))) (Ex.minI rfl rfl (Z := min ((unl W H xs ys k).2.1) (((k / W : Nat) : Int))) (min64 _ _)) (by decide) ?_
      refine GL.val (v := (.pointer (some ⟨bq11, 2, none⟩))) (Ex.cast (Ex.fieldAddr rfl Try.underlying54 rfl T.sz3 (by decide)) rfl) (by decide) ?_
      refine GL.val (v := (.int .i64 ((unl W H xs ys k).2.2.1))) (Ex.load rfl T.ag3 (i := 0) rfl rfl) (by decide) ?_
      refine GL.val (v := (.int .i64 (((k % W : Nat) : Int)))) (Ex.move rfl) (by decide) ?_
      refine GL.val (v := (.int .i64 ((((k % W : Nat) : Int)) + 1))) (Ex.add rfl rfl (Z := (((k % W : Nat) : Int)) + 1) (w64 (by omega))) (by decide) ?_
      refine GL.val (v := (.int .i64 (max ((unl W H xs ys k).2.2.1) ((((k % W : Nat) : Int)) + 1)))) (Ex.maxI rfl rfl (Z := max ((unl W H xs ys k).2.2.1) ((((k % W : Nat) : Int)) + 1)) (max64 _ _)) (by decide) ?_
      refine GL.val (v := (.pointer (some ⟨bq11, 3, none⟩))) (Ex.cast (Ex.fieldAddr rfl Try.underlying54 rfl T.sz3 (by decide)) rfl) (by decide) ?_
      refine GL.val (v := (.int .i64 ((unl W H xs ys k).2.2.2))) (Ex.load rfl T.ag3 (i := 0) rfl rfl) (by decide) ?_
      refine GL.val (v := (.int .i64 (((k / W : Nat) : Int)))) (Ex.move rfl) (by decide) ?_
      refine GL.val (v := (.int .i64 ((((k / W : Nat) : Int)) + 1))) (Ex.add rfl rfl (Z := (((k / W : Nat) : Int)) + 1) (w64 (by omega))) (by decide) ?_
      refine GL.val (v := (.int .i64 (max ((unl W H xs ys k).2.2.2) ((((k / W : Nat) : Int)) + 1)))) (Ex.maxI rfl rfl (Z := max ((unl W H xs ys k).2.2.2) ((((k / W : Nat) : Int)) + 1)) (max64 _ _)) (by decide) ?_
      refine GL.val (v := (.agg #[(.int .i64 (min ((unl W H xs ys k).1) (((k % W : Nat) : Int)))), (.int .i64 (min ((unl W H xs ys k).2.1) (((k / W : Nat) : Int)))), (.int .i64 (max ((unl W H xs ys k).2.2.1) ((((k % W : Nat) : Int)) + 1))), (.int .i64 (max ((unl W H xs ys k).2.2.2) ((((k / W : Nat) : Int)) + 1)))])) (Ex.build (vs := [(0, (.int .i64 (min ((unl W H xs ys k).1) (((k % W : Nat) : Int))))), (1, (.int .i64 (min ((unl W H xs ys k).2.1) (((k / W : Nat) : Int))))), (2, (.int .i64 (max ((unl W H xs ys k).2.2.1) ((((k % W : Nat) : Int)) + 1)))), (3, (.int .i64 (max ((unl W H xs ys k).2.2.2) ((((k / W : Nat) : Int)) + 1))))]) rfl (by first | rfl | kernel_rfl)) (by decide) ?_
      refine GL.step (Stp.storeL (i := 0) (L1 := [⟨bq11, [(.int .i64 (min ((unl W H xs ys k).1) (((k % W : Nat) : Int)))), (.int .i64 (min ((unl W H xs ys k).2.1) (((k / W : Nat) : Int)))), (.int .i64 (max ((unl W H xs ys k).2.2.1) ((((k % W : Nat) : Int)) + 1))), (.int .i64 (max ((unl W H xs ys k).2.2.2) ((((k / W : Nat) : Int)) + 1)))], 54, true⟩, ⟨bq3, [(.int .i64 0), (.int .i64 0), (.int .i64 0), (.int .i64 0)], 54, true⟩, ⟨bq2, [(.int .i64 ((W : Int))), (.int .i64 ((H : Int))), (.slice (some ⟨b2, o2, none⟩) n2 cap2)], 32, true⟩, ⟨bq1, [(.int .i64 ((W : Int))), (.int .i64 ((H : Int))), (.slice (some ⟨b1, o1, none⟩) n1 cap1)], 32, true⟩]) rfl rfl rfl T.sz54 rfl rfl rfl rfl) (fun _ _ => ?_)
      refine GL.nil ?_
      refine GE.blockN ?_
      refine GE.thenN ?_
      refine GC.region ?_
      refine GL.val (v := (.int .i64 (((k + 1 : Nat) : Int)))) (Ex.add rfl rfl (Z := ((k + 1 : Nat) : Int)) (by rw [w64 (by omega)]; rfl)) (by decide) ?_
      refine GL.val (v := (.int .i64 (((k + 1 : Nat) : Int)))) (Ex.move rfl) (by decide) ?_
      refine GL.nil ?_
      refine GE.thenN ?_
      have eu : unl W H xs ys (k + 1) = (min (unl W H xs ys k).1 ((k % W : Nat) : Int), min (unl W H xs ys k).2.1 ((k / W : Nat) : Int), max (unl W H xs ys k).2.2.1 (((k % W : Nat) : Int) + 1), max (unl W H xs ys k).2.2.2 (((k / W : Nat) : Int) + 1)) := by conv => lhs; unfold unl; rw [if_neg hne]
      rw [show min ((unl W H xs ys k).1) (((k % W : Nat) : Int)) = (unl W H xs ys (k + 1)).1 from by rw [eu]]
      rw [show min ((unl W H xs ys k).2.1) (((k / W : Nat) : Int)) = (unl W H xs ys (k + 1)).2.1 from by rw [eu]]
      rw [show max ((unl W H xs ys k).2.2.1) ((((k % W : Nat) : Int)) + 1) = (unl W H xs ys (k + 1)).2.2.1 from by rw [eu]]
      rw [show max ((unl W H xs ys k).2.2.2) ((((k / W : Nat) : Int)) + 1) = (unl W H xs ys (k + 1)).2.2.2 from by rw [eu]]
      exact Head.mk (k + 1) (by omega) (by omega) ((sub_cons rfl ((sub_cons rfl ((sub_cons rfl ((sub_cons rfl ((sub_cons rfl ((sub_cons rfl ((sub_nil _)))))))))))))) (List.Sublist.cons_cons _ (List.Sublist.cons_cons _ (List.Sublist.cons_cons _ (List.Sublist.cons_cons _ (List.nil_sublist _)))))
    · replace hq13 := of_decide_eq_false hq13
      have heq : xs.getD k 0 = ys.getD k 0 := Classical.not_not.1 hq13
      refine GC.skip ?_
      refine GE.blockN ?_
      refine GE.thenN ?_
      refine GC.region ?_
      refine GL.val (v := (.int .i64 (((k + 1 : Nat) : Int)))) (Ex.add rfl rfl (Z := ((k + 1 : Nat) : Int)) (by rw [w64 (by omega)]; rfl)) (by decide) ?_
      refine GL.val (v := (.int .i64 (((k + 1 : Nat) : Int)))) (Ex.move rfl) (by decide) ?_
      refine GL.nil ?_
      refine GE.thenN ?_
      rw [show unl W H xs ys k = unl W H xs ys (k + 1) from by conv => rhs; unfold unl; rw [if_pos heq]]
      exact Head.mk (k + 1) (by omega) (by omega) ((sub_cons rfl ((sub_cons rfl ((sub_cons rfl ((sub_cons rfl ((sub_cons rfl ((sub_cons rfl ((sub_nil _)))))))))))))) (List.Sublist.cons_cons _ (List.Sublist.cons_cons _ (List.Sublist.cons_cons _ (List.Sublist.cons_cons _ (List.nil_sublist _)))))
  · replace hq12 := of_decide_eq_false hq12
    refine GC.exit ?_
    refine GE.thenE ?_
    refine GE.thenE ?_
    refine GE.blockE ?_
    refine GE.thenN ?_
    refine GC.seq ?_
    refine GC.region ?_
    refine GL.val (v := (.agg #[(.int .i64 ((unl W H xs ys k).1)), (.int .i64 ((unl W H xs ys k).2.1)), (.int .i64 ((unl W H xs ys k).2.2.1)), (.int .i64 ((unl W H xs ys k).2.2.2))])) (Ex.loadA rfl T.ag54 T.sz54 (i := 0) rfl (vs := [(.int .i64 ((unl W H xs ys k).1)), (.int .i64 ((unl W H xs ys k).2.1)), (.int .i64 ((unl W H xs ys k).2.2.1)), (.int .i64 ((unl W H xs ys k).2.2.2))]) rfl rfl) (by decide) ?_
    refine GL.step (Stp.storeL (i := 1) (L1 := [⟨bq11, [(.int .i64 ((unl W H xs ys k).1)), (.int .i64 ((unl W H xs ys k).2.1)), (.int .i64 ((unl W H xs ys k).2.2.1)), (.int .i64 ((unl W H xs ys k).2.2.2))], 54, true⟩, ⟨bq3, [(.int .i64 ((unl W H xs ys k).1)), (.int .i64 ((unl W H xs ys k).2.1)), (.int .i64 ((unl W H xs ys k).2.2.1)), (.int .i64 ((unl W H xs ys k).2.2.2))], 54, true⟩, ⟨bq2, [(.int .i64 ((W : Int))), (.int .i64 ((H : Int))), (.slice (some ⟨b2, o2, none⟩) n2 cap2)], 32, true⟩, ⟨bq1, [(.int .i64 ((W : Int))), (.int .i64 ((H : Int))), (.slice (some ⟨b1, o1, none⟩) n1 cap1)], 32, true⟩]) rfl rfl rfl T.sz54 rfl rfl rfl rfl) (fun _ _ => ?_)
    refine GL.val (v := (.bool true)) (Ex.assign rfl) (by decide) ?_
    refine GL.nil ?_
    refine GE.thenN ?_
    refine GC.ret ?_
    refine GC.ret2 rfl (Rv.cellA rfl T.ag54 T.sz54 (L := _) (i := 1) rfl (vs := [(.int .i64 ((unl W H xs ys k).1)), (.int .i64 ((unl W H xs ys k).2.1)), (.int .i64 ((unl W H xs ys k).2.2.1)), (.int .i64 ((unl W H xs ys k).2.2.2))]) rfl rfl) (Rv.tmp rfl) (fun wN HN => ?_)
    exact HN.ret () trivial (by rw [show k = n1 from by omega]) (List.nil_sublist _) rfl

set_option maxRecDepth 100000 in
set_option maxHeartbeats 1000000 in
theorem unlike_eq (W H b1 o1 n1 cap1 b2 o2 n2 cap2 : Nat) (xs ys : List Int) (w : World) (hok : okP W H) (hn : n1 = W * H) (hn2 : n2 = W * H) (h1 : Lst w (some ⟨b1, o1, none⟩) n1 xs) (h2 : Lst w (some ⟨b2, o2, none⟩) n2 ys) (hr1 : Rd w b1 o1 (xs.map u32)) (hr2 : Rd w b2 o2 (ys.map u32)) (hxy : xs = ys) :
    Calls Try.prog 41 #[(.agg #[(.int .i64 ((W : Int))), (.int .i64 ((H : Int))), (.slice (some ⟨b1, o1, none⟩) n1 cap1)]), (.agg #[(.int .i64 ((W : Int))), (.int .i64 ((H : Int))), (.slice (some ⟨b2, o2, none⟩) n2 cap2)])] w (Ret w (fun _ : Unit => True) (fun _ => .tuple #[.agg #[.int .i64 0, .int .i64 0, .int .i64 0, .int .i64 0], .bool false]) (fun _ => [])) := by
  refine enter (M := None) (L := []) (n := 89) (l := [(0, (.agg #[(.int .i64 ((W : Int))), (.int .i64 ((H : Int))), (.slice (some ⟨b1, o1, none⟩) n1 cap1)])), (1, (.agg #[(.int .i64 ((W : Int))), (.int .i64 ((H : Int))), (.slice (some ⟨b2, o2, none⟩) n2 cap2)]))]) Try.func41 rfl rfl (Args.cons rfl (Args.cons rfl (Args.nil _))) (Hp.start _ _) ?_
  refine GC.seq ?_
  have hW := hok.1
  have hH := hok.2.1
  have hW2 := hok.2.2.1
  have hH2 := hok.2.2.2.1
  have hA := hok.2.2.2.2
  refine GC.region ?_
  refine GL.step (Stp.box (cs := [(.int .i64 ((W : Int))), (.int .i64 ((H : Int))), (.slice (some ⟨b1, o1, none⟩) n1 cap1)]) rfl rfl (by decide)) (fun bq1 _ => ?_)
  refine GL.step (Stp.box (cs := [(.int .i64 ((W : Int))), (.int .i64 ((H : Int))), (.slice (some ⟨b2, o2, none⟩) n2 cap2)]) rfl rfl (by decide)) (fun bq2 _ => ?_)
  refine GL.step (Stp.alloc T.zr54 (by decide)) (fun bq3 _ => ?_)
  refine GL.val (v := (.bool false)) (Ex.assign rfl) (by decide) ?_
  refine GL.nil ?_
  refine GE.thenN ?_
  refine GC.seq ?_
  refine GC.seq ?_
  refine GC.region ?_
  refine GL.val (v := (.agg #[(.int .i64 ((W : Int))), (.int .i64 ((H : Int))), (.slice (some ⟨b1, o1, none⟩) n1 cap1)])) (Ex.loadA rfl T.ag32 T.sz32 (i := 2) rfl (vs := [(.int .i64 ((W : Int))), (.int .i64 ((H : Int))), (.slice (some ⟨b1, o1, none⟩) n1 cap1)]) rfl rfl) (by decide) ?_
  refine GL.step (Stp.callR (σ := Unit) (p := fun rz => True) (v := fun rz => (.int .i64 0)) (N := fun rz => []) (vs := [(.agg #[(.int .i64 ((W : Int))), (.int .i64 ((H : Int))), (.slice (some ⟨b1, o1, none⟩) n1 cap1)])]) rfl rfl T.own36 (by decide) (fun wc hw => (by have h := check W H (some ⟨b1, o1, none⟩) n1 cap1 wc; rw [show chk W H n1 = 0 from by rw [hn]; exact chk_ok hok] at h; exact h))) (fun xq4 hq5 => ?_)
  refine GL.val (v := (.bool false)) (Ex.cast (Ex.neq rfl rfl) rfl) (by decide) ?_
  refine GL.val (v := (.bool false)) (Ex.move rfl) (by decide) ?_
  refine GL.stepG (tj := 13) rfl rfl (Ex.wp (v := (.agg #[(.int .i64 ((W : Int))), (.int .i64 ((H : Int))), (.slice (some ⟨b2, o2, none⟩) n2 cap2)])) (Ex.loadA rfl T.ag32 T.sz32 (i := 1) rfl (vs := [(.int .i64 ((W : Int))), (.int .i64 ((H : Int))), (.slice (some ⟨b2, o2, none⟩) n2 cap2)]) rfl rfl) (by decide)) (fun _ _ => ?_)
  refine GL.stepG (tj := 13) rfl rfl (Stp.callR (σ := Unit) (p := fun rz => True) (v := fun rz => (.int .i64 0)) (N := fun rz => []) (vs := [(.agg #[(.int .i64 ((W : Int))), (.int .i64 ((H : Int))), (.slice (some ⟨b2, o2, none⟩) n2 cap2)])]) rfl rfl T.own36 (by decide) (fun wc hw => (by have h := check W H (some ⟨b2, o2, none⟩) n2 cap2 wc; rw [show chk W H n2 = 0 from by rw [hn2]; exact chk_ok hok] at h; exact h))) (fun xq6 hq7 => ?_)
  refine GL.stepG (tj := 13) rfl rfl (Ex.wp (v := (.bool false)) (Ex.cast (Ex.neq rfl rfl) rfl) (by decide)) (fun _ _ => ?_)
  refine GL.val (v := (.bool false)) (Ex.pickF rfl rfl) (by decide) ?_
  refine GL.val (v := (.bool false)) (Ex.move rfl) (by decide) ?_
  refine GL.stepG (tj := 18) rfl rfl (Ex.wp (v := (.pointer (some ⟨bq1, 0, none⟩))) (Ex.cast (Ex.fieldAddr rfl Try.underlying32 rfl T.sz3 (by decide)) rfl) (by decide)) (fun _ _ => ?_)
  refine GL.stepG (tj := 18) rfl rfl (Ex.wp (v := (.int .i64 ((W : Int)))) (Ex.load rfl T.ag3 (i := 2) rfl rfl) (by decide)) (fun _ _ => ?_)
  refine GL.stepG (tj := 18) rfl rfl (Ex.wp (v := (.pointer (some ⟨bq2, 0, none⟩))) (Ex.cast (Ex.fieldAddr rfl Try.underlying32 rfl T.sz3 (by decide)) rfl) (by decide)) (fun _ _ => ?_)
  refine GL.stepG (tj := 18) rfl rfl (Ex.wp (v := (.int .i64 ((W : Int)))) (Ex.load rfl T.ag3 (i := 1) rfl rfl) (by decide)) (fun _ _ => ?_)
  refine GL.stepG (tj := 18) rfl rfl (Ex.wp (v := (.bool false)) (Ex.cast (Ex.neq rfl rfl) (congrArg Value.bool (decide_eq_false (by simp)))) (by decide)) (fun _ _ => ?_)
  refine GL.val (v := (.bool false)) (Ex.pickF rfl rfl) (by decide) ?_
  refine GL.val (v := (.bool false)) (Ex.move rfl) (by decide) ?_
  refine GL.stepG (tj := 25) rfl rfl (Ex.wp (v := (.pointer (some ⟨bq1, 1, none⟩))) (Ex.cast (Ex.fieldAddr rfl Try.underlying32 rfl T.sz3 (by decide)) rfl) (by decide)) (fun _ _ => ?_)
  refine GL.stepG (tj := 25) rfl rfl (Ex.wp (v := (.int .i64 ((H : Int)))) (Ex.load rfl T.ag3 (i := 2) rfl rfl) (by decide)) (fun _ _ => ?_)
  refine GL.stepG (tj := 25) rfl rfl (Ex.wp (v := (.pointer (some ⟨bq2, 1, none⟩))) (Ex.cast (Ex.fieldAddr rfl Try.underlying32 rfl T.sz3 (by decide)) rfl) (by decide)) (fun _ _ => ?_)
  refine GL.stepG (tj := 25) rfl rfl (Ex.wp (v := (.int .i64 ((H : Int)))) (Ex.load rfl T.ag3 (i := 1) rfl rfl) (by decide)) (fun _ _ => ?_)
  refine GL.stepG (tj := 25) rfl rfl (Ex.wp (v := (.bool false)) (Ex.cast (Ex.neq rfl rfl) (congrArg Value.bool (decide_eq_false (by simp)))) (by decide)) (fun _ _ => ?_)
  refine GL.val (v := (.bool false)) (Ex.pickF rfl rfl) (by decide) ?_
  refine GL.val (v := (.bool false)) (Ex.move rfl) (by decide) ?_
  refine GL.stepG (tj := 32) rfl rfl (Ex.wp (v := (.agg #[(.int .i64 ((W : Int))), (.int .i64 ((H : Int))), (.slice (some ⟨b1, o1, none⟩) n1 cap1)])) (Ex.loadA rfl T.ag32 T.sz32 (i := 2) rfl (vs := [(.int .i64 ((W : Int))), (.int .i64 ((H : Int))), (.slice (some ⟨b1, o1, none⟩) n1 cap1)]) rfl rfl) (by decide)) (fun _ _ => ?_)
  refine GL.stepG (tj := 32) rfl rfl (Ex.wp (v := (.agg #[(.int .i64 ((W : Int))), (.int .i64 ((H : Int))), (.slice (some ⟨b2, o2, none⟩) n2 cap2)])) (Ex.loadA rfl T.ag32 T.sz32 (i := 1) rfl (vs := [(.int .i64 ((W : Int))), (.int .i64 ((H : Int))), (.slice (some ⟨b2, o2, none⟩) n2 cap2)]) rfl rfl) (by decide)) (fun _ _ => ?_)
  refine GL.stepG (tj := 32) rfl rfl (Stp.callR (σ := Unit) (p := fun rz => True) (v := fun rz => (.bool true)) (N := fun rz => []) (vs := [(.agg #[(.int .i64 ((W : Int))), (.int .i64 ((H : Int))), (.slice (some ⟨b1, o1, none⟩) n1 cap1)]), (.agg #[(.int .i64 ((W : Int))), (.int .i64 ((H : Int))), (.slice (some ⟨b2, o2, none⟩) n2 cap2)])]) rfl rfl T.own43 (by decide) (fun wc hw => (by have h := eq_p W H (some ⟨b1, o1, none⟩) n1 cap1 W H (some ⟨b2, o2, none⟩) n2 cap2 xs ys wc (h1.later hw.1) (h2.later hw.1); rw [show eqB W H xs W H ys = true from eqB_self rfl rfl hxy] at h; exact h))) (fun xq8 hq9 => ?_)
  refine GL.val (v := (.bool true)) (Ex.pickF rfl rfl) (by decide) ?_
  refine GL.nil ?_
  refine GE.thenN ?_
  refine GC.cond rfl (fun _ => ?_) (fun hq10 => by cases hq10)
  refine GC.seq ?_
  refine GC.region ?_
  refine GL.val (v := (.agg #[(.int .i64 0), (.int .i64 0), (.int .i64 0), (.int .i64 0)])) (Ex.build (vs := []) rfl (by first | rfl | kernel_rfl)) (by decide) ?_
  refine GL.step (Stp.storeL (i := 0) (L1 := [⟨bq3, [(.int .i64 0), (.int .i64 0), (.int .i64 0), (.int .i64 0)], 54, true⟩, ⟨bq2, [(.int .i64 ((W : Int))), (.int .i64 ((H : Int))), (.slice (some ⟨b2, o2, none⟩) n2 cap2)], 32, true⟩, ⟨bq1, [(.int .i64 ((W : Int))), (.int .i64 ((H : Int))), (.slice (some ⟨b1, o1, none⟩) n1 cap1)], 32, true⟩]) rfl rfl rfl T.sz54 rfl rfl rfl rfl) (fun _ _ => ?_)
  refine GL.val (v := (.bool false)) (Ex.assign rfl) (by decide) ?_
  refine GL.nil ?_
  refine GE.thenN ?_
  refine GC.ret ?_
  refine GE.thenR ?_
  refine GC.ret2 rfl (Rv.cellA rfl T.ag54 T.sz54 (L := _) (i := 0) rfl (vs := [(.int .i64 0), (.int .i64 0), (.int .i64 0), (.int .i64 0)]) rfl rfl) (Rv.tmp rfl) (fun wN HN => ?_)
  exact HN.ret () trivial rfl (List.nil_sublist _) rfl

set_option maxRecDepth 100000 in
set_option maxHeartbeats 1000000 in
theorem unlike_bad (W1 H1 : Int) (ad1 : Option Addr) (n1 cap1 : Nat) (W2 H2 : Int) (ad2 : Option Addr) (n2 cap2 : Nat) (w : World) (hc : chk W1 H1 n1 ≠ 0 ∨ chk W2 H2 n2 ≠ 0 ∨ W1 ≠ W2 ∨ H1 ≠ H2) :
    Calls Try.prog 41 #[(.agg #[(.int .i64 W1), (.int .i64 H1), (.slice ad1 n1 cap1)]), (.agg #[(.int .i64 W2), (.int .i64 H2), (.slice ad2 n2 cap2)])] w (Ret w (fun _ : Unit => True) (fun _ => .tuple #[.agg #[.int .i64 0, .int .i64 0, .int .i64 0, .int .i64 0], .bool false]) (fun _ => [])) := by
  refine enter (M := None) (L := []) (n := 89) (l := [(0, (.agg #[(.int .i64 W1), (.int .i64 H1), (.slice ad1 n1 cap1)])), (1, (.agg #[(.int .i64 W2), (.int .i64 H2), (.slice ad2 n2 cap2)]))]) Try.func41 rfl rfl (Args.cons rfl (Args.cons rfl (Args.nil _))) (Hp.start _ _) ?_
  refine GC.seq ?_
  refine GC.region ?_
  refine GL.step (Stp.box (cs := [(.int .i64 W1), (.int .i64 H1), (.slice ad1 n1 cap1)]) rfl rfl (by decide)) (fun bq1 _ => ?_)
  refine GL.step (Stp.box (cs := [(.int .i64 W2), (.int .i64 H2), (.slice ad2 n2 cap2)]) rfl rfl (by decide)) (fun bq2 _ => ?_)
  refine GL.step (Stp.alloc T.zr54 (by decide)) (fun bq3 _ => ?_)
  refine GL.val (v := (.bool false)) (Ex.assign rfl) (by decide) ?_
  refine GL.nil ?_
  refine GE.thenN ?_
  refine GC.seq ?_
  refine GC.seq ?_
  refine GC.region ?_
  refine GL.val (v := (.agg #[(.int .i64 W1), (.int .i64 H1), (.slice ad1 n1 cap1)])) (Ex.loadA rfl T.ag32 T.sz32 (i := 2) rfl (vs := [(.int .i64 W1), (.int .i64 H1), (.slice ad1 n1 cap1)]) rfl rfl) (by decide) ?_
  refine GL.step (Stp.callR (σ := Unit) (p := fun rz => True) (v := fun rz => (.int .i64 (chk W1 H1 n1))) (N := fun rz => []) (vs := [(.agg #[(.int .i64 W1), (.int .i64 H1), (.slice ad1 n1 cap1)])]) rfl rfl T.own36 (by decide) (fun wc hw => check W1 H1 ad1 n1 cap1 wc)) (fun xq4 hq5 => ?_)
  by_cases hq6 : (chk W1 H1 n1) ≠ 0
  · refine GL.val (v := (.bool true)) (Ex.cast (Ex.neq rfl rfl) (congrArg Value.bool (decide_eq_true hq6))) (by decide) ?_
    refine GL.val (v := (.bool true)) (Ex.move rfl) (by decide) ?_
    refine GL.skipG (tj := 13) rfl rfl rfl (by decide) ?_
    refine GL.skipG (tj := 13) rfl rfl rfl (by decide) ?_
    refine GL.skipG (tj := 13) rfl rfl rfl (by decide) ?_
    refine GL.val (v := (.bool true)) (Ex.pickT rfl rfl) (by decide) ?_
    refine GL.val (v := (.bool true)) (Ex.move rfl) (by decide) ?_
    refine GL.skipG (tj := 18) rfl rfl rfl (by decide) ?_
    refine GL.skipG (tj := 18) rfl rfl rfl (by decide) ?_
    refine GL.skipG (tj := 18) rfl rfl rfl (by decide) ?_
    refine GL.skipG (tj := 18) rfl rfl rfl (by decide) ?_
    refine GL.skipG (tj := 18) rfl rfl rfl (by decide) ?_
    refine GL.val (v := (.bool true)) (Ex.pickT rfl rfl) (by decide) ?_
    refine GL.val (v := (.bool true)) (Ex.move rfl) (by decide) ?_
    refine GL.skipG (tj := 25) rfl rfl rfl (by decide) ?_
    refine GL.skipG (tj := 25) rfl rfl rfl (by decide) ?_
    refine GL.skipG (tj := 25) rfl rfl rfl (by decide) ?_
    refine GL.skipG (tj := 25) rfl rfl rfl (by decide) ?_
    refine GL.skipG (tj := 25) rfl rfl rfl (by decide) ?_
    refine GL.val (v := (.bool true)) (Ex.pickT rfl rfl) (by decide) ?_
    refine GL.val (v := (.bool true)) (Ex.move rfl) (by decide) ?_
    refine GL.skipG (tj := 32) rfl rfl rfl (by decide) ?_
    refine GL.skipG (tj := 32) rfl rfl rfl (by decide) ?_
    refine GL.skipG (tj := 32) rfl rfl rfl (by decide) ?_
    refine GL.val (v := (.bool true)) (Ex.pickT rfl rfl) (by decide) ?_
    refine GL.nil ?_
    refine GE.thenN ?_
    refine GC.cond rfl (fun _ => ?_) (fun hq7 => by cases hq7)
    refine GC.seq ?_
    refine GC.region ?_
    refine GL.val (v := (.agg #[(.int .i64 0), (.int .i64 0), (.int .i64 0), (.int .i64 0)])) (Ex.build (vs := []) rfl (by first | rfl | kernel_rfl)) (by decide) ?_
    refine GL.step (Stp.storeL (i := 0) (L1 := [⟨bq3, [(.int .i64 0), (.int .i64 0), (.int .i64 0), (.int .i64 0)], 54, true⟩, ⟨bq2, [(.int .i64 W2), (.int .i64 H2), (.slice ad2 n2 cap2)], 32, true⟩, ⟨bq1, [(.int .i64 W1), (.int .i64 H1), (.slice ad1 n1 cap1)], 32, true⟩]) rfl rfl rfl T.sz54 rfl rfl rfl rfl) (fun _ _ => ?_)
    refine GL.val (v := (.bool false)) (Ex.assign rfl) (by decide) ?_
    refine GL.nil ?_
    refine GE.thenN ?_
    refine GC.ret ?_
    refine GE.thenR ?_
    refine GC.ret2 rfl (Rv.cellA rfl T.ag54 T.sz54 (L := _) (i := 0) rfl (vs := [(.int .i64 0), (.int .i64 0), (.int .i64 0), (.int .i64 0)]) rfl rfl) (Rv.tmp rfl) (fun wN HN => ?_)
    exact HN.ret () trivial rfl (List.nil_sublist _) rfl
  · refine GL.val (v := (.bool false)) (Ex.cast (Ex.neq rfl rfl) (congrArg Value.bool (decide_eq_false hq6))) (by decide) ?_
    refine GL.val (v := (.bool false)) (Ex.move rfl) (by decide) ?_
    refine GL.stepG (tj := 13) rfl rfl (Ex.wp (v := (.agg #[(.int .i64 W2), (.int .i64 H2), (.slice ad2 n2 cap2)])) (Ex.loadA rfl T.ag32 T.sz32 (i := 1) rfl (vs := [(.int .i64 W2), (.int .i64 H2), (.slice ad2 n2 cap2)]) rfl rfl) (by decide)) (fun _ _ => ?_)
    refine GL.stepG (tj := 13) rfl rfl (Stp.callR (σ := Unit) (p := fun rz => True) (v := fun rz => (.int .i64 (chk W2 H2 n2))) (N := fun rz => []) (vs := [(.agg #[(.int .i64 W2), (.int .i64 H2), (.slice ad2 n2 cap2)])]) rfl rfl T.own36 (by decide) (fun wc hw => check W2 H2 ad2 n2 cap2 wc)) (fun xq8 hq9 => ?_)
    by_cases hq10 : (chk W2 H2 n2) ≠ 0
    · refine GL.stepG (tj := 13) rfl rfl (Ex.wp (v := (.bool true)) (Ex.cast (Ex.neq rfl rfl) (congrArg Value.bool (decide_eq_true hq10))) (by decide)) (fun _ _ => ?_)
      refine GL.val (v := (.bool true)) (Ex.pickF rfl rfl) (by decide) ?_
      refine GL.val (v := (.bool true)) (Ex.move rfl) (by decide) ?_
      refine GL.skipG (tj := 18) rfl rfl rfl (by decide) ?_
      refine GL.skipG (tj := 18) rfl rfl rfl (by decide) ?_
      refine GL.skipG (tj := 18) rfl rfl rfl (by decide) ?_
      refine GL.skipG (tj := 18) rfl rfl rfl (by decide) ?_
      refine GL.skipG (tj := 18) rfl rfl rfl (by decide) ?_
      refine GL.val (v := (.bool true)) (Ex.pickT rfl rfl) (by decide) ?_
      refine GL.val (v := (.bool true)) (Ex.move rfl) (by decide) ?_
      refine GL.skipG (tj := 25) rfl rfl rfl (by decide) ?_
      refine GL.skipG (tj := 25) rfl rfl rfl (by decide) ?_
      refine GL.skipG (tj := 25) rfl rfl rfl (by decide) ?_
      refine GL.skipG (tj := 25) rfl rfl rfl (by decide) ?_
      refine GL.skipG (tj := 25) rfl rfl rfl (by decide) ?_
      refine GL.val (v := (.bool true)) (Ex.pickT rfl rfl) (by decide) ?_
      refine GL.val (v := (.bool true)) (Ex.move rfl) (by decide) ?_
      refine GL.skipG (tj := 32) rfl rfl rfl (by decide) ?_
      refine GL.skipG (tj := 32) rfl rfl rfl (by decide) ?_
      refine GL.skipG (tj := 32) rfl rfl rfl (by decide) ?_
      refine GL.val (v := (.bool true)) (Ex.pickT rfl rfl) (by decide) ?_
      refine GL.nil ?_
      refine GE.thenN ?_
      refine GC.cond rfl (fun _ => ?_) (fun hq11 => by cases hq11)
      refine GC.seq ?_
      refine GC.region ?_
      refine GL.val (v := (.agg #[(.int .i64 0), (.int .i64 0), (.int .i64 0), (.int .i64 0)])) (Ex.build (vs := []) rfl (by first | rfl | kernel_rfl)) (by decide) ?_
      refine GL.step (Stp.storeL (i := 0) (L1 := [⟨bq3, [(.int .i64 0), (.int .i64 0), (.int .i64 0), (.int .i64 0)], 54, true⟩, ⟨bq2, [(.int .i64 W2), (.int .i64 H2), (.slice ad2 n2 cap2)], 32, true⟩, ⟨bq1, [(.int .i64 W1), (.int .i64 H1), (.slice ad1 n1 cap1)], 32, true⟩]) rfl rfl rfl T.sz54 rfl rfl rfl rfl) (fun _ _ => ?_)
      refine GL.val (v := (.bool false)) (Ex.assign rfl) (by decide) ?_
      refine GL.nil ?_
      refine GE.thenN ?_
      refine GC.ret ?_
      refine GE.thenR ?_
      refine GC.ret2 rfl (Rv.cellA rfl T.ag54 T.sz54 (L := _) (i := 0) rfl (vs := [(.int .i64 0), (.int .i64 0), (.int .i64 0), (.int .i64 0)]) rfl rfl) (Rv.tmp rfl) (fun wN HN => ?_)
      exact HN.ret () trivial rfl (List.nil_sublist _) rfl
    · refine GL.stepG (tj := 13) rfl rfl (Ex.wp (v := (.bool false)) (Ex.cast (Ex.neq rfl rfl) (congrArg Value.bool (decide_eq_false hq10))) (by decide)) (fun _ _ => ?_)
      refine GL.val (v := (.bool false)) (Ex.pickF rfl rfl) (by decide) ?_
      refine GL.val (v := (.bool false)) (Ex.move rfl) (by decide) ?_
      refine GL.stepG (tj := 18) rfl rfl (Ex.wp (v := (.pointer (some ⟨bq1, 0, none⟩))) (Ex.cast (Ex.fieldAddr rfl Try.underlying32 rfl T.sz3 (by decide)) rfl) (by decide)) (fun _ _ => ?_)
      refine GL.stepG (tj := 18) rfl rfl (Ex.wp (v := (.int .i64 W1)) (Ex.load rfl T.ag3 (i := 2) rfl rfl) (by decide)) (fun _ _ => ?_)
      refine GL.stepG (tj := 18) rfl rfl (Ex.wp (v := (.pointer (some ⟨bq2, 0, none⟩))) (Ex.cast (Ex.fieldAddr rfl Try.underlying32 rfl T.sz3 (by decide)) rfl) (by decide)) (fun _ _ => ?_)
      refine GL.stepG (tj := 18) rfl rfl (Ex.wp (v := (.int .i64 W2)) (Ex.load rfl T.ag3 (i := 1) rfl rfl) (by decide)) (fun _ _ => ?_)
      by_cases hq12 : W1 ≠ W2
      · refine GL.stepG (tj := 18) rfl rfl (Ex.wp (v := (.bool true)) (Ex.cast (Ex.neq rfl rfl) (congrArg Value.bool (decide_eq_true hq12))) (by decide)) (fun _ _ => ?_)
        refine GL.val (v := (.bool true)) (Ex.pickF rfl rfl) (by decide) ?_
        refine GL.val (v := (.bool true)) (Ex.move rfl) (by decide) ?_
        refine GL.skipG (tj := 25) rfl rfl rfl (by decide) ?_
        refine GL.skipG (tj := 25) rfl rfl rfl (by decide) ?_
        refine GL.skipG (tj := 25) rfl rfl rfl (by decide) ?_
        refine GL.skipG (tj := 25) rfl rfl rfl (by decide) ?_
        refine GL.skipG (tj := 25) rfl rfl rfl (by decide) ?_
        refine GL.val (v := (.bool true)) (Ex.pickT rfl rfl) (by decide) ?_
        refine GL.val (v := (.bool true)) (Ex.move rfl) (by decide) ?_
        refine GL.skipG (tj := 32) rfl rfl rfl (by decide) ?_
        refine GL.skipG (tj := 32) rfl rfl rfl (by decide) ?_
        refine GL.skipG (tj := 32) rfl rfl rfl (by decide) ?_
        refine GL.val (v := (.bool true)) (Ex.pickT rfl rfl) (by decide) ?_
        refine GL.nil ?_
        refine GE.thenN ?_
        refine GC.cond rfl (fun _ => ?_) (fun hq13 => by cases hq13)
        refine GC.seq ?_
        refine GC.region ?_
        refine GL.val (v := (.agg #[(.int .i64 0), (.int .i64 0), (.int .i64 0), (.int .i64 0)])) (Ex.build (vs := []) rfl (by first | rfl | kernel_rfl)) (by decide) ?_
        refine GL.step (Stp.storeL (i := 0) (L1 := [⟨bq3, [(.int .i64 0), (.int .i64 0), (.int .i64 0), (.int .i64 0)], 54, true⟩, ⟨bq2, [(.int .i64 W2), (.int .i64 H2), (.slice ad2 n2 cap2)], 32, true⟩, ⟨bq1, [(.int .i64 W1), (.int .i64 H1), (.slice ad1 n1 cap1)], 32, true⟩]) rfl rfl rfl T.sz54 rfl rfl rfl rfl) (fun _ _ => ?_)
        refine GL.val (v := (.bool false)) (Ex.assign rfl) (by decide) ?_
        refine GL.nil ?_
        refine GE.thenN ?_
        refine GC.ret ?_
        refine GE.thenR ?_
        refine GC.ret2 rfl (Rv.cellA rfl T.ag54 T.sz54 (L := _) (i := 0) rfl (vs := [(.int .i64 0), (.int .i64 0), (.int .i64 0), (.int .i64 0)]) rfl rfl) (Rv.tmp rfl) (fun wN HN => ?_)
        exact HN.ret () trivial rfl (List.nil_sublist _) rfl
      · refine GL.stepG (tj := 18) rfl rfl (Ex.wp (v := (.bool false)) (Ex.cast (Ex.neq rfl rfl) (congrArg Value.bool (decide_eq_false hq12))) (by decide)) (fun _ _ => ?_)
        refine GL.val (v := (.bool false)) (Ex.pickF rfl rfl) (by decide) ?_
        refine GL.val (v := (.bool false)) (Ex.move rfl) (by decide) ?_
        refine GL.stepG (tj := 25) rfl rfl (Ex.wp (v := (.pointer (some ⟨bq1, 1, none⟩))) (Ex.cast (Ex.fieldAddr rfl Try.underlying32 rfl T.sz3 (by decide)) rfl) (by decide)) (fun _ _ => ?_)
        refine GL.stepG (tj := 25) rfl rfl (Ex.wp (v := (.int .i64 H1)) (Ex.load rfl T.ag3 (i := 2) rfl rfl) (by decide)) (fun _ _ => ?_)
        refine GL.stepG (tj := 25) rfl rfl (Ex.wp (v := (.pointer (some ⟨bq2, 1, none⟩))) (Ex.cast (Ex.fieldAddr rfl Try.underlying32 rfl T.sz3 (by decide)) rfl) (by decide)) (fun _ _ => ?_)
        refine GL.stepG (tj := 25) rfl rfl (Ex.wp (v := (.int .i64 H2)) (Ex.load rfl T.ag3 (i := 1) rfl rfl) (by decide)) (fun _ _ => ?_)
        by_cases hq14 : H1 ≠ H2
        · refine GL.stepG (tj := 25) rfl rfl (Ex.wp (v := (.bool true)) (Ex.cast (Ex.neq rfl rfl) (congrArg Value.bool (decide_eq_true hq14))) (by decide)) (fun _ _ => ?_)
          refine GL.val (v := (.bool true)) (Ex.pickF rfl rfl) (by decide) ?_
          refine GL.val (v := (.bool true)) (Ex.move rfl) (by decide) ?_
          refine GL.skipG (tj := 32) rfl rfl rfl (by decide) ?_
          refine GL.skipG (tj := 32) rfl rfl rfl (by decide) ?_
          refine GL.skipG (tj := 32) rfl rfl rfl (by decide) ?_
          refine GL.val (v := (.bool true)) (Ex.pickT rfl rfl) (by decide) ?_
          refine GL.nil ?_
          refine GE.thenN ?_
          refine GC.cond rfl (fun _ => ?_) (fun hq15 => by cases hq15)
          refine GC.seq ?_
          refine GC.region ?_
          refine GL.val (v := (.agg #[(.int .i64 0), (.int .i64 0), (.int .i64 0), (.int .i64 0)])) (Ex.build (vs := []) rfl (by first | rfl | kernel_rfl)) (by decide) ?_
          refine GL.step (Stp.storeL (i := 0) (L1 := [⟨bq3, [(.int .i64 0), (.int .i64 0), (.int .i64 0), (.int .i64 0)], 54, true⟩, ⟨bq2, [(.int .i64 W2), (.int .i64 H2), (.slice ad2 n2 cap2)], 32, true⟩, ⟨bq1, [(.int .i64 W1), (.int .i64 H1), (.slice ad1 n1 cap1)], 32, true⟩]) rfl rfl rfl T.sz54 rfl rfl rfl rfl) (fun _ _ => ?_)
          refine GL.val (v := (.bool false)) (Ex.assign rfl) (by decide) ?_
          refine GL.nil ?_
          refine GE.thenN ?_
          refine GC.ret ?_
          refine GE.thenR ?_
          refine GC.ret2 rfl (Rv.cellA rfl T.ag54 T.sz54 (L := _) (i := 0) rfl (vs := [(.int .i64 0), (.int .i64 0), (.int .i64 0), (.int .i64 0)]) rfl rfl) (Rv.tmp rfl) (fun wN HN => ?_)
          exact HN.ret () trivial rfl (List.nil_sublist _) rfl
        · exfalso; omega

set_option maxRecDepth 100000 in
set_option maxHeartbeats 1000000 in
theorem where_ne (W H b1 o1 n1 cap1 b2 o2 n2 cap2 : Nat) (xs ys : List Int) (w : World) (hok : okP W H) (hn : n1 = W * H) (hn2 : n2 = W * H) (h1 : Lst w (some ⟨b1, o1, none⟩) n1 xs) (h2 : Lst w (some ⟨b2, o2, none⟩) n2 ys) (hr1 : Rd w b1 o1 (xs.map u32)) (hr2 : Rd w b2 o2 (ys.map u32)) (hxy : xs ≠ ys) :
    Calls Try.prog 12 #[(.agg #[(.int .i64 ((W : Int))), (.int .i64 ((H : Int))), (.slice (some ⟨b1, o1, none⟩) n1 cap1)]), (.agg #[(.int .i64 ((W : Int))), (.int .i64 ((H : Int))), (.slice (some ⟨b2, o2, none⟩) n2 cap2)])] w (Ret w (fun _ : Unit => True) (fun _ => .bool true) (fun _ => [])) := by
  refine enter (M := None) (L := []) (n := 156) (l := [(0, (.agg #[(.int .i64 ((W : Int))), (.int .i64 ((H : Int))), (.slice (some ⟨b1, o1, none⟩) n1 cap1)])), (1, (.agg #[(.int .i64 ((W : Int))), (.int .i64 ((H : Int))), (.slice (some ⟨b2, o2, none⟩) n2 cap2)]))]) Try.func12 rfl rfl (Args.cons rfl (Args.cons rfl (Args.nil _))) (Hp.start _ _) ?_
  refine GC.seq ?_
  have hW := hok.1
  have hH := hok.2.1
  have hW2 := hok.2.2.1
  have hH2 := hok.2.2.2.1
  have hA := hok.2.2.2.2
  have hub := unl_bd (W := W) (H := H) (xs := xs) (ys := ys) n1 (by omega) hok.1
  have hne0 := ne_at h1.1 (by have a := h2.1; omega) hxy
  have hmt := unl_met (W := W) (H := H) hok.1 (show n1 ≤ W * H by omega) hne0
  refine GC.region ?_
  refine GL.step (Stp.box (cs := [(.int .i64 ((W : Int))), (.int .i64 ((H : Int))), (.slice (some ⟨b1, o1, none⟩) n1 cap1)]) rfl rfl (by decide)) (fun bq1 _ => ?_)
  refine GL.step (Stp.box (cs := [(.int .i64 ((W : Int))), (.int .i64 ((H : Int))), (.slice (some ⟨b2, o2, none⟩) n2 cap2)]) rfl rfl (by decide)) (fun bq2 _ => ?_)
  refine GL.val (v := (.bool false)) (Ex.assign rfl) (by decide) ?_
  refine GL.nil ?_
  refine GE.thenN ?_
  refine GC.seq ?_
  refine GC.seq ?_
  refine GC.region ?_
  refine GL.step (Stp.callR (σ := Unit) (p := fun rz => True) (v := fun rz => (.bool true)) (N := fun rz => []) (vs := []) rfl rfl T.own13 (by decide) (fun wc hw => known wc)) (fun xq3 hq4 => ?_)
  refine GL.val (v := (.bool false)) (Ex.cast (Ex.not rfl) rfl) (by decide) ?_
  refine GL.nil ?_
  refine GE.thenN ?_
  refine GC.cond rfl (fun hq5 => by cases hq5) (fun _ => ?_)
  refine GC.skip ?_
  refine GE.thenN ?_
  refine GC.seq ?_
  refine GC.region ?_
  refine GL.val (v := (.agg #[(.int .i64 ((W : Int))), (.int .i64 ((H : Int))), (.slice (some ⟨b1, o1, none⟩) n1 cap1)])) (Ex.loadA rfl T.ag32 T.sz32 (i := 1) rfl (vs := [(.int .i64 ((W : Int))), (.int .i64 ((H : Int))), (.slice (some ⟨b1, o1, none⟩) n1 cap1)]) rfl rfl) (by decide) ?_
  refine GL.val (v := (.agg #[(.int .i64 ((W : Int))), (.int .i64 ((H : Int))), (.slice (some ⟨b2, o2, none⟩) n2 cap2)])) (Ex.loadA rfl T.ag32 T.sz32 (i := 0) rfl (vs := [(.int .i64 ((W : Int))), (.int .i64 ((H : Int))), (.slice (some ⟨b2, o2, none⟩) n2 cap2)]) rfl rfl) (by decide) ?_
  refine GL.step (Stp.callR (σ := Unit) (p := fun rz => True) (v := fun rz => (.tuple #[(.agg #[(.int .i64 ((unl W H xs ys n1).1)), (.int .i64 ((unl W H xs ys n1).2.1)), (.int .i64 ((unl W H xs ys n1).2.2.1)), (.int .i64 ((unl W H xs ys n1).2.2.2))]), (.bool true)])) (N := fun rz => []) (vs := [(.agg #[(.int .i64 ((W : Int))), (.int .i64 ((H : Int))), (.slice (some ⟨b1, o1, none⟩) n1 cap1)]), (.agg #[(.int .i64 ((W : Int))), (.int .i64 ((H : Int))), (.slice (some ⟨b2, o2, none⟩) n2 cap2)])]) rfl rfl T.own41 (by decide) (fun wc hw => unlike_ne W H b1 o1 n1 cap1 b2 o2 n2 cap2 xs ys wc hok hn hn2 (h1.later hw.1) (h2.later hw.1) (hw.rd hr1 (fun x => x)) (hw.rd hr2 (fun x => x)) hxy)) (fun xq6 hq7 => ?_)
  refine GL.val (v := (.tuple #[(.agg #[(.int .i64 ((unl W H xs ys n1).1)), (.int .i64 ((unl W H xs ys n1).2.1)), (.int .i64 ((unl W H xs ys n1).2.2.1)), (.int .i64 ((unl W H xs ys n1).2.2.2))]), (.bool true)])) (Ex.move rfl) (by decide) ?_
  refine GL.val (v := (.agg #[(.int .i64 ((unl W H xs ys n1).1)), (.int .i64 ((unl W H xs ys n1).2.1)), (.int .i64 ((unl W H xs ys n1).2.2.1)), (.int .i64 ((unl W H xs ys n1).2.2.2))])) (Ex.extract rfl rfl) (by decide) ?_
  refine GL.val (v := (.bool true)) (Ex.extract rfl rfl) (by decide) ?_
  refine GL.step (Stp.alloc T.zr54 (by decide)) (fun bq8 _ => ?_)
  refine GL.step (Stp.storeL (i := 0) (L1 := [⟨bq8, [(.int .i64 ((unl W H xs ys n1).1)), (.int .i64 ((unl W H xs ys n1).2.1)), (.int .i64 ((unl W H xs ys n1).2.2.1)), (.int .i64 ((unl W H xs ys n1).2.2.2))], 54, true⟩, ⟨bq2, [(.int .i64 ((W : Int))), (.int .i64 ((H : Int))), (.slice (some ⟨b2, o2, none⟩) n2 cap2)], 32, true⟩, ⟨bq1, [(.int .i64 ((W : Int))), (.int .i64 ((H : Int))), (.slice (some ⟨b1, o1, none⟩) n1 cap1)], 32, true⟩]) rfl rfl rfl T.sz54 rfl rfl rfl rfl) (fun _ _ => ?_)
  refine GL.val (v := (.bool true)) (Ex.assign rfl) (by decide) ?_
  refine GL.nil ?_
  refine GE.thenN ?_
  refine GC.seq ?_
  refine GC.seq ?_
  refine GC.region ?_
  refine GL.val (v := (.bool true)) (Ex.move rfl) (by decide) ?_
  refine GL.val (v := (.bool false)) (Ex.cast (Ex.not rfl) rfl) (by decide) ?_
  refine GL.nil ?_
  refine GE.thenN ?_
  refine GC.cond rfl (fun hq9 => by cases hq9) (fun _ => ?_)
  refine GC.skip ?_
  refine GE.thenN ?_
  refine GC.seq ?_
  refine GC.seq ?_
  refine GC.region ?_
  refine GL.val (v := (.agg #[(.int .i64 ((W : Int))), (.int .i64 ((H : Int))), (.slice (some ⟨b1, o1, none⟩) n1 cap1)])) (Ex.loadA rfl T.ag32 T.sz32 (i := 2) rfl (vs := [(.int .i64 ((W : Int))), (.int .i64 ((H : Int))), (.slice (some ⟨b1, o1, none⟩) n1 cap1)]) rfl rfl) (by decide) ?_
  refine GL.val (v := (.agg #[(.int .i64 ((W : Int))), (.int .i64 ((H : Int))), (.slice (some ⟨b2, o2, none⟩) n2 cap2)])) (Ex.loadA rfl T.ag32 T.sz32 (i := 1) rfl (vs := [(.int .i64 ((W : Int))), (.int .i64 ((H : Int))), (.slice (some ⟨b2, o2, none⟩) n2 cap2)]) rfl rfl) (by decide) ?_
  refine GL.step (Stp.callR (σ := Unit) (p := fun rz => True) (v := fun rz => (.bool false)) (N := fun rz => []) (vs := [(.agg #[(.int .i64 ((W : Int))), (.int .i64 ((H : Int))), (.slice (some ⟨b1, o1, none⟩) n1 cap1)]), (.agg #[(.int .i64 ((W : Int))), (.int .i64 ((H : Int))), (.slice (some ⟨b2, o2, none⟩) n2 cap2)])]) rfl rfl T.own43 (by decide) (fun wc hw => (by have h := eq_p W H (some ⟨b1, o1, none⟩) n1 cap1 W H (some ⟨b2, o2, none⟩) n2 cap2 xs ys wc (h1.later hw.1) (h2.later hw.1); rw [show eqB W H xs W H ys = false from decide_eq_false (fun h => hxy h.2.2)] at h; exact h))) (fun xq10 hq11 => ?_)
  refine GL.val (v := (.bool false)) (Ex.move rfl) (by decide) ?_
  refine GL.stepG (tj := 56) rfl rfl (Ex.wp (v := (.agg #[(.int .i64 ((W : Int))), (.int .i64 ((H : Int))), (.slice (some ⟨b1, o1, none⟩) n1 cap1)])) (Ex.loadA rfl T.ag32 T.sz32 (i := 2) rfl (vs := [(.int .i64 ((W : Int))), (.int .i64 ((H : Int))), (.slice (some ⟨b1, o1, none⟩) n1 cap1)]) rfl rfl) (by decide)) (fun _ _ => ?_)
  refine GL.stepG (tj := 56) rfl rfl (Stp.callR (σ := Unit) (p := fun rz => True) (v := fun rz => (.int .i64 0)) (N := fun rz => []) (vs := [(.agg #[(.int .i64 ((W : Int))), (.int .i64 ((H : Int))), (.slice (some ⟨b1, o1, none⟩) n1 cap1)])]) rfl rfl T.own35 (by decide) (fun wc hw => (by have h := ref_check W H (some ⟨b1, o1, none⟩) n1 cap1 wc; rw [show chk W H n1 = 0 from by rw [hn]; exact chk_ok hok] at h; exact h))) (fun xq12 hq13 => ?_)
  refine GL.stepG (tj := 56) rfl rfl (Ex.wp (v := (.bool false)) (Ex.cast (Ex.neq rfl rfl) rfl) (by decide)) (fun _ _ => ?_)
  refine GL.val (v := (.bool false)) (Ex.pickF rfl rfl) (by decide) ?_
  refine GL.val (v := (.bool false)) (Ex.move rfl) (by decide) ?_
  refine GL.stepG (tj := 61) rfl rfl (Ex.wp (v := (.agg #[(.int .i64 ((W : Int))), (.int .i64 ((H : Int))), (.slice (some ⟨b2, o2, none⟩) n2 cap2)])) (Ex.loadA rfl T.ag32 T.sz32 (i := 1) rfl (vs := [(.int .i64 ((W : Int))), (.int .i64 ((H : Int))), (.slice (some ⟨b2, o2, none⟩) n2 cap2)]) rfl rfl) (by decide)) (fun _ _ => ?_)
  refine GL.stepG (tj := 61) rfl rfl (Stp.callR (σ := Unit) (p := fun rz => True) (v := fun rz => (.int .i64 0)) (N := fun rz => []) (vs := [(.agg #[(.int .i64 ((W : Int))), (.int .i64 ((H : Int))), (.slice (some ⟨b2, o2, none⟩) n2 cap2)])]) rfl rfl T.own35 (by decide) (fun wc hw => (by have h := ref_check W H (some ⟨b2, o2, none⟩) n2 cap2 wc; rw [show chk W H n2 = 0 from by rw [hn2]; exact chk_ok hok] at h; exact h))) (fun xq14 hq15 => ?_)
  refine GL.stepG (tj := 61) rfl rfl (Ex.wp (v := (.bool false)) (Ex.cast (Ex.neq rfl rfl) rfl) (by decide)) (fun _ _ => ?_)
  refine GL.val (v := (.bool false)) (Ex.pickF rfl rfl) (by decide) ?_
  refine GL.val (v := (.bool false)) (Ex.move rfl) (by decide) ?_
  refine GL.stepG (tj := 66) rfl rfl (Ex.wp (v := (.pointer (some ⟨bq1, 0, none⟩))) (Ex.cast (Ex.fieldAddr rfl Try.underlying32 rfl T.sz3 (by decide)) rfl) (by decide)) (fun _ _ => ?_)
  refine GL.stepG (tj := 66) rfl rfl (Ex.wp (v := (.int .i64 ((W : Int)))) (Ex.load rfl T.ag3 (i := 2) rfl rfl) (by decide)) (fun _ _ => ?_)
  refine GL.stepG (tj := 66) rfl rfl (Ex.wp (v := (.pointer (some ⟨bq2, 0, none⟩))) (Ex.cast (Ex.fieldAddr rfl Try.underlying32 rfl T.sz3 (by decide)) rfl) (by decide)) (fun _ _ => ?_)
  refine GL.stepG (tj := 66) rfl rfl (Ex.wp (v := (.int .i64 ((W : Int)))) (Ex.load rfl T.ag3 (i := 1) rfl rfl) (by decide)) (fun _ _ => ?_)
  refine GL.stepG (tj := 66) rfl rfl (Ex.wp (v := (.bool false)) (Ex.cast (Ex.neq rfl rfl) (congrArg Value.bool (decide_eq_false (by simp)))) (by decide)) (fun _ _ => ?_)
  refine GL.val (v := (.bool false)) (Ex.pickF rfl rfl) (by decide) ?_
  refine GL.val (v := (.bool false)) (Ex.move rfl) (by decide) ?_
  refine GL.stepG (tj := 73) rfl rfl (Ex.wp (v := (.pointer (some ⟨bq1, 1, none⟩))) (Ex.cast (Ex.fieldAddr rfl Try.underlying32 rfl T.sz3 (by decide)) rfl) (by decide)) (fun _ _ => ?_)
  refine GL.stepG (tj := 73) rfl rfl (Ex.wp (v := (.int .i64 ((H : Int)))) (Ex.load rfl T.ag3 (i := 2) rfl rfl) (by decide)) (fun _ _ => ?_)
  refine GL.stepG (tj := 73) rfl rfl (Ex.wp (v := (.pointer (some ⟨bq2, 1, none⟩))) (Ex.cast (Ex.fieldAddr rfl Try.underlying32 rfl T.sz3 (by decide)) rfl) (by decide)) (fun _ _ => ?_)
  refine GL.stepG (tj := 73) rfl rfl (Ex.wp (v := (.int .i64 ((H : Int)))) (Ex.load rfl T.ag3 (i := 1) rfl rfl) (by decide)) (fun _ _ => ?_)
  refine GL.stepG (tj := 73) rfl rfl (Ex.wp (v := (.bool false)) (Ex.cast (Ex.neq rfl rfl) (congrArg Value.bool (decide_eq_false (by simp)))) (by decide)) (fun _ _ => ?_)
  refine GL.val (v := (.bool false)) (Ex.pickF rfl rfl) (by decide) ?_
  refine GL.nil ?_
  refine GE.thenN ?_
  refine GC.cond rfl (fun hq16 => by cases hq16) (fun _ => ?_)
  refine GC.skip ?_
  refine GE.thenN ?_
  refine GC.seq ?_
  refine GC.region ?_
  refine GL.val (v := (.int .i64 0)) (Ex.assign rfl) (by decide) ?_
  refine GL.nil ?_
  refine GE.thenN ?_
  refine GC.seq ?_
  refine GC.seq ?_
  refine GC.region ?_
  refine GL.val (v := (.int .i64 0)) (Ex.assign rfl) (by decide) ?_
  refine GL.nil ?_
  refine GE.thenN ?_
  refine GC.block ?_
  refine GC.loop (σ := Nat) (fun k => k ≤ n1) (fun k => [(2, (.pointer (some ⟨bq1, 0, none⟩))), (3, (.pointer (some ⟨bq2, 0, none⟩))), (4, (.bool false)), (5, (.pointer (some ⟨bq8, 0, none⟩))), (7, (.int .i64 (sd (hit xs ys (fun j => decide (((j % W : Nat) : Int) = (unl W H xs ys n1).1)) k) (hit xs ys (fun j => decide (((j % W : Nat) : Int) = (unl W H xs ys n1).2.2.1 - 1)) k) (hit xs ys (fun j => decide (((j / W : Nat) : Int) = (unl W H xs ys n1).2.1)) k) (hit xs ys (fun j => decide (((j / W : Nat) : Int) = (unl W H xs ys n1).2.2.2 - 1)) k)))), (8, (.int .i64 (((k : Nat) : Int))))]) (fun k => [⟨bq8, [(.int .i64 ((unl W H xs ys n1).1)), (.int .i64 ((unl W H xs ys n1).2.1)), (.int .i64 ((unl W H xs ys n1).2.2.1)), (.int .i64 ((unl W H xs ys n1).2.2.2))], 54, true⟩, ⟨bq2, [(.int .i64 ((W : Int))), (.int .i64 ((H : Int))), (.slice (some ⟨b2, o2, none⟩) n2 cap2)], 32, true⟩, ⟨bq1, [(.int .i64 ((W : Int))), (.int .i64 ((H : Int))), (.slice (some ⟨b1, o1, none⟩) n1 cap1)], 32, true⟩]) (fun k => n1 - k) (0) (Nat.zero_le _) ((sub_cons rfl ((sub_cons rfl ((sub_cons rfl ((sub_cons rfl ((sub_cons rfl ((sub_cons rfl ((sub_nil _)))))))))))))) (List.Sublist.cons_cons _ (List.Sublist.cons_cons _ (List.Sublist.cons_cons _ (List.nil_sublist _)))) (fun k hp => ?_)
  refine GC.seq ?_
  refine GC.seq ?_
  refine GC.region ?_
  refine GL.val (v := (.int .i64 (((k : Nat) : Int)))) (Ex.move rfl) (by decide) ?_
  refine GL.val (v := (.pointer (some ⟨bq1, 2, none⟩))) (Ex.cast (Ex.fieldAddr rfl Try.underlying32 rfl T.sz30 (by decide)) rfl) (by decide) ?_
  refine GL.val (v := (.slice (some ⟨b1, o1, none⟩) n1 cap1)) (Ex.load rfl T.ag30 (i := 2) rfl rfl) (by decide) ?_
  refine GL.val (v := (.int .i64 ((n1 : Int)))) (Ex.len rfl Try.underlying30) (by decide) ?_
  refine GL.val (v := (.bool (decide ((((k : Nat) : Int)) < ((n1 : Int)))))) (Ex.lss rfl rfl) (by decide) ?_
  refine GL.nil ?_
  refine GE.thenN ?_
  refine GC.cond rfl (fun hq17 => ?_) (fun hq17 => ?_)
  · replace hq17 := of_decide_eq_true hq17
    refine GC.skip ?_
    refine GE.thenN ?_
    refine GC.seq ?_
    refine GC.block ?_
    refine GC.seq ?_
    refine GC.seq ?_
    refine GC.draw [⟨bq8, [(.int .i64 ((unl W H xs ys n1).1)), (.int .i64 ((unl W H xs ys n1).2.1)), (.int .i64 ((unl W H xs ys n1).2.2.1)), (.int .i64 ((unl W H xs ys n1).2.2.2))], 54, true⟩, ⟨bq2, [(.int .i64 ((W : Int))), (.int .i64 ((H : Int))), (.slice (some ⟨b2, o2, none⟩) n2 cap2)], 32, true⟩, ⟨bq1, [(.int .i64 ((W : Int))), (.int .i64 ((H : Int))), (.slice (some ⟨b1, o1, none⟩) n1 cap1)], 32, true⟩] T.mixed (fuel := 11) rfl rfl ?_
    refine GH.take 0 (v := (.pointer (some ⟨bq1, 2, none⟩))) rfl (by kernel_rfl) (by kernel_rfl) (by kernel_rfl) (fun _ _ _ h => h) (Ex.cast (Ex.fieldAddr rfl Try.underlying32 rfl T.sz30 (by decide)) rfl) (List.Sublist.cons_cons _ (List.Sublist.cons_cons _ (List.Sublist.cons_cons _ (List.nil_sublist _)))) (by decide) ?_
    refine GH.take 1 (v := (.slice (some ⟨b1, o1, none⟩) n1 cap1)) rfl (by kernel_rfl) (by kernel_rfl) (by kernel_rfl) (fun _ _ _ h => h) (Ex.load rfl T.ag30 (i := 2) rfl rfl) (List.Sublist.cons_cons _ (List.Sublist.cons_cons _ (List.Sublist.cons_cons _ (List.nil_sublist _)))) (by decide) ?_
    refine GH.take 2 (v := (.int .i64 (((k : Nat) : Int)))) rfl (by kernel_rfl) (by kernel_rfl) (by kernel_rfl) (fun _ _ _ h => h) (Ex.move rfl) (List.Sublist.cons_cons _ (List.Sublist.cons_cons _ (List.Sublist.cons_cons _ (List.nil_sublist _)))) (by decide) ?_
    refine GH.take 3 (v := (.pointer (some ⟨b1, o1 + k, none⟩))) rfl (by kernel_rfl) (by kernel_rfl) (by kernel_rfl) (fun _ _ _ h => h) (Ex.cast (Ex.indexAddr rfl rfl Try.underlying30 T.sz72 (by omega) (by omega)) (by simp)) (List.Sublist.cons_cons _ (List.Sublist.cons_cons _ (List.Sublist.cons_cons _ (List.nil_sublist _)))) (by decide) ?_
    refine GH.take 4 (v := (.int .u32 (xs.getD k 0))) rfl (by kernel_rfl) (by kernel_rfl) (by kernel_rfl) (fun _ _ _ h => h) (Ex.loadO rfl T.ag72 (Rd.at hr1 (by have a := h1.1; omega)) (fun x => x)) (List.Sublist.cons_cons _ (List.Sublist.cons_cons _ (List.Sublist.cons_cons _ (List.nil_sublist _)))) (by decide) ?_
    refine GH.take 5 (v := (.pointer (some ⟨bq2, 2, none⟩))) rfl (by kernel_rfl) (by kernel_rfl) (by kernel_rfl) (fun _ _ _ h => h) (Ex.cast (Ex.fieldAddr rfl Try.underlying32 rfl T.sz30 (by decide)) rfl) (List.Sublist.cons_cons _ (List.Sublist.cons_cons _ (List.Sublist.cons_cons _ (List.nil_sublist _)))) (by decide) ?_
    refine GH.take 6 (v := (.slice (some ⟨b2, o2, none⟩) n2 cap2)) rfl (by kernel_rfl) (by kernel_rfl) (by kernel_rfl) (fun _ _ _ h => h) (Ex.load rfl T.ag30 (i := 1) rfl rfl) (List.Sublist.cons_cons _ (List.Sublist.cons_cons _ (List.Sublist.cons_cons _ (List.nil_sublist _)))) (by decide) ?_
    refine GH.take 7 (v := (.int .i64 (((k : Nat) : Int)))) rfl (by kernel_rfl) (by kernel_rfl) (by kernel_rfl) (fun _ _ _ h => h) (Ex.move rfl) (List.Sublist.cons_cons _ (List.Sublist.cons_cons _ (List.Sublist.cons_cons _ (List.nil_sublist _)))) (by decide) ?_
    refine GH.take 8 (v := (.pointer (some ⟨b2, o2 + k, none⟩))) rfl (by kernel_rfl) (by kernel_rfl) (by kernel_rfl) (fun _ _ _ h => h) (Ex.cast (Ex.indexAddr rfl rfl Try.underlying30 T.sz72 (by omega) (by omega)) (by simp)) (List.Sublist.cons_cons _ (List.Sublist.cons_cons _ (List.Sublist.cons_cons _ (List.nil_sublist _)))) (by decide) ?_
    refine GH.take 9 (v := (.int .u32 (ys.getD k 0))) rfl (by kernel_rfl) (by kernel_rfl) (by kernel_rfl) (fun _ _ _ h => h) (Ex.loadO rfl T.ag72 (Rd.at hr2 (by have a := h2.1; omega)) (fun x => x)) (List.Sublist.cons_cons _ (List.Sublist.cons_cons _ (List.Sublist.cons_cons _ (List.nil_sublist _)))) (by decide) ?_
    refine GH.take 10 (v := (.bool (decide ((xs.getD k 0) = (ys.getD k 0))))) rfl (by kernel_rfl) (by kernel_rfl) (by kernel_rfl) (fun _ _ _ h => h) (Ex.eql rfl rfl) (List.Sublist.cons_cons _ (List.Sublist.cons_cons _ (List.Sublist.cons_cons _ (List.nil_sublist _)))) (by decide) ?_
    refine GH.done (by kernel_rfl) ?_
    refine GE.thenN ?_
    refine GC.cond rfl (fun hq18 => ?_) (fun hq18 => ?_)
    · replace hq18 := of_decide_eq_true hq18
      have heq := hq18
      refine GC.exit ?_
      refine GE.thenE ?_
      refine GE.blockE ?_
      refine GE.thenN ?_
      refine GC.region ?_
      refine GL.val (v := (.int .i64 (((k : Nat) : Int)))) (Ex.move rfl) (by decide) ?_
      refine GL.val (v := (.int .i64 (((k + 1 : Nat) : Int)))) (Ex.add rfl rfl (Z := ((k + 1 : Nat) : Int)) (by rw [w64 (by omega)]; rfl)) (by decide) ?_
      refine GL.val (v := (.int .i64 (((k + 1 : Nat) : Int)))) (Ex.assign rfl) (by decide) ?_
      refine GL.nil ?_
      refine GE.thenN ?_
      rw [show sd (hit xs ys (fun j => decide (((j % W : Nat) : Int) = (unl W H xs ys n1).1)) k) (hit xs ys (fun j => decide (((j % W : Nat) : Int) = (unl W H xs ys n1).2.2.1 - 1)) k) (hit xs ys (fun j => decide (((j / W : Nat) : Int) = (unl W H xs ys n1).2.1)) k) (hit xs ys (fun j => decide (((j / W : Nat) : Int) = (unl W H xs ys n1).2.2.2 - 1)) k) = sd (hit xs ys (fun j => decide (((j % W : Nat) : Int) = (unl W H xs ys n1).1)) (k + 1)) (hit xs ys (fun j => decide (((j % W : Nat) : Int) = (unl W H xs ys n1).2.2.1 - 1)) (k + 1)) (hit xs ys (fun j => decide (((j / W : Nat) : Int) = (unl W H xs ys n1).2.1)) (k + 1)) (hit xs ys (fun j => decide (((j / W : Nat) : Int) = (unl W H xs ys n1).2.2.2 - 1)) (k + 1)) from by simp only [hit_skip heq]]
      exact Head.mk (k + 1) (by omega) (by omega) ((sub_cons rfl ((sub_cons rfl ((sub_cons rfl ((sub_cons rfl ((sub_cons rfl ((sub_cons rfl ((sub_nil _)))))))))))))) (List.Sublist.cons_cons _ (List.Sublist.cons_cons _ (List.Sublist.cons_cons _ (List.nil_sublist _))))
    · replace hq18 := of_decide_eq_false hq18
      have hne := hq18
      refine GC.skip ?_
      refine GE.thenN ?_
      refine GC.seq ?_
      refine GC.drawP [⟨bq8, [(.int .i64 ((unl W H xs ys n1).1)), (.int .i64 ((unl W H xs ys n1).2.1)), (.int .i64 ((unl W H xs ys n1).2.2.1)), (.int .i64 ((unl W H xs ys n1).2.2.2))], 54, true⟩, ⟨bq2, [(.int .i64 ((W : Int))), (.int .i64 ((H : Int))), (.slice (some ⟨b2, o2, none⟩) n2 cap2)], 32, true⟩, ⟨bq1, [(.int .i64 ((W : Int))), (.int .i64 ((H : Int))), (.slice (some ⟨b1, o1, none⟩) n1 cap1)], 32, true⟩] T.mixed (by kernel_rfl) (by kernel_rfl) (fuel := 9) rfl rfl ?_
      refine GH.take 0 (v := (.int .i64 (((k : Nat) : Int)))) rfl (by kernel_rfl) (by kernel_rfl) (by kernel_rfl) (fun _ _ _ h => h) (Ex.move rfl) (List.Sublist.cons_cons _ (List.Sublist.cons_cons _ (List.Sublist.cons_cons _ (List.nil_sublist _)))) (by decide) ?_
      refine GH.take 1 (v := (.pointer (some ⟨bq1, 0, none⟩))) rfl (by kernel_rfl) (by kernel_rfl) (by kernel_rfl) (fun _ _ _ h => h) (Ex.cast (Ex.fieldAddr rfl Try.underlying32 rfl T.sz3 (by decide)) rfl) (List.Sublist.cons_cons _ (List.Sublist.cons_cons _ (List.Sublist.cons_cons _ (List.nil_sublist _)))) (by decide) ?_
      refine GH.take 2 (v := (.int .i64 ((W : Int)))) rfl (by kernel_rfl) (by kernel_rfl) (by kernel_rfl) (fun _ _ _ h => h) (Ex.load rfl T.ag3 (i := 2) rfl rfl) (List.Sublist.cons_cons _ (List.Sublist.cons_cons _ (List.Sublist.cons_cons _ (List.nil_sublist _)))) (by decide) ?_
      refine GH.take 3 (v := (.int .i64 (((k % W : Nat) : Int)))) rfl (by kernel_rfl) (by kernel_rfl) (by kernel_rfl) (fun _ _ _ h => h) (Ex.rem rfl rfl (Z := ((k % W : Nat) : Int)) (by omega) (by rw [Int.tmod_eq_emod_of_nonneg (Int.natCast_nonneg _)]; simp)) (List.Sublist.cons_cons _ (List.Sublist.cons_cons _ (List.Sublist.cons_cons _ (List.nil_sublist _)))) (by decide) ?_
      refine GH.take 4 (v := (.int .i64 (((k : Nat) : Int)))) rfl (by kernel_rfl) (by kernel_rfl) (by kernel_rfl) (fun _ _ _ h => h) (Ex.move rfl) (List.Sublist.cons_cons _ (List.Sublist.cons_cons _ (List.Sublist.cons_cons _ (List.nil_sublist _)))) (by decide) ?_
      refine GH.take 5 (v := (.pointer (some ⟨bq1, 0, none⟩))) rfl (by kernel_rfl) (by kernel_rfl) (by kernel_rfl) (fun _ _ _ h => h) (Ex.cast (Ex.fieldAddr rfl Try.underlying32 rfl T.sz3 (by decide)) rfl) (List.Sublist.cons_cons _ (List.Sublist.cons_cons _ (List.Sublist.cons_cons _ (List.nil_sublist _)))) (by decide) ?_
      refine GH.take 6 (v := (.int .i64 ((W : Int)))) rfl (by kernel_rfl) (by kernel_rfl) (by kernel_rfl) (fun _ _ _ h => h) (Ex.load rfl T.ag3 (i := 2) rfl rfl) (List.Sublist.cons_cons _ (List.Sublist.cons_cons _ (List.Sublist.cons_cons _ (List.nil_sublist _)))) (by decide) ?_
      refine GH.take 7 (v := (.int .i64 (((k / W : Nat) : Int)))) rfl (by kernel_rfl) (by kernel_rfl) (by kernel_rfl) (fun _ _ _ h => h) (Ex.quo rfl rfl (Z := ((k / W : Nat) : Int)) (by omega) (by rw [quo64 (Int.natCast_nonneg _) (by omega) (by omega)]; simp)) (List.Sublist.cons_cons _ (List.Sublist.cons_cons _ (List.Sublist.cons_cons _ (List.nil_sublist _)))) (by decide) ?_
      refine GH.take 8 (v := (.int .i64 (((k % W : Nat) : Int)))) rfl (by kernel_rfl) (by kernel_rfl) (by kernel_rfl) (fun _ _ _ h => h) (Ex.assign rfl) (List.Sublist.cons_cons _ (List.Sublist.cons_cons _ (List.Sublist.cons_cons _ (List.nil_sublist _)))) (by decide) ?_
      refine GH.done (by kernel_rfl) ?_
      refine GE.thenN ?_
      refine GE.tail rfl (Ex.wp (v := (.int .i64 (((k / W : Nat) : Int)))) (Ex.assign rfl) (by decide)) (fun _ _ => ?_)
      refine GE.thenN ?_
      refine GC.seq ?_
      refine GC.seq ?_
      have hin := unl_in (W := W) (H := H) (k := n1) (show k < n1 by omega) hne
      refine GC.region ?_
      refine GL.val (v := (.int .i64 (((k % W : Nat) : Int)))) (Ex.move rfl) (by decide) ?_
      refine GL.val (v := (.pointer (some ⟨bq8, 0, none⟩))) (Ex.cast (Ex.fieldAddr rfl Try.underlying54 rfl T.sz3 (by decide)) rfl) (by decide) ?_
      refine GL.val (v := (.int .i64 ((unl W H xs ys n1).1))) (Ex.load rfl T.ag3 (i := 0) rfl rfl) (by decide) ?_
      refine GL.val (v := (.bool false)) (Ex.cast (Ex.lss rfl rfl) (congrArg Value.bool (decide_eq_false (by omega)))) (by decide) ?_
      refine GL.val (v := (.bool false)) (Ex.move rfl) (by decide) ?_
      refine GL.stepG (tj := 110) rfl rfl (Ex.wp (v := (.int .i64 (((k % W : Nat) : Int)))) (Ex.move rfl) (by decide)) (fun _ _ => ?_)
      refine GL.stepG (tj := 110) rfl rfl (Ex.wp (v := (.pointer (some ⟨bq8, 2, none⟩))) (Ex.cast (Ex.fieldAddr rfl Try.underlying54 rfl T.sz3 (by decide)) rfl) (by decide)) (fun _ _ => ?_)
      refine GL.stepG (tj := 110) rfl rfl (Ex.wp (v := (.int .i64 ((unl W H xs ys n1).2.2.1))) (Ex.load rfl T.ag3 (i := 0) rfl rfl) (by decide)) (fun _ _ => ?_)
      refine GL.stepG (tj := 110) rfl rfl (Ex.wp (v := (.bool false)) (Ex.cast (Ex.geq rfl rfl) (congrArg Value.bool (decide_eq_false (by omega)))) (by decide)) (fun _ _ => ?_)
      refine GL.val (v := (.bool false)) (Ex.pickF rfl rfl) (by decide) ?_
      refine GL.val (v := (.bool false)) (Ex.move rfl) (by decide) ?_
      refine GL.stepG (tj := 116) rfl rfl (Ex.wp (v := (.int .i64 (((k / W : Nat) : Int)))) (Ex.move rfl) (by decide)) (fun _ _ => ?_)
      refine GL.stepG (tj := 116) rfl rfl (Ex.wp (v := (.pointer (some ⟨bq8, 1, none⟩))) (Ex.cast (Ex.fieldAddr rfl Try.underlying54 rfl T.sz3 (by decide)) rfl) (by decide)) (fun _ _ => ?_)
      refine GL.stepG (tj := 116) rfl rfl (Ex.wp (v := (.int .i64 ((unl W H xs ys n1).2.1))) (Ex.load rfl T.ag3 (i := 0) rfl rfl) (by decide)) (fun _ _ => ?_)
      refine GL.stepG (tj := 116) rfl rfl (Ex.wp (v := (.bool false)) (Ex.cast (Ex.lss rfl rfl) (congrArg Value.bool (decide_eq_false (by omega)))) (by decide)) (fun _ _ => ?_)
      refine GL.val (v := (.bool false)) (Ex.pickF rfl rfl) (by decide) ?_
      refine GL.val (v := (.bool false)) (Ex.move rfl) (by decide) ?_
      refine GL.stepG (tj := 122) rfl rfl (Ex.wp (v := (.int .i64 (((k / W : Nat) : Int)))) (Ex.move rfl) (by decide)) (fun _ _ => ?_)
      refine GL.stepG (tj := 122) rfl rfl (Ex.wp (v := (.pointer (some ⟨bq8, 3, none⟩))) (Ex.cast (Ex.fieldAddr rfl Try.underlying54 rfl T.sz3 (by decide)) rfl) (by decide)) (fun _ _ => ?_)
      refine GL.stepG (tj := 122) rfl rfl (Ex.wp (v := (.int .i64 ((unl W H xs ys n1).2.2.2))) (Ex.load rfl T.ag3 (i := 0) rfl rfl) (by decide)) (fun _ _ => ?_)
      refine GL.stepG (tj := 122) rfl rfl (Ex.wp (v := (.bool false)) (Ex.cast (Ex.geq rfl rfl) (congrArg Value.bool (decide_eq_false (by omega)))) (by decide)) (fun _ _ => ?_)
      refine GL.val (v := (.bool false)) (Ex.pickF rfl rfl) (by decide) ?_
      refine GL.nil ?_
      refine GE.thenN ?_
      refine GC.cond rfl (fun hq19 => by cases hq19) (fun _ => ?_)
      refine GC.skip ?_
      refine GE.thenN ?_
      refine GC.seq ?_
      refine GC.seq ?_
      refine GC.region ?_
      refine GL.val (v := (.int .i64 (((k % W : Nat) : Int)))) (Ex.move rfl) (by decide) ?_
      refine GL.val (v := (.pointer (some ⟨bq8, 0, none⟩))) (Ex.cast (Ex.fieldAddr rfl Try.underlying54 rfl T.sz3 (by decide)) rfl) (by decide) ?_
      refine GL.val (v := (.int .i64 ((unl W H xs ys n1).1))) (Ex.load rfl T.ag3 (i := 0) rfl rfl) (by decide) ?_
      refine GL.val (v := (.bool (decide ((((k % W : Nat) : Int)) = ((unl W H xs ys n1).1))))) (Ex.eql rfl rfl) (by decide) ?_
      refine GL.nil ?_
      refine GE.thenN ?_
      refine GC.cond rfl (fun hq20 => ?_) (fun hq20 => ?_)
      · replace hq20 := of_decide_eq_true hq20
        have hs6 := hq20
        refine GC.region ?_
        refine GL.val (v := (.int .i64 (sd (hit xs ys (fun j => decide (((j % W : Nat) : Int) = (unl W H xs ys n1).1)) k) (hit xs ys (fun j => decide (((j % W : Nat) : Int) = (unl W H xs ys n1).2.2.1 - 1)) k) (hit xs ys (fun j => decide (((j / W : Nat) : Int) = (unl W H xs ys n1).2.1)) k) (hit xs ys (fun j => decide (((j / W : Nat) : Int) = (unl W H xs ys n1).2.2.2 - 1)) k)))) (Ex.move rfl) (by decide) ?_
        refine GL.val (v := (.int .i64 (sd true (hit xs ys (fun j => decide (((j % W : Nat) : Int) = (unl W H xs ys n1).2.2.1 - 1)) k) (hit xs ys (fun j => decide (((j / W : Nat) : Int) = (unl W H xs ys n1).2.1)) k) (hit xs ys (fun j => decide (((j / W : Nat) : Int) = (unl W H xs ys n1).2.2.2 - 1)) k)))) (Ex.bits rfl rfl (by simp) (Z := sd true (hit xs ys (fun j => decide (((j % W : Nat) : Int) = (unl W H xs ys n1).2.2.1 - 1)) k) (hit xs ys (fun j => decide (((j / W : Nat) : Int) = (unl W H xs ys n1).2.1)) k) (hit xs ys (fun j => decide (((j / W : Nat) : Int) = (unl W H xs ys n1).2.2.2 - 1)) k)) (sd_or1 _ _ _ _)) (by decide) ?_
        refine GL.val (v := (.int .i64 (sd true (hit xs ys (fun j => decide (((j % W : Nat) : Int) = (unl W H xs ys n1).2.2.1 - 1)) k) (hit xs ys (fun j => decide (((j / W : Nat) : Int) = (unl W H xs ys n1).2.1)) k) (hit xs ys (fun j => decide (((j / W : Nat) : Int) = (unl W H xs ys n1).2.2.2 - 1)) k)))) (Ex.assign rfl) (by decide) ?_
        refine GL.nil ?_
        refine GE.thenN ?_
        refine GC.seq ?_
        refine GC.seq ?_
        refine GC.region ?_
        refine GL.val (v := (.int .i64 (((k % W : Nat) : Int)))) (Ex.move rfl) (by decide) ?_
        refine GL.val (v := (.pointer (some ⟨bq8, 2, none⟩))) (Ex.cast (Ex.fieldAddr rfl Try.underlying54 rfl T.sz3 (by decide)) rfl) (by decide) ?_
        refine GL.val (v := (.int .i64 ((unl W H xs ys n1).2.2.1))) (Ex.load rfl T.ag3 (i := 0) rfl rfl) (by decide) ?_
        refine GL.val (v := (.int .i64 (((unl W H xs ys n1).2.2.1) - 1))) (Ex.sub' rfl rfl (Z := ((unl W H xs ys n1).2.2.1) - 1) (w64 (by omega))) (by decide) ?_
        refine GL.val (v := (.bool (decide ((((k % W : Nat) : Int)) = (((unl W H xs ys n1).2.2.1) - 1))))) (Ex.eql rfl rfl) (by decide) ?_
        refine GL.nil ?_
        refine GE.thenN ?_
        refine GC.cond rfl (fun hq21 => ?_) (fun hq21 => ?_)
        · replace hq21 := of_decide_eq_true hq21
          have hs7 := hq21
          refine GC.region ?_
          refine GL.val (v := (.int .i64 (sd true (hit xs ys (fun j => decide (((j % W : Nat) : Int) = (unl W H xs ys n1).2.2.1 - 1)) k) (hit xs ys (fun j => decide (((j / W : Nat) : Int) = (unl W H xs ys n1).2.1)) k) (hit xs ys (fun j => decide (((j / W : Nat) : Int) = (unl W H xs ys n1).2.2.2 - 1)) k)))) (Ex.move rfl) (by decide) ?_
          refine GL.val (v := (.int .i64 (sd true true (hit xs ys (fun j => decide (((j / W : Nat) : Int) = (unl W H xs ys n1).2.1)) k) (hit xs ys (fun j => decide (((j / W : Nat) : Int) = (unl W H xs ys n1).2.2.2 - 1)) k)))) (Ex.bits rfl rfl (by simp) (Z := sd true true (hit xs ys (fun j => decide (((j / W : Nat) : Int) = (unl W H xs ys n1).2.1)) k) (hit xs ys (fun j => decide (((j / W : Nat) : Int) = (unl W H xs ys n1).2.2.2 - 1)) k)) (sd_or2 _ _ _ _)) (by decide) ?_
          refine GL.val (v := (.int .i64 (sd true true (hit xs ys (fun j => decide (((j / W : Nat) : Int) = (unl W H xs ys n1).2.1)) k) (hit xs ys (fun j => decide (((j / W : Nat) : Int) = (unl W H xs ys n1).2.2.2 - 1)) k)))) (Ex.assign rfl) (by decide) ?_
          refine GL.nil ?_
          refine GE.thenN ?_
          refine GC.seq ?_
          refine GC.seq ?_
          refine GC.region ?_
          refine GL.val (v := (.int .i64 (((k / W : Nat) : Int)))) (Ex.move rfl) (by decide) ?_
          refine GL.val (v := (.pointer (some ⟨bq8, 1, none⟩))) (Ex.cast (Ex.fieldAddr rfl Try.underlying54 rfl T.sz3 (by decide)) rfl) (by decide) ?_
          refine GL.val (v := (.int .i64 ((unl W H xs ys n1).2.1))) (Ex.load rfl T.ag3 (i := 0) rfl rfl) (by decide) ?_
          refine GL.val (v := (.bool (decide ((((k / W : Nat) : Int)) = ((unl W H xs ys n1).2.1))))) (Ex.eql rfl rfl) (by decide) ?_
          refine GL.nil ?_
          refine GE.thenN ?_
          refine GC.cond rfl (fun hq22 => ?_) (fun hq22 => ?_)
          · replace hq22 := of_decide_eq_true hq22
            have hs8 := hq22
            refine GC.region ?_
            refine GL.val (v := (.int .i64 (sd true true (hit xs ys (fun j => decide (((j / W : Nat) : Int) = (unl W H xs ys n1).2.1)) k) (hit xs ys (fun j => decide (((j / W : Nat) : Int) = (unl W H xs ys n1).2.2.2 - 1)) k)))) (Ex.move rfl) (by decide) ?_
            refine GL.val (v := (.int .i64 (sd true true true (hit xs ys (fun j => decide (((j / W : Nat) : Int) = (unl W H xs ys n1).2.2.2 - 1)) k)))) (Ex.bits rfl rfl (by simp) (Z := sd true true true (hit xs ys (fun j => decide (((j / W : Nat) : Int) = (unl W H xs ys n1).2.2.2 - 1)) k)) (sd_or4 _ _ _ _)) (by decide) ?_
            refine GL.val (v := (.int .i64 (sd true true true (hit xs ys (fun j => decide (((j / W : Nat) : Int) = (unl W H xs ys n1).2.2.2 - 1)) k)))) (Ex.assign rfl) (by decide) ?_
            refine GL.nil ?_
            refine GE.thenN ?_
            refine GC.seq ?_
            refine GC.region ?_
            refine GL.val (v := (.int .i64 (((k / W : Nat) : Int)))) (Ex.move rfl) (by decide) ?_
            refine GL.val (v := (.pointer (some ⟨bq8, 3, none⟩))) (Ex.cast (Ex.fieldAddr rfl Try.underlying54 rfl T.sz3 (by decide)) rfl) (by decide) ?_
            refine GL.val (v := (.int .i64 ((unl W H xs ys n1).2.2.2))) (Ex.load rfl T.ag3 (i := 0) rfl rfl) (by decide) ?_
            refine GL.val (v := (.int .i64 (((unl W H xs ys n1).2.2.2) - 1))) (Ex.sub' rfl rfl (Z := ((unl W H xs ys n1).2.2.2) - 1) (w64 (by omega))) (by decide) ?_
            refine GL.val (v := (.bool (decide ((((k / W : Nat) : Int)) = (((unl W H xs ys n1).2.2.2) - 1))))) (Ex.eql rfl rfl) (by decide) ?_
            refine GL.nil ?_
            refine GE.thenN ?_
            refine GC.cond rfl (fun hq23 => ?_) (fun hq23 => ?_)
            · replace hq23 := of_decide_eq_true hq23
              have hs9 := hq23
              refine GC.region ?_
              refine GL.val (v := (.int .i64 (sd true true true (hit xs ys (fun j => decide (((j / W : Nat) : Int) = (unl W H xs ys n1).2.2.2 - 1)) k)))) (Ex.move rfl) (by decide) ?_
              refine GL.val (v := (.int .i64 (sd true true true true))) (Ex.bits rfl rfl (by simp) (Z := sd true true true true) (sd_or8 _ _ _ _)) (by decide) ?_
              refine GL.val (v := (.int .i64 (sd true true true true))) (Ex.assign rfl) (by decide) ?_
              refine GL.nil ?_
              refine GE.blockN ?_
              refine GE.thenN ?_
              refine GC.region ?_
              refine GL.val (v := (.int .i64 (((k : Nat) : Int)))) (Ex.move rfl) (by decide) ?_
              refine GL.val (v := (.int .i64 (((k + 1 : Nat) : Int)))) (Ex.add rfl rfl (Z := ((k + 1 : Nat) : Int)) (by rw [w64 (by omega)]; rfl)) (by decide) ?_
              refine GL.val (v := (.int .i64 (((k + 1 : Nat) : Int)))) (Ex.assign rfl) (by decide) ?_
              refine GL.nil ?_
              refine GE.thenN ?_
              rw [show sd true true true true = sd (hit xs ys (fun j => decide (((j % W : Nat) : Int) = (unl W H xs ys n1).1)) (k + 1)) (hit xs ys (fun j => decide (((j % W : Nat) : Int) = (unl W H xs ys n1).2.2.1 - 1)) (k + 1)) (hit xs ys (fun j => decide (((j / W : Nat) : Int) = (unl W H xs ys n1).2.1)) (k + 1)) (hit xs ys (fun j => decide (((j / W : Nat) : Int) = (unl W H xs ys n1).2.2.2 - 1)) (k + 1)) from by rw [hit_true (f := (fun j => decide (((j % W : Nat) : Int) = (unl W H xs ys n1).1))) hne (decide_eq_true hs6), hit_true (f := (fun j => decide (((j % W : Nat) : Int) = (unl W H xs ys n1).2.2.1 - 1))) hne (decide_eq_true hs7), hit_true (f := (fun j => decide (((j / W : Nat) : Int) = (unl W H xs ys n1).2.1))) hne (decide_eq_true hs8), hit_true (f := (fun j => decide (((j / W : Nat) : Int) = (unl W H xs ys n1).2.2.2 - 1))) hne (decide_eq_true hs9)]]
              exact Head.mk (k + 1) (by omega) (by omega) ((sub_cons rfl ((sub_cons rfl ((sub_cons rfl ((sub_cons rfl ((sub_cons rfl ((sub_cons rfl ((sub_nil _)))))))))))))) (List.Sublist.cons_cons _ (List.Sublist.cons_cons _ (List.Sublist.cons_cons _ (List.nil_sublist _))))
            · replace hq23 := of_decide_eq_false hq23
              have hs9 := hq23
              refine GC.skip ?_
              refine GE.blockN ?_
              refine GE.thenN ?_
              refine GC.region ?_
              refine GL.val (v := (.int .i64 (((k : Nat) : Int)))) (Ex.move rfl) (by decide) ?_
              refine GL.val (v := (.int .i64 (((k + 1 : Nat) : Int)))) (Ex.add rfl rfl (Z := ((k + 1 : Nat) : Int)) (by rw [w64 (by omega)]; rfl)) (by decide) ?_
              refine GL.val (v := (.int .i64 (((k + 1 : Nat) : Int)))) (Ex.assign rfl) (by decide) ?_
              refine GL.nil ?_
              refine GE.thenN ?_
              rw [show sd true true true (hit xs ys (fun j => decide (((j / W : Nat) : Int) = (unl W H xs ys n1).2.2.2 - 1)) k) = sd (hit xs ys (fun j => decide (((j % W : Nat) : Int) = (unl W H xs ys n1).1)) (k + 1)) (hit xs ys (fun j => decide (((j % W : Nat) : Int) = (unl W H xs ys n1).2.2.1 - 1)) (k + 1)) (hit xs ys (fun j => decide (((j / W : Nat) : Int) = (unl W H xs ys n1).2.1)) (k + 1)) (hit xs ys (fun j => decide (((j / W : Nat) : Int) = (unl W H xs ys n1).2.2.2 - 1)) (k + 1)) from by rw [hit_true (f := (fun j => decide (((j % W : Nat) : Int) = (unl W H xs ys n1).1))) hne (decide_eq_true hs6), hit_true (f := (fun j => decide (((j % W : Nat) : Int) = (unl W H xs ys n1).2.2.1 - 1))) hne (decide_eq_true hs7), hit_true (f := (fun j => decide (((j / W : Nat) : Int) = (unl W H xs ys n1).2.1))) hne (decide_eq_true hs8), hit_false (xs := xs) (ys := ys) (f := (fun j => decide (((j / W : Nat) : Int) = (unl W H xs ys n1).2.2.2 - 1))) (decide_eq_false hs9)]]
              exact Head.mk (k + 1) (by omega) (by omega) ((sub_cons rfl ((sub_cons rfl ((sub_cons rfl ((sub_cons rfl ((sub_cons rfl ((sub_cons rfl ((sub_nil _)))))))))))))) (List.Sublist.cons_cons _ (List.Sublist.cons_cons _ (List.Sublist.cons_cons _ (List.nil_sublist _))))
          · replace hq22 := of_decide_eq_false hq22
            have hs8 := hq22
            refine GC.skip ?_
            refine GE.thenN ?_
            refine GC.seq ?_
            refine GC.region ?_
            refine GL.val (v := (.int .i64 (((k / W : Nat) : Int)))) (Ex.move rfl) (by decide) ?_
            refine GL.val (v := (.pointer (some ⟨bq8, 3, none⟩))) (Ex.cast (Ex.fieldAddr rfl Try.underlying54 rfl T.sz3 (by decide)) rfl) (by decide) ?_
            refine GL.val (v := (.int .i64 ((unl W H xs ys n1).2.2.2))) (Ex.load rfl T.ag3 (i := 0) rfl rfl) (by decide) ?_
            refine GL.val (v := (.int .i64 (((unl W H xs ys n1).2.2.2) - 1))) (Ex.sub' rfl rfl (Z := ((unl W H xs ys n1).2.2.2) - 1) (w64 (by omega))) (by decide) ?_
            refine GL.val (v := (.bool (decide ((((k / W : Nat) : Int)) = (((unl W H xs ys n1).2.2.2) - 1))))) (Ex.eql rfl rfl) (by decide) ?_
            refine GL.nil ?_
            refine GE.thenN ?_
            refine GC.cond rfl (fun hq24 => ?_) (fun hq24 => ?_)
            · replace hq24 := of_decide_eq_true hq24
              have hs9 := hq24
              refine GC.region ?_
              refine GL.val (v := (.int .i64 (sd true true (hit xs ys (fun j => decide (((j / W : Nat) : Int) = (unl W H xs ys n1).2.1)) k) (hit xs ys (fun j => decide (((j / W : Nat) : Int) = (unl W H xs ys n1).2.2.2 - 1)) k)))) (Ex.move rfl) (by decide) ?_
              refine GL.val (v := (.int .i64 (sd true true (hit xs ys (fun j => decide (((j / W : Nat) : Int) = (unl W H xs ys n1).2.1)) k) true))) (Ex.bits rfl rfl (by simp) (Z := sd true true (hit xs ys (fun j => decide (((j / W : Nat) : Int) = (unl W H xs ys n1).2.1)) k) true) (sd_or8 _ _ _ _)) (by decide) ?_
              refine GL.val (v := (.int .i64 (sd true true (hit xs ys (fun j => decide (((j / W : Nat) : Int) = (unl W H xs ys n1).2.1)) k) true))) (Ex.assign rfl) (by decide) ?_
              refine GL.nil ?_
              refine GE.blockN ?_
              refine GE.thenN ?_
              refine GC.region ?_
              refine GL.val (v := (.int .i64 (((k : Nat) : Int)))) (Ex.move rfl) (by decide) ?_
              refine GL.val (v := (.int .i64 (((k + 1 : Nat) : Int)))) (Ex.add rfl rfl (Z := ((k + 1 : Nat) : Int)) (by rw [w64 (by omega)]; rfl)) (by decide) ?_
              refine GL.val (v := (.int .i64 (((k + 1 : Nat) : Int)))) (Ex.assign rfl) (by decide) ?_
              refine GL.nil ?_
              refine GE.thenN ?_
              rw [show sd true true (hit xs ys (fun j => decide (((j / W : Nat) : Int) = (unl W H xs ys n1).2.1)) k) true = sd (hit xs ys (fun j => decide (((j % W : Nat) : Int) = (unl W H xs ys n1).1)) (k + 1)) (hit xs ys (fun j => decide (((j % W : Nat) : Int) = (unl W H xs ys n1).2.2.1 - 1)) (k + 1)) (hit xs ys (fun j => decide (((j / W : Nat) : Int) = (unl W H xs ys n1).2.1)) (k + 1)) (hit xs ys (fun j => decide (((j / W : Nat) : Int) = (unl W H xs ys n1).2.2.2 - 1)) (k + 1)) from by rw [hit_true (f := (fun j => decide (((j % W : Nat) : Int) = (unl W H xs ys n1).1))) hne (decide_eq_true hs6), hit_true (f := (fun j => decide (((j % W : Nat) : Int) = (unl W H xs ys n1).2.2.1 - 1))) hne (decide_eq_true hs7), hit_false (xs := xs) (ys := ys) (f := (fun j => decide (((j / W : Nat) : Int) = (unl W H xs ys n1).2.1))) (decide_eq_false hs8), hit_true (f := (fun j => decide (((j / W : Nat) : Int) = (unl W H xs ys n1).2.2.2 - 1))) hne (decide_eq_true hs9)]]
              exact Head.mk (k + 1) (by omega) (by omega) ((sub_cons rfl ((sub_cons rfl ((sub_cons rfl ((sub_cons rfl ((sub_cons rfl ((sub_cons rfl ((sub_nil _)))))))))))))) (List.Sublist.cons_cons _ (List.Sublist.cons_cons _ (List.Sublist.cons_cons _ (List.nil_sublist _))))
            · replace hq24 := of_decide_eq_false hq24
              have hs9 := hq24
              refine GC.skip ?_
              refine GE.blockN ?_
              refine GE.thenN ?_
              refine GC.region ?_
              refine GL.val (v := (.int .i64 (((k : Nat) : Int)))) (Ex.move rfl) (by decide) ?_
              refine GL.val (v := (.int .i64 (((k + 1 : Nat) : Int)))) (Ex.add rfl rfl (Z := ((k + 1 : Nat) : Int)) (by rw [w64 (by omega)]; rfl)) (by decide) ?_
              refine GL.val (v := (.int .i64 (((k + 1 : Nat) : Int)))) (Ex.assign rfl) (by decide) ?_
              refine GL.nil ?_
              refine GE.thenN ?_
              rw [show sd true true (hit xs ys (fun j => decide (((j / W : Nat) : Int) = (unl W H xs ys n1).2.1)) k) (hit xs ys (fun j => decide (((j / W : Nat) : Int) = (unl W H xs ys n1).2.2.2 - 1)) k) = sd (hit xs ys (fun j => decide (((j % W : Nat) : Int) = (unl W H xs ys n1).1)) (k + 1)) (hit xs ys (fun j => decide (((j % W : Nat) : Int) = (unl W H xs ys n1).2.2.1 - 1)) (k + 1)) (hit xs ys (fun j => decide (((j / W : Nat) : Int) = (unl W H xs ys n1).2.1)) (k + 1)) (hit xs ys (fun j => decide (((j / W : Nat) : Int) = (unl W H xs ys n1).2.2.2 - 1)) (k + 1)) from by rw [hit_true (f := (fun j => decide (((j % W : Nat) : Int) = (unl W H xs ys n1).1))) hne (decide_eq_true hs6), hit_true (f := (fun j => decide (((j % W : Nat) : Int) = (unl W H xs ys n1).2.2.1 - 1))) hne (decide_eq_true hs7), hit_false (xs := xs) (ys := ys) (f := (fun j => decide (((j / W : Nat) : Int) = (unl W H xs ys n1).2.1))) (decide_eq_false hs8), hit_false (xs := xs) (ys := ys) (f := (fun j => decide (((j / W : Nat) : Int) = (unl W H xs ys n1).2.2.2 - 1))) (decide_eq_false hs9)]]
              exact Head.mk (k + 1) (by omega) (by omega) ((sub_cons rfl ((sub_cons rfl ((sub_cons rfl ((sub_cons rfl ((sub_cons rfl ((sub_cons rfl ((sub_nil _)))))))))))))) (List.Sublist.cons_cons _ (List.Sublist.cons_cons _ (List.Sublist.cons_cons _ (List.nil_sublist _))))
        · replace hq21 := of_decide_eq_false hq21
          have hs7 := hq21
          refine GC.skip ?_
          refine GE.thenN ?_
          refine GC.seq ?_
          refine GC.seq ?_
          refine GC.region ?_
          refine GL.val (v := (.int .i64 (((k / W : Nat) : Int)))) (Ex.move rfl) (by decide) ?_
          refine GL.val (v := (.pointer (some ⟨bq8, 1, none⟩))) (Ex.cast (Ex.fieldAddr rfl Try.underlying54 rfl T.sz3 (by decide)) rfl) (by decide) ?_
          refine GL.val (v := (.int .i64 ((unl W H xs ys n1).2.1))) (Ex.load rfl T.ag3 (i := 0) rfl rfl) (by decide) ?_
          refine GL.val (v := (.bool (decide ((((k / W : Nat) : Int)) = ((unl W H xs ys n1).2.1))))) (Ex.eql rfl rfl) (by decide) ?_
          refine GL.nil ?_
          refine GE.thenN ?_
          refine GC.cond rfl (fun hq25 => ?_) (fun hq25 => ?_)
          · replace hq25 := of_decide_eq_true hq25
            have hs8 := hq25
            refine GC.region ?_
            refine GL.val (v := (.int .i64 (sd true (hit xs ys (fun j => decide (((j % W : Nat) : Int) = (unl W H xs ys n1).2.2.1 - 1)) k) (hit xs ys (fun j => decide (((j / W : Nat) : Int) = (unl W H xs ys n1).2.1)) k) (hit xs ys (fun j => decide (((j / W : Nat) : Int) = (unl W H xs ys n1).2.2.2 - 1)) k)))) (Ex.move rfl) (by decide) ?_
            refine GL.val (v := (.int .i64 (sd true (hit xs ys (fun j => decide (((j % W : Nat) : Int) = (unl W H xs ys n1).2.2.1 - 1)) k) true (hit xs ys (fun j => decide (((j / W : Nat) : Int) = (unl W H xs ys n1).2.2.2 - 1)) k)))) (Ex.bits rfl rfl (by simp) (Z := sd true (hit xs ys (fun j => decide (((j % W : Nat) : Int) = (unl W H xs ys n1).2.2.1 - 1)) k) true (hit xs ys (fun j => decide (((j / W : Nat) : Int) = (unl W H xs ys n1).2.2.2 - 1)) k)) (sd_or4 _ _ _ _)) (by decide) ?_
            refine GL.val (v := (.int .i64 (sd true (hit xs ys (fun j => decide (((j % W : Nat) : Int) = (unl W H xs ys n1).2.2.1 - 1)) k) true (hit xs ys (fun j => decide (((j / W : Nat) : Int) = (unl W H xs ys n1).2.2.2 - 1)) k)))) (Ex.assign rfl) (by decide) ?_
            refine GL.nil ?_
            refine GE.thenN ?_
            refine GC.seq ?_
            refine GC.region ?_
            refine GL.val (v := (.int .i64 (((k / W : Nat) : Int)))) (Ex.move rfl) (by decide) ?_
            refine GL.val (v := (.pointer (some ⟨bq8, 3, none⟩))) (Ex.cast (Ex.fieldAddr rfl Try.underlying54 rfl T.sz3 (by decide)) rfl) (by decide) ?_
            refine GL.val (v := (.int .i64 ((unl W H xs ys n1).2.2.2))) (Ex.load rfl T.ag3 (i := 0) rfl rfl) (by decide) ?_
            refine GL.val (v := (.int .i64 (((unl W H xs ys n1).2.2.2) - 1))) (Ex.sub' rfl rfl (Z := ((unl W H xs ys n1).2.2.2) - 1) (w64 (by omega))) (by decide) ?_
            refine GL.val (v := (.bool (decide ((((k / W : Nat) : Int)) = (((unl W H xs ys n1).2.2.2) - 1))))) (Ex.eql rfl rfl) (by decide) ?_
            refine GL.nil ?_
            refine GE.thenN ?_
            refine GC.cond rfl (fun hq26 => ?_) (fun hq26 => ?_)
            · replace hq26 := of_decide_eq_true hq26
              have hs9 := hq26
              refine GC.region ?_
              refine GL.val (v := (.int .i64 (sd true (hit xs ys (fun j => decide (((j % W : Nat) : Int) = (unl W H xs ys n1).2.2.1 - 1)) k) true (hit xs ys (fun j => decide (((j / W : Nat) : Int) = (unl W H xs ys n1).2.2.2 - 1)) k)))) (Ex.move rfl) (by decide) ?_
              refine GL.val (v := (.int .i64 (sd true (hit xs ys (fun j => decide (((j % W : Nat) : Int) = (unl W H xs ys n1).2.2.1 - 1)) k) true true))) (Ex.bits rfl rfl (by simp) (Z := sd true (hit xs ys (fun j => decide (((j % W : Nat) : Int) = (unl W H xs ys n1).2.2.1 - 1)) k) true true) (sd_or8 _ _ _ _)) (by decide) ?_
              refine GL.val (v := (.int .i64 (sd true (hit xs ys (fun j => decide (((j % W : Nat) : Int) = (unl W H xs ys n1).2.2.1 - 1)) k) true true))) (Ex.assign rfl) (by decide) ?_
              refine GL.nil ?_
              refine GE.blockN ?_
              refine GE.thenN ?_
              refine GC.region ?_
              refine GL.val (v := (.int .i64 (((k : Nat) : Int)))) (Ex.move rfl) (by decide) ?_
              refine GL.val (v := (.int .i64 (((k + 1 : Nat) : Int)))) (Ex.add rfl rfl (Z := ((k + 1 : Nat) : Int)) (by rw [w64 (by omega)]; rfl)) (by decide) ?_
              refine GL.val (v := (.int .i64 (((k + 1 : Nat) : Int)))) (Ex.assign rfl) (by decide) ?_
              refine GL.nil ?_
              refine GE.thenN ?_
              rw [show sd true (hit xs ys (fun j => decide (((j % W : Nat) : Int) = (unl W H xs ys n1).2.2.1 - 1)) k) true true = sd (hit xs ys (fun j => decide (((j % W : Nat) : Int) = (unl W H xs ys n1).1)) (k + 1)) (hit xs ys (fun j => decide (((j % W : Nat) : Int) = (unl W H xs ys n1).2.2.1 - 1)) (k + 1)) (hit xs ys (fun j => decide (((j / W : Nat) : Int) = (unl W H xs ys n1).2.1)) (k + 1)) (hit xs ys (fun j => decide (((j / W : Nat) : Int) = (unl W H xs ys n1).2.2.2 - 1)) (k + 1)) from by rw [hit_true (f := (fun j => decide (((j % W : Nat) : Int) = (unl W H xs ys n1).1))) hne (decide_eq_true hs6), hit_false (xs := xs) (ys := ys) (f := (fun j => decide (((j % W : Nat) : Int) = (unl W H xs ys n1).2.2.1 - 1))) (decide_eq_false hs7), hit_true (f := (fun j => decide (((j / W : Nat) : Int) = (unl W H xs ys n1).2.1))) hne (decide_eq_true hs8), hit_true (f := (fun j => decide (((j / W : Nat) : Int) = (unl W H xs ys n1).2.2.2 - 1))) hne (decide_eq_true hs9)]]
              exact Head.mk (k + 1) (by omega) (by omega) ((sub_cons rfl ((sub_cons rfl ((sub_cons rfl ((sub_cons rfl ((sub_cons rfl ((sub_cons rfl ((sub_nil _)))))))))))))) (List.Sublist.cons_cons _ (List.Sublist.cons_cons _ (List.Sublist.cons_cons _ (List.nil_sublist _))))
            · replace hq26 := of_decide_eq_false hq26
              have hs9 := hq26
              refine GC.skip ?_
              refine GE.blockN ?_
              refine GE.thenN ?_
              refine GC.region ?_
              refine GL.val (v := (.int .i64 (((k : Nat) : Int)))) (Ex.move rfl) (by decide) ?_
              refine GL.val (v := (.int .i64 (((k + 1 : Nat) : Int)))) (Ex.add rfl rfl (Z := ((k + 1 : Nat) : Int)) (by rw [w64 (by omega)]; rfl)) (by decide) ?_
              refine GL.val (v := (.int .i64 (((k + 1 : Nat) : Int)))) (Ex.assign rfl) (by decide) ?_
              refine GL.nil ?_
              refine GE.thenN ?_
              rw [show sd true (hit xs ys (fun j => decide (((j % W : Nat) : Int) = (unl W H xs ys n1).2.2.1 - 1)) k) true (hit xs ys (fun j => decide (((j / W : Nat) : Int) = (unl W H xs ys n1).2.2.2 - 1)) k) = sd (hit xs ys (fun j => decide (((j % W : Nat) : Int) = (unl W H xs ys n1).1)) (k + 1)) (hit xs ys (fun j => decide (((j % W : Nat) : Int) = (unl W H xs ys n1).2.2.1 - 1)) (k + 1)) (hit xs ys (fun j => decide (((j / W : Nat) : Int) = (unl W H xs ys n1).2.1)) (k + 1)) (hit xs ys (fun j => decide (((j / W : Nat) : Int) = (unl W H xs ys n1).2.2.2 - 1)) (k + 1)) from by rw [hit_true (f := (fun j => decide (((j % W : Nat) : Int) = (unl W H xs ys n1).1))) hne (decide_eq_true hs6), hit_false (xs := xs) (ys := ys) (f := (fun j => decide (((j % W : Nat) : Int) = (unl W H xs ys n1).2.2.1 - 1))) (decide_eq_false hs7), hit_true (f := (fun j => decide (((j / W : Nat) : Int) = (unl W H xs ys n1).2.1))) hne (decide_eq_true hs8), hit_false (xs := xs) (ys := ys) (f := (fun j => decide (((j / W : Nat) : Int) = (unl W H xs ys n1).2.2.2 - 1))) (decide_eq_false hs9)]]
              exact Head.mk (k + 1) (by omega) (by omega) ((sub_cons rfl ((sub_cons rfl ((sub_cons rfl ((sub_cons rfl ((sub_cons rfl ((sub_cons rfl ((sub_nil _)))))))))))))) (List.Sublist.cons_cons _ (List.Sublist.cons_cons _ (List.Sublist.cons_cons _ (List.nil_sublist _))))
          · replace hq25 := of_decide_eq_false hq25
            have hs8 := hq25
            refine GC.skip ?_
            refine GE.thenN ?_
            refine GC.seq ?_
            refine GC.region ?_
            refine GL.val (v := (.int .i64 (((k / W : Nat) : Int)))) (Ex.move rfl) (by decide) ?_
            refine GL.val (v := (.pointer (some ⟨bq8, 3, none⟩))) (Ex.cast (Ex.fieldAddr rfl Try.underlying54 rfl T.sz3 (by decide)) rfl) (by decide) ?_
            refine GL.val (v := (.int .i64 ((unl W H xs ys n1).2.2.2))) (Ex.load rfl T.ag3 (i := 0) rfl rfl) (by decide) ?_
            refine GL.val (v := (.int .i64 (((unl W H xs ys n1).2.2.2) - 1))) (Ex.sub' rfl rfl (Z := ((unl W H xs ys n1).2.2.2) - 1) (w64 (by omega))) (by decide) ?_
            refine GL.val (v := (.bool (decide ((((k / W : Nat) : Int)) = (((unl W H xs ys n1).2.2.2) - 1))))) (Ex.eql rfl rfl) (by decide) ?_
            refine GL.nil ?_
            refine GE.thenN ?_
            refine GC.cond rfl (fun hq27 => ?_) (fun hq27 => ?_)
            · replace hq27 := of_decide_eq_true hq27
              have hs9 := hq27
              refine GC.region ?_
              refine GL.val (v := (.int .i64 (sd true (hit xs ys (fun j => decide (((j % W : Nat) : Int) = (unl W H xs ys n1).2.2.1 - 1)) k) (hit xs ys (fun j => decide (((j / W : Nat) : Int) = (unl W H xs ys n1).2.1)) k) (hit xs ys (fun j => decide (((j / W : Nat) : Int) = (unl W H xs ys n1).2.2.2 - 1)) k)))) (Ex.move rfl) (by decide) ?_
              refine GL.val (v := (.int .i64 (sd true (hit xs ys (fun j => decide (((j % W : Nat) : Int) = (unl W H xs ys n1).2.2.1 - 1)) k) (hit xs ys (fun j => decide (((j / W : Nat) : Int) = (unl W H xs ys n1).2.1)) k) true))) (Ex.bits rfl rfl (by simp) (Z := sd true (hit xs ys (fun j => decide (((j % W : Nat) : Int) = (unl W H xs ys n1).2.2.1 - 1)) k) (hit xs ys (fun j => decide (((j / W : Nat) : Int) = (unl W H xs ys n1).2.1)) k) true) (sd_or8 _ _ _ _)) (by decide) ?_
              refine GL.val (v := (.int .i64 (sd true (hit xs ys (fun j => decide (((j % W : Nat) : Int) = (unl W H xs ys n1).2.2.1 - 1)) k) (hit xs ys (fun j => decide (((j / W : Nat) : Int) = (unl W H xs ys n1).2.1)) k) true))) (Ex.assign rfl) (by decide) ?_
              refine GL.nil ?_
              refine GE.blockN ?_
              refine GE.thenN ?_
              refine GC.region ?_
              refine GL.val (v := (.int .i64 (((k : Nat) : Int)))) (Ex.move rfl) (by decide) ?_
              refine GL.val (v := (.int .i64 (((k + 1 : Nat) : Int)))) (Ex.add rfl rfl (Z := ((k + 1 : Nat) : Int)) (by rw [w64 (by omega)]; rfl)) (by decide) ?_
              refine GL.val (v := (.int .i64 (((k + 1 : Nat) : Int)))) (Ex.assign rfl) (by decide) ?_
              refine GL.nil ?_
              refine GE.thenN ?_
              rw [show sd true (hit xs ys (fun j => decide (((j % W : Nat) : Int) = (unl W H xs ys n1).2.2.1 - 1)) k) (hit xs ys (fun j => decide (((j / W : Nat) : Int) = (unl W H xs ys n1).2.1)) k) true = sd (hit xs ys (fun j => decide (((j % W : Nat) : Int) = (unl W H xs ys n1).1)) (k + 1)) (hit xs ys (fun j => decide (((j % W : Nat) : Int) = (unl W H xs ys n1).2.2.1 - 1)) (k + 1)) (hit xs ys (fun j => decide (((j / W : Nat) : Int) = (unl W H xs ys n1).2.1)) (k + 1)) (hit xs ys (fun j => decide (((j / W : Nat) : Int) = (unl W H xs ys n1).2.2.2 - 1)) (k + 1)) from by rw [hit_true (f := (fun j => decide (((j % W : Nat) : Int) = (unl W H xs ys n1).1))) hne (decide_eq_true hs6), hit_false (xs := xs) (ys := ys) (f := (fun j => decide (((j % W : Nat) : Int) = (unl W H xs ys n1).2.2.1 - 1))) (decide_eq_false hs7), hit_false (xs := xs) (ys := ys) (f := (fun j => decide (((j / W : Nat) : Int) = (unl W H xs ys n1).2.1))) (decide_eq_false hs8), hit_true (f := (fun j => decide (((j / W : Nat) : Int) = (unl W H xs ys n1).2.2.2 - 1))) hne (decide_eq_true hs9)]]
              exact Head.mk (k + 1) (by omega) (by omega) ((sub_cons rfl ((sub_cons rfl ((sub_cons rfl ((sub_cons rfl ((sub_cons rfl ((sub_cons rfl ((sub_nil _)))))))))))))) (List.Sublist.cons_cons _ (List.Sublist.cons_cons _ (List.Sublist.cons_cons _ (List.nil_sublist _))))
            · replace hq27 := of_decide_eq_false hq27
              have hs9 := hq27
              refine GC.skip ?_
              refine GE.blockN ?_
              refine GE.thenN ?_
              refine GC.region ?_
              refine GL.val (v := (.int .i64 (((k : Nat) : Int)))) (Ex.move rfl) (by decide) ?_
              refine GL.val (v := (.int .i64 (((k + 1 : Nat) : Int)))) (Ex.add rfl rfl (Z := ((k + 1 : Nat) : Int)) (by rw [w64 (by omega)]; rfl)) (by decide) ?_
              refine GL.val (v := (.int .i64 (((k + 1 : Nat) : Int)))) (Ex.assign rfl) (by decide) ?_
              refine GL.nil ?_
              refine GE.thenN ?_
              rw [show sd true (hit xs ys (fun j => decide (((j % W : Nat) : Int) = (unl W H xs ys n1).2.2.1 - 1)) k) (hit xs ys (fun j => decide (((j / W : Nat) : Int) = (unl W H xs ys n1).2.1)) k) (hit xs ys (fun j => decide (((j / W : Nat) : Int) = (unl W H xs ys n1).2.2.2 - 1)) k) = sd (hit xs ys (fun j => decide (((j % W : Nat) : Int) = (unl W H xs ys n1).1)) (k + 1)) (hit xs ys (fun j => decide (((j % W : Nat) : Int) = (unl W H xs ys n1).2.2.1 - 1)) (k + 1)) (hit xs ys (fun j => decide (((j / W : Nat) : Int) = (unl W H xs ys n1).2.1)) (k + 1)) (hit xs ys (fun j => decide (((j / W : Nat) : Int) = (unl W H xs ys n1).2.2.2 - 1)) (k + 1)) from by rw [hit_true (f := (fun j => decide (((j % W : Nat) : Int) = (unl W H xs ys n1).1))) hne (decide_eq_true hs6), hit_false (xs := xs) (ys := ys) (f := (fun j => decide (((j % W : Nat) : Int) = (unl W H xs ys n1).2.2.1 - 1))) (decide_eq_false hs7), hit_false (xs := xs) (ys := ys) (f := (fun j => decide (((j / W : Nat) : Int) = (unl W H xs ys n1).2.1))) (decide_eq_false hs8), hit_false (xs := xs) (ys := ys) (f := (fun j => decide (((j / W : Nat) : Int) = (unl W H xs ys n1).2.2.2 - 1))) (decide_eq_false hs9)]]
              exact Head.mk (k + 1) (by omega) (by omega) ((sub_cons rfl ((sub_cons rfl ((sub_cons rfl ((sub_cons rfl ((sub_cons rfl ((sub_cons rfl ((sub_nil _)))))))))))))) (List.Sublist.cons_cons _ (List.Sublist.cons_cons _ (List.Sublist.cons_cons _ (List.nil_sublist _))))
      · replace hq20 := of_decide_eq_false hq20
        have hs6 := hq20
        refine GC.skip ?_
        refine GE.thenN ?_
        refine GC.seq ?_
        refine GC.seq ?_
        refine GC.region ?_
        refine GL.val (v := (.int .i64 (((k % W : Nat) : Int)))) (Ex.move rfl) (by decide) ?_
        refine GL.val (v := (.pointer (some ⟨bq8, 2, none⟩))) (Ex.cast (Ex.fieldAddr rfl Try.underlying54 rfl T.sz3 (by decide)) rfl) (by decide) ?_
        refine GL.val (v := (.int .i64 ((unl W H xs ys n1).2.2.1))) (Ex.load rfl T.ag3 (i := 0) rfl rfl) (by decide) ?_
        refine GL.val (v := (.int .i64 (((unl W H xs ys n1).2.2.1) - 1))) (Ex.sub' rfl rfl (Z := ((unl W H xs ys n1).2.2.1) - 1) (w64 (by omega))) (by decide) ?_
        refine GL.val (v := (.bool (decide ((((k % W : Nat) : Int)) = (((unl W H xs ys n1).2.2.1) - 1))))) (Ex.eql rfl rfl) (by decide) ?_
        refine GL.nil ?_
        refine GE.thenN ?_
        refine GC.cond rfl (fun hq28 => ?_) (fun hq28 => ?_)
        · replace hq28 := of_decide_eq_true hq28
          have hs7 := hq28
          refine GC.region ?_
          refine GL.val (v := (.int .i64 (sd (hit xs ys (fun j => decide (((j % W : Nat) : Int) = (unl W H xs ys n1).1)) k) (hit xs ys (fun j => decide (((j % W : Nat) : Int) = (unl W H xs ys n1).2.2.1 - 1)) k) (hit xs ys (fun j => decide (((j / W : Nat) : Int) = (unl W H xs ys n1).2.1)) k) (hit xs ys (fun j => decide (((j / W : Nat) : Int) = (unl W H xs ys n1).2.2.2 - 1)) k)))) (Ex.move rfl) (by decide) ?_
          refine GL.val (v := (.int .i64 (sd (hit xs ys (fun j => decide (((j % W : Nat) : Int) = (unl W H xs ys n1).1)) k) true (hit xs ys (fun j => decide (((j / W : Nat) : Int) = (unl W H xs ys n1).2.1)) k) (hit xs ys (fun j => decide (((j / W : Nat) : Int) = (unl W H xs ys n1).2.2.2 - 1)) k)))) (Ex.bits rfl rfl (by simp) (Z := sd (hit xs ys (fun j => decide (((j % W : Nat) : Int) = (unl W H xs ys n1).1)) k) true (hit xs ys (fun j => decide (((j / W : Nat) : Int) = (unl W H xs ys n1).2.1)) k) (hit xs ys (fun j => decide (((j / W : Nat) : Int) = (unl W H xs ys n1).2.2.2 - 1)) k)) (sd_or2 _ _ _ _)) (by decide) ?_
          refine GL.val (v := (.int .i64 (sd (hit xs ys (fun j => decide (((j % W : Nat) : Int) = (unl W H xs ys n1).1)) k) true (hit xs ys (fun j => decide (((j / W : Nat) : Int) = (unl W H xs ys n1).2.1)) k) (hit xs ys (fun j => decide (((j / W : Nat) : Int) = (unl W H xs ys n1).2.2.2 - 1)) k)))) (Ex.assign rfl) (by decide) ?_
          refine GL.nil ?_
          refine GE.thenN ?_
          refine GC.seq ?_
          refine GC.seq ?_
          refine GC.region ?_
          refine GL.val (v := (.int .i64 (((k / W : Nat) : Int)))) (Ex.move rfl) (by decide) ?_
          refine GL.val (v := (.pointer (some ⟨bq8, 1, none⟩))) (Ex.cast (Ex.fieldAddr rfl Try.underlying54 rfl T.sz3 (by decide)) rfl) (by decide) ?_
          refine GL.val (v := (.int .i64 ((unl W H xs ys n1).2.1))) (Ex.load rfl T.ag3 (i := 0) rfl rfl) (by decide) ?_
          refine GL.val (v := (.bool (decide ((((k / W : Nat) : Int)) = ((unl W H xs ys n1).2.1))))) (Ex.eql rfl rfl) (by decide) ?_
          refine GL.nil ?_
          refine GE.thenN ?_
          refine GC.cond rfl (fun hq29 => ?_) (fun hq29 => ?_)
          · replace hq29 := of_decide_eq_true hq29
            have hs8 := hq29
            refine GC.region ?_
            refine GL.val (v := (.int .i64 (sd (hit xs ys (fun j => decide (((j % W : Nat) : Int) = (unl W H xs ys n1).1)) k) true (hit xs ys (fun j => decide (((j / W : Nat) : Int) = (unl W H xs ys n1).2.1)) k) (hit xs ys (fun j => decide (((j / W : Nat) : Int) = (unl W H xs ys n1).2.2.2 - 1)) k)))) (Ex.move rfl) (by decide) ?_
            refine GL.val (v := (.int .i64 (sd (hit xs ys (fun j => decide (((j % W : Nat) : Int) = (unl W H xs ys n1).1)) k) true true (hit xs ys (fun j => decide (((j / W : Nat) : Int) = (unl W H xs ys n1).2.2.2 - 1)) k)))) (Ex.bits rfl rfl (by simp) (Z := sd (hit xs ys (fun j => decide (((j % W : Nat) : Int) = (unl W H xs ys n1).1)) k) true true (hit xs ys (fun j => decide (((j / W : Nat) : Int) = (unl W H xs ys n1).2.2.2 - 1)) k)) (sd_or4 _ _ _ _)) (by decide) ?_
            refine GL.val (v := (.int .i64 (sd (hit xs ys (fun j => decide (((j % W : Nat) : Int) = (unl W H xs ys n1).1)) k) true true (hit xs ys (fun j => decide (((j / W : Nat) : Int) = (unl W H xs ys n1).2.2.2 - 1)) k)))) (Ex.assign rfl) (by decide) ?_
            refine GL.nil ?_
            refine GE.thenN ?_
            refine GC.seq ?_
            refine GC.region ?_
            refine GL.val (v := (.int .i64 (((k / W : Nat) : Int)))) (Ex.move rfl) (by decide) ?_
            refine GL.val (v := (.pointer (some ⟨bq8, 3, none⟩))) (Ex.cast (Ex.fieldAddr rfl Try.underlying54 rfl T.sz3 (by decide)) rfl) (by decide) ?_
            refine GL.val (v := (.int .i64 ((unl W H xs ys n1).2.2.2))) (Ex.load rfl T.ag3 (i := 0) rfl rfl) (by decide) ?_
            refine GL.val (v := (.int .i64 (((unl W H xs ys n1).2.2.2) - 1))) (Ex.sub' rfl rfl (Z := ((unl W H xs ys n1).2.2.2) - 1) (w64 (by omega))) (by decide) ?_
            refine GL.val (v := (.bool (decide ((((k / W : Nat) : Int)) = (((unl W H xs ys n1).2.2.2) - 1))))) (Ex.eql rfl rfl) (by decide) ?_
            refine GL.nil ?_
            refine GE.thenN ?_
            refine GC.cond rfl (fun hq30 => ?_) (fun hq30 => ?_)
            · replace hq30 := of_decide_eq_true hq30
              have hs9 := hq30
              refine GC.region ?_
              refine GL.val (v := (.int .i64 (sd (hit xs ys (fun j => decide (((j % W : Nat) : Int) = (unl W H xs ys n1).1)) k) true true (hit xs ys (fun j => decide (((j / W : Nat) : Int) = (unl W H xs ys n1).2.2.2 - 1)) k)))) (Ex.move rfl) (by decide) ?_
              refine GL.val (v := (.int .i64 (sd (hit xs ys (fun j => decide (((j % W : Nat) : Int) = (unl W H xs ys n1).1)) k) true true true))) (Ex.bits rfl rfl (by simp) (Z := sd (hit xs ys (fun j => decide (((j % W : Nat) : Int) = (unl W H xs ys n1).1)) k) true true true) (sd_or8 _ _ _ _)) (by decide) ?_
              refine GL.val (v := (.int .i64 (sd (hit xs ys (fun j => decide (((j % W : Nat) : Int) = (unl W H xs ys n1).1)) k) true true true))) (Ex.assign rfl) (by decide) ?_
              refine GL.nil ?_
              refine GE.blockN ?_
              refine GE.thenN ?_
              refine GC.region ?_
              refine GL.val (v := (.int .i64 (((k : Nat) : Int)))) (Ex.move rfl) (by decide) ?_
              refine GL.val (v := (.int .i64 (((k + 1 : Nat) : Int)))) (Ex.add rfl rfl (Z := ((k + 1 : Nat) : Int)) (by rw [w64 (by omega)]; rfl)) (by decide) ?_
              refine GL.val (v := (.int .i64 (((k + 1 : Nat) : Int)))) (Ex.assign rfl) (by decide) ?_
              refine GL.nil ?_
              refine GE.thenN ?_
              rw [show sd (hit xs ys (fun j => decide (((j % W : Nat) : Int) = (unl W H xs ys n1).1)) k) true true true = sd (hit xs ys (fun j => decide (((j % W : Nat) : Int) = (unl W H xs ys n1).1)) (k + 1)) (hit xs ys (fun j => decide (((j % W : Nat) : Int) = (unl W H xs ys n1).2.2.1 - 1)) (k + 1)) (hit xs ys (fun j => decide (((j / W : Nat) : Int) = (unl W H xs ys n1).2.1)) (k + 1)) (hit xs ys (fun j => decide (((j / W : Nat) : Int) = (unl W H xs ys n1).2.2.2 - 1)) (k + 1)) from by rw [hit_false (xs := xs) (ys := ys) (f := (fun j => decide (((j % W : Nat) : Int) = (unl W H xs ys n1).1))) (decide_eq_false hs6), hit_true (f := (fun j => decide (((j % W : Nat) : Int) = (unl W H xs ys n1).2.2.1 - 1))) hne (decide_eq_true hs7), hit_true (f := (fun j => decide (((j / W : Nat) : Int) = (unl W H xs ys n1).2.1))) hne (decide_eq_true hs8), hit_true (f := (fun j => decide (((j / W : Nat) : Int) = (unl W H xs ys n1).2.2.2 - 1))) hne (decide_eq_true hs9)]]
              exact Head.mk (k + 1) (by omega) (by omega) ((sub_cons rfl ((sub_cons rfl ((sub_cons rfl ((sub_cons rfl ((sub_cons rfl ((sub_cons rfl ((sub_nil _)))))))))))))) (List.Sublist.cons_cons _ (List.Sublist.cons_cons _ (List.Sublist.cons_cons _ (List.nil_sublist _))))
            · replace hq30 := of_decide_eq_false hq30
              have hs9 := hq30
              refine GC.skip ?_
              refine GE.blockN ?_
              refine GE.thenN ?_
              refine GC.region ?_
              refine GL.val (v := (.int .i64 (((k : Nat) : Int)))) (Ex.move rfl) (by decide) ?_
              refine GL.val (v := (.int .i64 (((k + 1 : Nat) : Int)))) (Ex.add rfl rfl (Z := ((k + 1 : Nat) : Int)) (by rw [w64 (by omega)]; rfl)) (by decide) ?_
              refine GL.val (v := (.int .i64 (((k + 1 : Nat) : Int)))) (Ex.assign rfl) (by decide) ?_
              refine GL.nil ?_
              refine GE.thenN ?_
              rw [show sd (hit xs ys (fun j => decide (((j % W : Nat) : Int) = (unl W H xs ys n1).1)) k) true true (hit xs ys (fun j => decide (((j / W : Nat) : Int) = (unl W H xs ys n1).2.2.2 - 1)) k) = sd (hit xs ys (fun j => decide (((j % W : Nat) : Int) = (unl W H xs ys n1).1)) (k + 1)) (hit xs ys (fun j => decide (((j % W : Nat) : Int) = (unl W H xs ys n1).2.2.1 - 1)) (k + 1)) (hit xs ys (fun j => decide (((j / W : Nat) : Int) = (unl W H xs ys n1).2.1)) (k + 1)) (hit xs ys (fun j => decide (((j / W : Nat) : Int) = (unl W H xs ys n1).2.2.2 - 1)) (k + 1)) from by rw [hit_false (xs := xs) (ys := ys) (f := (fun j => decide (((j % W : Nat) : Int) = (unl W H xs ys n1).1))) (decide_eq_false hs6), hit_true (f := (fun j => decide (((j % W : Nat) : Int) = (unl W H xs ys n1).2.2.1 - 1))) hne (decide_eq_true hs7), hit_true (f := (fun j => decide (((j / W : Nat) : Int) = (unl W H xs ys n1).2.1))) hne (decide_eq_true hs8), hit_false (xs := xs) (ys := ys) (f := (fun j => decide (((j / W : Nat) : Int) = (unl W H xs ys n1).2.2.2 - 1))) (decide_eq_false hs9)]]
              exact Head.mk (k + 1) (by omega) (by omega) ((sub_cons rfl ((sub_cons rfl ((sub_cons rfl ((sub_cons rfl ((sub_cons rfl ((sub_cons rfl ((sub_nil _)))))))))))))) (List.Sublist.cons_cons _ (List.Sublist.cons_cons _ (List.Sublist.cons_cons _ (List.nil_sublist _))))
          · replace hq29 := of_decide_eq_false hq29
            have hs8 := hq29
            refine GC.skip ?_
            refine GE.thenN ?_
            refine GC.seq ?_
            refine GC.region ?_
            refine GL.val (v := (.int .i64 (((k / W : Nat) : Int)))) (Ex.move rfl) (by decide) ?_
            refine GL.val (v := (.pointer (some ⟨bq8, 3, none⟩))) (Ex.cast (Ex.fieldAddr rfl Try.underlying54 rfl T.sz3 (by decide)) rfl) (by decide) ?_
            refine GL.val (v := (.int .i64 ((unl W H xs ys n1).2.2.2))) (Ex.load rfl T.ag3 (i := 0) rfl rfl) (by decide) ?_
            refine GL.val (v := (.int .i64 (((unl W H xs ys n1).2.2.2) - 1))) (Ex.sub' rfl rfl (Z := ((unl W H xs ys n1).2.2.2) - 1) (w64 (by omega))) (by decide) ?_
            refine GL.val (v := (.bool (decide ((((k / W : Nat) : Int)) = (((unl W H xs ys n1).2.2.2) - 1))))) (Ex.eql rfl rfl) (by decide) ?_
            refine GL.nil ?_
            refine GE.thenN ?_
            refine GC.cond rfl (fun hq31 => ?_) (fun hq31 => ?_)
            · replace hq31 := of_decide_eq_true hq31
              have hs9 := hq31
              refine GC.region ?_
              refine GL.val (v := (.int .i64 (sd (hit xs ys (fun j => decide (((j % W : Nat) : Int) = (unl W H xs ys n1).1)) k) true (hit xs ys (fun j => decide (((j / W : Nat) : Int) = (unl W H xs ys n1).2.1)) k) (hit xs ys (fun j => decide (((j / W : Nat) : Int) = (unl W H xs ys n1).2.2.2 - 1)) k)))) (Ex.move rfl) (by decide) ?_
              refine GL.val (v := (.int .i64 (sd (hit xs ys (fun j => decide (((j % W : Nat) : Int) = (unl W H xs ys n1).1)) k) true (hit xs ys (fun j => decide (((j / W : Nat) : Int) = (unl W H xs ys n1).2.1)) k) true))) (Ex.bits rfl rfl (by simp) (Z := sd (hit xs ys (fun j => decide (((j % W : Nat) : Int) = (unl W H xs ys n1).1)) k) true (hit xs ys (fun j => decide (((j / W : Nat) : Int) = (unl W H xs ys n1).2.1)) k) true) (sd_or8 _ _ _ _)) (by decide) ?_
              refine GL.val (v := (.int .i64 (sd (hit xs ys (fun j => decide (((j % W : Nat) : Int) = (unl W H xs ys n1).1)) k) true (hit xs ys (fun j => decide (((j / W : Nat) : Int) = (unl W H xs ys n1).2.1)) k) true))) (Ex.assign rfl) (by decide) ?_
              refine GL.nil ?_
              refine GE.blockN ?_
              refine GE.thenN ?_
              refine GC.region ?_
              refine GL.val (v := (.int .i64 (((k : Nat) : Int)))) (Ex.move rfl) (by decide) ?_
              refine GL.val (v := (.int .i64 (((k + 1 : Nat) : Int)))) (Ex.add rfl rfl (Z := ((k + 1 : Nat) : Int)) (by rw [w64 (by omega)]; rfl)) (by decide) ?_
              refine GL.val (v := (.int .i64 (((k + 1 : Nat) : Int)))) (Ex.assign rfl) (by decide) ?_
              refine GL.nil ?_
              refine GE.thenN ?_
              rw [show sd (hit xs ys (fun j => decide (((j % W : Nat) : Int) = (unl W H xs ys n1).1)) k) true (hit xs ys (fun j => decide (((j / W : Nat) : Int) = (unl W H xs ys n1).2.1)) k) true = sd (hit xs ys (fun j => decide (((j % W : Nat) : Int) = (unl W H xs ys n1).1)) (k + 1)) (hit xs ys (fun j => decide (((j % W : Nat) : Int) = (unl W H xs ys n1).2.2.1 - 1)) (k + 1)) (hit xs ys (fun j => decide (((j / W : Nat) : Int) = (unl W H xs ys n1).2.1)) (k + 1)) (hit xs ys (fun j => decide (((j / W : Nat) : Int) = (unl W H xs ys n1).2.2.2 - 1)) (k + 1)) from by rw [hit_false (xs := xs) (ys := ys) (f := (fun j => decide (((j % W : Nat) : Int) = (unl W H xs ys n1).1))) (decide_eq_false hs6), hit_true (f := (fun j => decide (((j % W : Nat) : Int) = (unl W H xs ys n1).2.2.1 - 1))) hne (decide_eq_true hs7), hit_false (xs := xs) (ys := ys) (f := (fun j => decide (((j / W : Nat) : Int) = (unl W H xs ys n1).2.1))) (decide_eq_false hs8), hit_true (f := (fun j => decide (((j / W : Nat) : Int) = (unl W H xs ys n1).2.2.2 - 1))) hne (decide_eq_true hs9)]]
              exact Head.mk (k + 1) (by omega) (by omega) ((sub_cons rfl ((sub_cons rfl ((sub_cons rfl ((sub_cons rfl ((sub_cons rfl ((sub_cons rfl ((sub_nil _)))))))))))))) (List.Sublist.cons_cons _ (List.Sublist.cons_cons _ (List.Sublist.cons_cons _ (List.nil_sublist _))))
            · replace hq31 := of_decide_eq_false hq31
              have hs9 := hq31
              refine GC.skip ?_
              refine GE.blockN ?_
              refine GE.thenN ?_
              refine GC.region ?_
              refine GL.val (v := (.int .i64 (((k : Nat) : Int)))) (Ex.move rfl) (by decide) ?_
              refine GL.val (v := (.int .i64 (((k + 1 : Nat) : Int)))) (Ex.add rfl rfl (Z := ((k + 1 : Nat) : Int)) (by rw [w64 (by omega)]; rfl)) (by decide) ?_
              refine GL.val (v := (.int .i64 (((k + 1 : Nat) : Int)))) (Ex.assign rfl) (by decide) ?_
              refine GL.nil ?_
              refine GE.thenN ?_
              rw [show sd (hit xs ys (fun j => decide (((j % W : Nat) : Int) = (unl W H xs ys n1).1)) k) true (hit xs ys (fun j => decide (((j / W : Nat) : Int) = (unl W H xs ys n1).2.1)) k) (hit xs ys (fun j => decide (((j / W : Nat) : Int) = (unl W H xs ys n1).2.2.2 - 1)) k) = sd (hit xs ys (fun j => decide (((j % W : Nat) : Int) = (unl W H xs ys n1).1)) (k + 1)) (hit xs ys (fun j => decide (((j % W : Nat) : Int) = (unl W H xs ys n1).2.2.1 - 1)) (k + 1)) (hit xs ys (fun j => decide (((j / W : Nat) : Int) = (unl W H xs ys n1).2.1)) (k + 1)) (hit xs ys (fun j => decide (((j / W : Nat) : Int) = (unl W H xs ys n1).2.2.2 - 1)) (k + 1)) from by rw [hit_false (xs := xs) (ys := ys) (f := (fun j => decide (((j % W : Nat) : Int) = (unl W H xs ys n1).1))) (decide_eq_false hs6), hit_true (f := (fun j => decide (((j % W : Nat) : Int) = (unl W H xs ys n1).2.2.1 - 1))) hne (decide_eq_true hs7), hit_false (xs := xs) (ys := ys) (f := (fun j => decide (((j / W : Nat) : Int) = (unl W H xs ys n1).2.1))) (decide_eq_false hs8), hit_false (xs := xs) (ys := ys) (f := (fun j => decide (((j / W : Nat) : Int) = (unl W H xs ys n1).2.2.2 - 1))) (decide_eq_false hs9)]]
              exact Head.mk (k + 1) (by omega) (by omega) ((sub_cons rfl ((sub_cons rfl ((sub_cons rfl ((sub_cons rfl ((sub_cons rfl ((sub_cons rfl ((sub_nil _)))))))))))))) (List.Sublist.cons_cons _ (List.Sublist.cons_cons _ (List.Sublist.cons_cons _ (List.nil_sublist _))))
        · replace hq28 := of_decide_eq_false hq28
          have hs7 := hq28
          refine GC.skip ?_
          refine GE.thenN ?_
          refine GC.seq ?_
          refine GC.seq ?_
          refine GC.region ?_
          refine GL.val (v := (.int .i64 (((k / W : Nat) : Int)))) (Ex.move rfl) (by decide) ?_
          refine GL.val (v := (.pointer (some ⟨bq8, 1, none⟩))) (Ex.cast (Ex.fieldAddr rfl Try.underlying54 rfl T.sz3 (by decide)) rfl) (by decide) ?_
          refine GL.val (v := (.int .i64 ((unl W H xs ys n1).2.1))) (Ex.load rfl T.ag3 (i := 0) rfl rfl) (by decide) ?_
          refine GL.val (v := (.bool (decide ((((k / W : Nat) : Int)) = ((unl W H xs ys n1).2.1))))) (Ex.eql rfl rfl) (by decide) ?_
          refine GL.nil ?_
          refine GE.thenN ?_
          refine GC.cond rfl (fun hq32 => ?_) (fun hq32 => ?_)
          · replace hq32 := of_decide_eq_true hq32
            have hs8 := hq32
            refine GC.region ?_
            refine GL.val (v := (.int .i64 (sd (hit xs ys (fun j => decide (((j % W : Nat) : Int) = (unl W H xs ys n1).1)) k) (hit xs ys (fun j => decide (((j % W : Nat) : Int) = (unl W H xs ys n1).2.2.1 - 1)) k) (hit xs ys (fun j => decide (((j / W : Nat) : Int) = (unl W H xs ys n1).2.1)) k) (hit xs ys (fun j => decide (((j / W : Nat) : Int) = (unl W H xs ys n1).2.2.2 - 1)) k)))) (Ex.move rfl) (by decide) ?_
            refine GL.val (v := (.int .i64 (sd (hit xs ys (fun j => decide (((j % W : Nat) : Int) = (unl W H xs ys n1).1)) k) (hit xs ys (fun j => decide (((j % W : Nat) : Int) = (unl W H xs ys n1).2.2.1 - 1)) k) true (hit xs ys (fun j => decide (((j / W : Nat) : Int) = (unl W H xs ys n1).2.2.2 - 1)) k)))) (Ex.bits rfl rfl (by simp) (Z := sd (hit xs ys (fun j => decide (((j % W : Nat) : Int) = (unl W H xs ys n1).1)) k) (hit xs ys (fun j => decide (((j % W : Nat) : Int) = (unl W H xs ys n1).2.2.1 - 1)) k) true (hit xs ys (fun j => decide (((j / W : Nat) : Int) = (unl W H xs ys n1).2.2.2 - 1)) k)) (sd_or4 _ _ _ _)) (by decide) ?_
            refine GL.val (v := (.int .i64 (sd (hit xs ys (fun j => decide (((j % W : Nat) : Int) = (unl W H xs ys n1).1)) k) (hit xs ys (fun j => decide (((j % W : Nat) : Int) = (unl W H xs ys n1).2.2.1 - 1)) k) true (hit xs ys (fun j => decide (((j / W : Nat) : Int) = (unl W H xs ys n1).2.2.2 - 1)) k)))) (Ex.assign rfl) (by decide) ?_
            refine GL.nil ?_
            refine GE.thenN ?_
            refine GC.seq ?_
            refine GC.region ?_
            refine GL.val (v := (.int .i64 (((k / W : Nat) : Int)))) (Ex.move rfl) (by decide) ?_
            refine GL.val (v := (.pointer (some ⟨bq8, 3, none⟩))) (Ex.cast (Ex.fieldAddr rfl Try.underlying54 rfl T.sz3 (by decide)) rfl) (by decide) ?_
            refine GL.val (v := (.int .i64 ((unl W H xs ys n1).2.2.2))) (Ex.load rfl T.ag3 (i := 0) rfl rfl) (by decide) ?_
            refine GL.val (v := (.int .i64 (((unl W H xs ys n1).2.2.2) - 1))) (Ex.sub' rfl rfl (Z := ((unl W H xs ys n1).2.2.2) - 1) (w64 (by omega))) (by decide) ?_
            refine GL.val (v := (.bool (decide ((((k / W : Nat) : Int)) = (((unl W H xs ys n1).2.2.2) - 1))))) (Ex.eql rfl rfl) (by decide) ?_
            refine GL.nil ?_
            refine GE.thenN ?_
            refine GC.cond rfl (fun hq33 => ?_) (fun hq33 => ?_)
            · replace hq33 := of_decide_eq_true hq33
              have hs9 := hq33
              refine GC.region ?_
              refine GL.val (v := (.int .i64 (sd (hit xs ys (fun j => decide (((j % W : Nat) : Int) = (unl W H xs ys n1).1)) k) (hit xs ys (fun j => decide (((j % W : Nat) : Int) = (unl W H xs ys n1).2.2.1 - 1)) k) true (hit xs ys (fun j => decide (((j / W : Nat) : Int) = (unl W H xs ys n1).2.2.2 - 1)) k)))) (Ex.move rfl) (by decide) ?_
              refine GL.val (v := (.int .i64 (sd (hit xs ys (fun j => decide (((j % W : Nat) : Int) = (unl W H xs ys n1).1)) k) (hit xs ys (fun j => decide (((j % W : Nat) : Int) = (unl W H xs ys n1).2.2.1 - 1)) k) true true))) (Ex.bits rfl rfl (by simp) (Z := sd (hit xs ys (fun j => decide (((j % W : Nat) : Int) = (unl W H xs ys n1).1)) k) (hit xs ys (fun j => decide (((j % W : Nat) : Int) = (unl W H xs ys n1).2.2.1 - 1)) k) true true) (sd_or8 _ _ _ _)) (by decide) ?_
              refine GL.val (v := (.int .i64 (sd (hit xs ys (fun j => decide (((j % W : Nat) : Int) = (unl W H xs ys n1).1)) k) (hit xs ys (fun j => decide (((j % W : Nat) : Int) = (unl W H xs ys n1).2.2.1 - 1)) k) true true))) (Ex.assign rfl) (by decide) ?_
              refine GL.nil ?_
              refine GE.blockN ?_
              refine GE.thenN ?_
              refine GC.region ?_
              refine GL.val (v := (.int .i64 (((k : Nat) : Int)))) (Ex.move rfl) (by decide) ?_
              refine GL.val (v := (.int .i64 (((k + 1 : Nat) : Int)))) (Ex.add rfl rfl (Z := ((k + 1 : Nat) : Int)) (by rw [w64 (by omega)]; rfl)) (by decide) ?_
              refine GL.val (v := (.int .i64 (((k + 1 : Nat) : Int)))) (Ex.assign rfl) (by decide) ?_
              refine GL.nil ?_
              refine GE.thenN ?_
              rw [show sd (hit xs ys (fun j => decide (((j % W : Nat) : Int) = (unl W H xs ys n1).1)) k) (hit xs ys (fun j => decide (((j % W : Nat) : Int) = (unl W H xs ys n1).2.2.1 - 1)) k) true true = sd (hit xs ys (fun j => decide (((j % W : Nat) : Int) = (unl W H xs ys n1).1)) (k + 1)) (hit xs ys (fun j => decide (((j % W : Nat) : Int) = (unl W H xs ys n1).2.2.1 - 1)) (k + 1)) (hit xs ys (fun j => decide (((j / W : Nat) : Int) = (unl W H xs ys n1).2.1)) (k + 1)) (hit xs ys (fun j => decide (((j / W : Nat) : Int) = (unl W H xs ys n1).2.2.2 - 1)) (k + 1)) from by rw [hit_false (xs := xs) (ys := ys) (f := (fun j => decide (((j % W : Nat) : Int) = (unl W H xs ys n1).1))) (decide_eq_false hs6), hit_false (xs := xs) (ys := ys) (f := (fun j => decide (((j % W : Nat) : Int) = (unl W H xs ys n1).2.2.1 - 1))) (decide_eq_false hs7), hit_true (f := (fun j => decide (((j / W : Nat) : Int) = (unl W H xs ys n1).2.1))) hne (decide_eq_true hs8), hit_true (f := (fun j => decide (((j / W : Nat) : Int) = (unl W H xs ys n1).2.2.2 - 1))) hne (decide_eq_true hs9)]]
              exact Head.mk (k + 1) (by omega) (by omega) ((sub_cons rfl ((sub_cons rfl ((sub_cons rfl ((sub_cons rfl ((sub_cons rfl ((sub_cons rfl ((sub_nil _)))))))))))))) (List.Sublist.cons_cons _ (List.Sublist.cons_cons _ (List.Sublist.cons_cons _ (List.nil_sublist _))))
            · replace hq33 := of_decide_eq_false hq33
              have hs9 := hq33
              refine GC.skip ?_
              refine GE.blockN ?_
              refine GE.thenN ?_
              refine GC.region ?_
              refine GL.val (v := (.int .i64 (((k : Nat) : Int)))) (Ex.move rfl) (by decide) ?_
              refine GL.val (v := (.int .i64 (((k + 1 : Nat) : Int)))) (Ex.add rfl rfl (Z := ((k + 1 : Nat) : Int)) (by rw [w64 (by omega)]; rfl)) (by decide) ?_
              refine GL.val (v := (.int .i64 (((k + 1 : Nat) : Int)))) (Ex.assign rfl) (by decide) ?_
              refine GL.nil ?_
              refine GE.thenN ?_
              rw [show sd (hit xs ys (fun j => decide (((j % W : Nat) : Int) = (unl W H xs ys n1).1)) k) (hit xs ys (fun j => decide (((j % W : Nat) : Int) = (unl W H xs ys n1).2.2.1 - 1)) k) true (hit xs ys (fun j => decide (((j / W : Nat) : Int) = (unl W H xs ys n1).2.2.2 - 1)) k) = sd (hit xs ys (fun j => decide (((j % W : Nat) : Int) = (unl W H xs ys n1).1)) (k + 1)) (hit xs ys (fun j => decide (((j % W : Nat) : Int) = (unl W H xs ys n1).2.2.1 - 1)) (k + 1)) (hit xs ys (fun j => decide (((j / W : Nat) : Int) = (unl W H xs ys n1).2.1)) (k + 1)) (hit xs ys (fun j => decide (((j / W : Nat) : Int) = (unl W H xs ys n1).2.2.2 - 1)) (k + 1)) from by rw [hit_false (xs := xs) (ys := ys) (f := (fun j => decide (((j % W : Nat) : Int) = (unl W H xs ys n1).1))) (decide_eq_false hs6), hit_false (xs := xs) (ys := ys) (f := (fun j => decide (((j % W : Nat) : Int) = (unl W H xs ys n1).2.2.1 - 1))) (decide_eq_false hs7), hit_true (f := (fun j => decide (((j / W : Nat) : Int) = (unl W H xs ys n1).2.1))) hne (decide_eq_true hs8), hit_false (xs := xs) (ys := ys) (f := (fun j => decide (((j / W : Nat) : Int) = (unl W H xs ys n1).2.2.2 - 1))) (decide_eq_false hs9)]]
              exact Head.mk (k + 1) (by omega) (by omega) ((sub_cons rfl ((sub_cons rfl ((sub_cons rfl ((sub_cons rfl ((sub_cons rfl ((sub_cons rfl ((sub_nil _)))))))))))))) (List.Sublist.cons_cons _ (List.Sublist.cons_cons _ (List.Sublist.cons_cons _ (List.nil_sublist _))))
          · replace hq32 := of_decide_eq_false hq32
            have hs8 := hq32
            refine GC.skip ?_
            refine GE.thenN ?_
            refine GC.seq ?_
            refine GC.region ?_
            refine GL.val (v := (.int .i64 (((k / W : Nat) : Int)))) (Ex.move rfl) (by decide) ?_
            refine GL.val (v := (.pointer (some ⟨bq8, 3, none⟩))) (Ex.cast (Ex.fieldAddr rfl Try.underlying54 rfl T.sz3 (by decide)) rfl) (by decide) ?_
            refine GL.val (v := (.int .i64 ((unl W H xs ys n1).2.2.2))) (Ex.load rfl T.ag3 (i := 0) rfl rfl) (by decide) ?_
            refine GL.val (v := (.int .i64 (((unl W H xs ys n1).2.2.2) - 1))) (Ex.sub' rfl rfl (Z := ((unl W H xs ys n1).2.2.2) - 1) (w64 (by omega))) (by decide) ?_
            refine GL.val (v := (.bool (decide ((((k / W : Nat) : Int)) = (((unl W H xs ys n1).2.2.2) - 1))))) (Ex.eql rfl rfl) (by decide) ?_
            refine GL.nil ?_
            refine GE.thenN ?_
            refine GC.cond rfl (fun hq34 => ?_) (fun hq34 => ?_)
            · replace hq34 := of_decide_eq_true hq34
              have hs9 := hq34
              refine GC.region ?_
              refine GL.val (v := (.int .i64 (sd (hit xs ys (fun j => decide (((j % W : Nat) : Int) = (unl W H xs ys n1).1)) k) (hit xs ys (fun j => decide (((j % W : Nat) : Int) = (unl W H xs ys n1).2.2.1 - 1)) k) (hit xs ys (fun j => decide (((j / W : Nat) : Int) = (unl W H xs ys n1).2.1)) k) (hit xs ys (fun j => decide (((j / W : Nat) : Int) = (unl W H xs ys n1).2.2.2 - 1)) k)))) (Ex.move rfl) (by decide) ?_
              refine GL.val (v := (.int .i64 (sd (hit xs ys (fun j => decide (((j % W : Nat) : Int) = (unl W H xs ys n1).1)) k) (hit xs ys (fun j => decide (((j % W : Nat) : Int) = (unl W H xs ys n1).2.2.1 - 1)) k) (hit xs ys (fun j => decide (((j / W : Nat) : Int) = (unl W H xs ys n1).2.1)) k) true))) (Ex.bits rfl rfl (by simp) (Z := sd (hit xs ys (fun j => decide (((j % W : Nat) : Int) = (unl W H xs ys n1).1)) k) (hit xs ys (fun j => decide (((j % W : Nat) : Int) = (unl W H xs ys n1).2.2.1 - 1)) k) (hit xs ys (fun j => decide (((j / W : Nat) : Int) = (unl W H xs ys n1).2.1)) k) true) (sd_or8 _ _ _ _)) (by decide) ?_
              refine GL.val (v := (.int .i64 (sd (hit xs ys (fun j => decide (((j % W : Nat) : Int) = (unl W H xs ys n1).1)) k) (hit xs ys (fun j => decide (((j % W : Nat) : Int) = (unl W H xs ys n1).2.2.1 - 1)) k) (hit xs ys (fun j => decide (((j / W : Nat) : Int) = (unl W H xs ys n1).2.1)) k) true))) (Ex.assign rfl) (by decide) ?_
              refine GL.nil ?_
              refine GE.blockN ?_
              refine GE.thenN ?_
              refine GC.region ?_
              refine GL.val (v := (.int .i64 (((k : Nat) : Int)))) (Ex.move rfl) (by decide) ?_
              refine GL.val (v := (.int .i64 (((k + 1 : Nat) : Int)))) (Ex.add rfl rfl (Z := ((k + 1 : Nat) : Int)) (by rw [w64 (by omega)]; rfl)) (by decide) ?_
              refine GL.val (v := (.int .i64 (((k + 1 : Nat) : Int)))) (Ex.assign rfl) (by decide) ?_
              refine GL.nil ?_
              refine GE.thenN ?_
              rw [show sd (hit xs ys (fun j => decide (((j % W : Nat) : Int) = (unl W H xs ys n1).1)) k) (hit xs ys (fun j => decide (((j % W : Nat) : Int) = (unl W H xs ys n1).2.2.1 - 1)) k) (hit xs ys (fun j => decide (((j / W : Nat) : Int) = (unl W H xs ys n1).2.1)) k) true = sd (hit xs ys (fun j => decide (((j % W : Nat) : Int) = (unl W H xs ys n1).1)) (k + 1)) (hit xs ys (fun j => decide (((j % W : Nat) : Int) = (unl W H xs ys n1).2.2.1 - 1)) (k + 1)) (hit xs ys (fun j => decide (((j / W : Nat) : Int) = (unl W H xs ys n1).2.1)) (k + 1)) (hit xs ys (fun j => decide (((j / W : Nat) : Int) = (unl W H xs ys n1).2.2.2 - 1)) (k + 1)) from by rw [hit_false (xs := xs) (ys := ys) (f := (fun j => decide (((j % W : Nat) : Int) = (unl W H xs ys n1).1))) (decide_eq_false hs6), hit_false (xs := xs) (ys := ys) (f := (fun j => decide (((j % W : Nat) : Int) = (unl W H xs ys n1).2.2.1 - 1))) (decide_eq_false hs7), hit_false (xs := xs) (ys := ys) (f := (fun j => decide (((j / W : Nat) : Int) = (unl W H xs ys n1).2.1))) (decide_eq_false hs8), hit_true (f := (fun j => decide (((j / W : Nat) : Int) = (unl W H xs ys n1).2.2.2 - 1))) hne (decide_eq_true hs9)]]
              exact Head.mk (k + 1) (by omega) (by omega) ((sub_cons rfl ((sub_cons rfl ((sub_cons rfl ((sub_cons rfl ((sub_cons rfl ((sub_cons rfl ((sub_nil _)))))))))))))) (List.Sublist.cons_cons _ (List.Sublist.cons_cons _ (List.Sublist.cons_cons _ (List.nil_sublist _))))
            · replace hq34 := of_decide_eq_false hq34
              have hs9 := hq34
              refine GC.skip ?_
              refine GE.blockN ?_
              refine GE.thenN ?_
              refine GC.region ?_
              refine GL.val (v := (.int .i64 (((k : Nat) : Int)))) (Ex.move rfl) (by decide) ?_
              refine GL.val (v := (.int .i64 (((k + 1 : Nat) : Int)))) (Ex.add rfl rfl (Z := ((k + 1 : Nat) : Int)) (by rw [w64 (by omega)]; rfl)) (by decide) ?_
              refine GL.val (v := (.int .i64 (((k + 1 : Nat) : Int)))) (Ex.assign rfl) (by decide) ?_
              refine GL.nil ?_
              refine GE.thenN ?_
              rw [show sd (hit xs ys (fun j => decide (((j % W : Nat) : Int) = (unl W H xs ys n1).1)) k) (hit xs ys (fun j => decide (((j % W : Nat) : Int) = (unl W H xs ys n1).2.2.1 - 1)) k) (hit xs ys (fun j => decide (((j / W : Nat) : Int) = (unl W H xs ys n1).2.1)) k) (hit xs ys (fun j => decide (((j / W : Nat) : Int) = (unl W H xs ys n1).2.2.2 - 1)) k) = sd (hit xs ys (fun j => decide (((j % W : Nat) : Int) = (unl W H xs ys n1).1)) (k + 1)) (hit xs ys (fun j => decide (((j % W : Nat) : Int) = (unl W H xs ys n1).2.2.1 - 1)) (k + 1)) (hit xs ys (fun j => decide (((j / W : Nat) : Int) = (unl W H xs ys n1).2.1)) (k + 1)) (hit xs ys (fun j => decide (((j / W : Nat) : Int) = (unl W H xs ys n1).2.2.2 - 1)) (k + 1)) from by rw [hit_false (xs := xs) (ys := ys) (f := (fun j => decide (((j % W : Nat) : Int) = (unl W H xs ys n1).1))) (decide_eq_false hs6), hit_false (xs := xs) (ys := ys) (f := (fun j => decide (((j % W : Nat) : Int) = (unl W H xs ys n1).2.2.1 - 1))) (decide_eq_false hs7), hit_false (xs := xs) (ys := ys) (f := (fun j => decide (((j / W : Nat) : Int) = (unl W H xs ys n1).2.1))) (decide_eq_false hs8), hit_false (xs := xs) (ys := ys) (f := (fun j => decide (((j / W : Nat) : Int) = (unl W H xs ys n1).2.2.2 - 1))) (decide_eq_false hs9)]]
              exact Head.mk (k + 1) (by omega) (by omega) ((sub_cons rfl ((sub_cons rfl ((sub_cons rfl ((sub_cons rfl ((sub_cons rfl ((sub_cons rfl ((sub_nil _)))))))))))))) (List.Sublist.cons_cons _ (List.Sublist.cons_cons _ (List.Sublist.cons_cons _ (List.nil_sublist _))))
  · replace hq17 := of_decide_eq_false hq17
    refine GC.exit ?_
    refine GE.thenE ?_
    refine GE.thenE ?_
    refine GE.blockE ?_
    refine GE.thenN ?_
    refine GC.seq ?_
    refine GC.region ?_
    refine GL.val (v := (.int .i64 (sd (hit xs ys (fun j => decide (((j % W : Nat) : Int) = (unl W H xs ys n1).1)) k) (hit xs ys (fun j => decide (((j % W : Nat) : Int) = (unl W H xs ys n1).2.2.1 - 1)) k) (hit xs ys (fun j => decide (((j / W : Nat) : Int) = (unl W H xs ys n1).2.1)) k) (hit xs ys (fun j => decide (((j / W : Nat) : Int) = (unl W H xs ys n1).2.2.2 - 1)) k)))) (Ex.move rfl) (by decide) ?_
    refine GL.val (v := (.bool (decide ((sd (hit xs ys (fun j => decide (((j % W : Nat) : Int) = (unl W H xs ys n1).1)) k) (hit xs ys (fun j => decide (((j % W : Nat) : Int) = (unl W H xs ys n1).2.2.1 - 1)) k) (hit xs ys (fun j => decide (((j / W : Nat) : Int) = (unl W H xs ys n1).2.1)) k) (hit xs ys (fun j => decide (((j / W : Nat) : Int) = (unl W H xs ys n1).2.2.2 - 1)) k)) = 15)))) (Ex.eql rfl rfl) (by decide) ?_
    refine GL.val (v := (.bool (decide ((sd (hit xs ys (fun j => decide (((j % W : Nat) : Int) = (unl W H xs ys n1).1)) k) (hit xs ys (fun j => decide (((j % W : Nat) : Int) = (unl W H xs ys n1).2.2.1 - 1)) k) (hit xs ys (fun j => decide (((j / W : Nat) : Int) = (unl W H xs ys n1).2.1)) k) (hit xs ys (fun j => decide (((j / W : Nat) : Int) = (unl W H xs ys n1).2.2.2 - 1)) k)) = 15)))) (Ex.assign rfl) (by decide) ?_
    refine GL.nil ?_
    refine GE.thenN ?_
    refine GC.ret ?_
    refine GC.ret1 rfl (Rv.tmp rfl) (fun wN HN => ?_)
    have ek : k = n1 := by omega
    obtain ⟨⟨j1, a1, a2, a3⟩, ⟨j2, c1, c2, c3⟩, ⟨j3, d1, d2, d3⟩, ⟨j4, e1, e2, e3⟩⟩ := hmt
    exact HN.ret () trivial (congrArg Value.bool (by rw [ek, hit_of a1 a2 (decide_eq_true a3), hit_of d1 d2 (decide_eq_true (by omega)), hit_of c1 c2 (decide_eq_true c3), hit_of e1 e2 (decide_eq_true (by omega))]; rfl)) (List.nil_sublist _) rfl

set_option maxRecDepth 100000 in
set_option maxHeartbeats 1000000 in
theorem where_eq (W H b1 o1 n1 cap1 b2 o2 n2 cap2 : Nat) (xs ys : List Int) (w : World) (hok : okP W H) (hn : n1 = W * H) (hn2 : n2 = W * H) (h1 : Lst w (some ⟨b1, o1, none⟩) n1 xs) (h2 : Lst w (some ⟨b2, o2, none⟩) n2 ys) (hr1 : Rd w b1 o1 (xs.map u32)) (hr2 : Rd w b2 o2 (ys.map u32)) (hxy : xs = ys) :
    Calls Try.prog 12 #[(.agg #[(.int .i64 ((W : Int))), (.int .i64 ((H : Int))), (.slice (some ⟨b1, o1, none⟩) n1 cap1)]), (.agg #[(.int .i64 ((W : Int))), (.int .i64 ((H : Int))), (.slice (some ⟨b2, o2, none⟩) n2 cap2)])] w (Ret w (fun _ : Unit => True) (fun _ => .bool true) (fun _ => [])) := by
  refine enter (M := None) (L := []) (n := 156) (l := [(0, (.agg #[(.int .i64 ((W : Int))), (.int .i64 ((H : Int))), (.slice (some ⟨b1, o1, none⟩) n1 cap1)])), (1, (.agg #[(.int .i64 ((W : Int))), (.int .i64 ((H : Int))), (.slice (some ⟨b2, o2, none⟩) n2 cap2)]))]) Try.func12 rfl rfl (Args.cons rfl (Args.cons rfl (Args.nil _))) (Hp.start _ _) ?_
  refine GC.seq ?_
  refine GC.region ?_
  refine GL.step (Stp.box (cs := [(.int .i64 ((W : Int))), (.int .i64 ((H : Int))), (.slice (some ⟨b1, o1, none⟩) n1 cap1)]) rfl rfl (by decide)) (fun bq1 _ => ?_)
  refine GL.step (Stp.box (cs := [(.int .i64 ((W : Int))), (.int .i64 ((H : Int))), (.slice (some ⟨b2, o2, none⟩) n2 cap2)]) rfl rfl (by decide)) (fun bq2 _ => ?_)
  refine GL.val (v := (.bool false)) (Ex.assign rfl) (by decide) ?_
  refine GL.nil ?_
  refine GE.thenN ?_
  refine GC.seq ?_
  refine GC.seq ?_
  refine GC.region ?_
  refine GL.step (Stp.callR (σ := Unit) (p := fun rz => True) (v := fun rz => (.bool true)) (N := fun rz => []) (vs := []) rfl rfl T.own13 (by decide) (fun wc hw => known wc)) (fun xq3 hq4 => ?_)
  refine GL.val (v := (.bool false)) (Ex.cast (Ex.not rfl) rfl) (by decide) ?_
  refine GL.nil ?_
  refine GE.thenN ?_
  refine GC.cond rfl (fun hq5 => by cases hq5) (fun _ => ?_)
  refine GC.skip ?_
  refine GE.thenN ?_
  refine GC.seq ?_
  refine GC.region ?_
  refine GL.val (v := (.agg #[(.int .i64 ((W : Int))), (.int .i64 ((H : Int))), (.slice (some ⟨b1, o1, none⟩) n1 cap1)])) (Ex.loadA rfl T.ag32 T.sz32 (i := 1) rfl (vs := [(.int .i64 ((W : Int))), (.int .i64 ((H : Int))), (.slice (some ⟨b1, o1, none⟩) n1 cap1)]) rfl rfl) (by decide) ?_
  refine GL.val (v := (.agg #[(.int .i64 ((W : Int))), (.int .i64 ((H : Int))), (.slice (some ⟨b2, o2, none⟩) n2 cap2)])) (Ex.loadA rfl T.ag32 T.sz32 (i := 0) rfl (vs := [(.int .i64 ((W : Int))), (.int .i64 ((H : Int))), (.slice (some ⟨b2, o2, none⟩) n2 cap2)]) rfl rfl) (by decide) ?_
  refine GL.step (Stp.callR (σ := Unit) (p := fun rz => True) (v := fun rz => (.tuple #[(.agg #[(.int .i64 0), (.int .i64 0), (.int .i64 0), (.int .i64 0)]), (.bool false)])) (N := fun rz => []) (vs := [(.agg #[(.int .i64 ((W : Int))), (.int .i64 ((H : Int))), (.slice (some ⟨b1, o1, none⟩) n1 cap1)]), (.agg #[(.int .i64 ((W : Int))), (.int .i64 ((H : Int))), (.slice (some ⟨b2, o2, none⟩) n2 cap2)])]) rfl rfl T.own41 (by decide) (fun wc hw => unlike_eq W H b1 o1 n1 cap1 b2 o2 n2 cap2 xs ys wc hok hn hn2 (h1.later hw.1) (h2.later hw.1) (hw.rd hr1 (fun x => x)) (hw.rd hr2 (fun x => x)) hxy)) (fun xq6 hq7 => ?_)
  refine GL.val (v := (.tuple #[(.agg #[(.int .i64 0), (.int .i64 0), (.int .i64 0), (.int .i64 0)]), (.bool false)])) (Ex.move rfl) (by decide) ?_
  refine GL.val (v := (.agg #[(.int .i64 0), (.int .i64 0), (.int .i64 0), (.int .i64 0)])) (Ex.extract rfl rfl) (by decide) ?_
  refine GL.val (v := (.bool false)) (Ex.extract rfl rfl) (by decide) ?_
  refine GL.step (Stp.alloc T.zr54 (by decide)) (fun bq8 _ => ?_)
  refine GL.step (Stp.storeL (i := 0) (L1 := [⟨bq8, [(.int .i64 0), (.int .i64 0), (.int .i64 0), (.int .i64 0)], 54, true⟩, ⟨bq2, [(.int .i64 ((W : Int))), (.int .i64 ((H : Int))), (.slice (some ⟨b2, o2, none⟩) n2 cap2)], 32, true⟩, ⟨bq1, [(.int .i64 ((W : Int))), (.int .i64 ((H : Int))), (.slice (some ⟨b1, o1, none⟩) n1 cap1)], 32, true⟩]) rfl rfl rfl T.sz54 rfl rfl rfl rfl) (fun _ _ => ?_)
  refine GL.val (v := (.bool false)) (Ex.assign rfl) (by decide) ?_
  refine GL.nil ?_
  refine GE.thenN ?_
  refine GC.seq ?_
  refine GC.seq ?_
  refine GC.region ?_
  refine GL.val (v := (.bool false)) (Ex.move rfl) (by decide) ?_
  refine GL.val (v := (.bool true)) (Ex.cast (Ex.not rfl) rfl) (by decide) ?_
  refine GL.nil ?_
  refine GE.thenN ?_
  refine GC.cond rfl (fun _ => ?_) (fun hq9 => by cases hq9)
  refine GC.seq ?_
  refine GC.region ?_
  refine GL.val (v := (.agg #[(.int .i64 0), (.int .i64 0), (.int .i64 0), (.int .i64 0)])) (Ex.loadA rfl T.ag54 T.sz54 (i := 0) rfl (vs := [(.int .i64 0), (.int .i64 0), (.int .i64 0), (.int .i64 0)]) rfl rfl) (by decide) ?_
  refine GL.val (v := (.agg #[(.int .i64 0), (.int .i64 0), (.int .i64 0), (.int .i64 0)])) (Ex.build (vs := []) rfl (by first | rfl | kernel_rfl)) (by decide) ?_
  refine GL.val (v := (.bool true)) (Ex.eqS rfl rfl T.sfs54 (EqFs.cons rfl rfl (EqC.int Try.underlying3) (EqFs.cons rfl rfl (EqC.int Try.underlying3) (EqFs.cons rfl rfl (EqC.int Try.underlying3) (EqFs.cons rfl rfl (EqC.int Try.underlying3) EqFs.nil)))) (by simp [Bool.decide_and])) (by decide) ?_
  refine GL.val (v := (.bool true)) (Ex.move rfl) (by decide) ?_
  refine GL.stepG (tj := 24) rfl rfl (Ex.wp (v := (.agg #[(.int .i64 ((W : Int))), (.int .i64 ((H : Int))), (.slice (some ⟨b1, o1, none⟩) n1 cap1)])) (Ex.loadA rfl T.ag32 T.sz32 (i := 2) rfl (vs := [(.int .i64 ((W : Int))), (.int .i64 ((H : Int))), (.slice (some ⟨b1, o1, none⟩) n1 cap1)]) rfl rfl) (by decide)) (fun _ _ => ?_)
  refine GL.stepG (tj := 24) rfl rfl (Stp.callR (σ := Unit) (p := fun rz => True) (v := fun rz => (.int .i64 0)) (N := fun rz => []) (vs := [(.agg #[(.int .i64 ((W : Int))), (.int .i64 ((H : Int))), (.slice (some ⟨b1, o1, none⟩) n1 cap1)])]) rfl rfl T.own35 (by decide) (fun wc hw => (by have h := ref_check W H (some ⟨b1, o1, none⟩) n1 cap1 wc; rw [show chk W H n1 = 0 from by rw [hn]; exact chk_ok hok] at h; exact h))) (fun xq10 hq11 => ?_)
  refine GL.stepG (tj := 24) rfl rfl (Ex.wp (v := (.bool false)) (Ex.cast (Ex.neq rfl rfl) rfl) (by decide)) (fun _ _ => ?_)
  refine GL.stepG (tj := 24) rfl rfl (Ex.wp (v := (.bool false)) (Ex.move rfl) (by decide)) (fun _ _ => ?_)
  refine GL.stepG (tj := 28) rfl rfl (Ex.wp (v := (.agg #[(.int .i64 ((W : Int))), (.int .i64 ((H : Int))), (.slice (some ⟨b2, o2, none⟩) n2 cap2)])) (Ex.loadA rfl T.ag32 T.sz32 (i := 1) rfl (vs := [(.int .i64 ((W : Int))), (.int .i64 ((H : Int))), (.slice (some ⟨b2, o2, none⟩) n2 cap2)]) rfl rfl) (by decide)) (fun _ _ => ?_)
  refine GL.stepG (tj := 28) rfl rfl (Stp.callR (σ := Unit) (p := fun rz => True) (v := fun rz => (.int .i64 0)) (N := fun rz => []) (vs := [(.agg #[(.int .i64 ((W : Int))), (.int .i64 ((H : Int))), (.slice (some ⟨b2, o2, none⟩) n2 cap2)])]) rfl rfl T.own35 (by decide) (fun wc hw => (by have h := ref_check W H (some ⟨b2, o2, none⟩) n2 cap2 wc; rw [show chk W H n2 = 0 from by rw [hn2]; exact chk_ok hok] at h; exact h))) (fun xq12 hq13 => ?_)
  refine GL.stepG (tj := 28) rfl rfl (Ex.wp (v := (.bool false)) (Ex.cast (Ex.neq rfl rfl) rfl) (by decide)) (fun _ _ => ?_)
  refine GL.stepG (tj := 24) rfl rfl (Ex.wp (v := (.bool false)) (Ex.pickF rfl rfl) (by decide)) (fun _ _ => ?_)
  refine GL.stepG (tj := 24) rfl rfl (Ex.wp (v := (.bool false)) (Ex.move rfl) (by decide)) (fun _ _ => ?_)
  refine GL.stepG (tj := 33) rfl rfl (Ex.wp (v := (.pointer (some ⟨bq1, 0, none⟩))) (Ex.cast (Ex.fieldAddr rfl Try.underlying32 rfl T.sz3 (by decide)) rfl) (by decide)) (fun _ _ => ?_)
  refine GL.stepG (tj := 33) rfl rfl (Ex.wp (v := (.int .i64 ((W : Int)))) (Ex.load rfl T.ag3 (i := 2) rfl rfl) (by decide)) (fun _ _ => ?_)
  refine GL.stepG (tj := 33) rfl rfl (Ex.wp (v := (.pointer (some ⟨bq2, 0, none⟩))) (Ex.cast (Ex.fieldAddr rfl Try.underlying32 rfl T.sz3 (by decide)) rfl) (by decide)) (fun _ _ => ?_)
  refine GL.stepG (tj := 33) rfl rfl (Ex.wp (v := (.int .i64 ((W : Int)))) (Ex.load rfl T.ag3 (i := 1) rfl rfl) (by decide)) (fun _ _ => ?_)
  refine GL.stepG (tj := 33) rfl rfl (Ex.wp (v := (.bool false)) (Ex.cast (Ex.neq rfl rfl) (congrArg Value.bool (decide_eq_false (by simp)))) (by decide)) (fun _ _ => ?_)
  refine GL.stepG (tj := 24) rfl rfl (Ex.wp (v := (.bool false)) (Ex.pickF rfl rfl) (by decide)) (fun _ _ => ?_)
  refine GL.stepG (tj := 24) rfl rfl (Ex.wp (v := (.bool false)) (Ex.move rfl) (by decide)) (fun _ _ => ?_)
  refine GL.stepG (tj := 40) rfl rfl (Ex.wp (v := (.pointer (some ⟨bq1, 1, none⟩))) (Ex.cast (Ex.fieldAddr rfl Try.underlying32 rfl T.sz3 (by decide)) rfl) (by decide)) (fun _ _ => ?_)
  refine GL.stepG (tj := 40) rfl rfl (Ex.wp (v := (.int .i64 ((H : Int)))) (Ex.load rfl T.ag3 (i := 2) rfl rfl) (by decide)) (fun _ _ => ?_)
  refine GL.stepG (tj := 40) rfl rfl (Ex.wp (v := (.pointer (some ⟨bq2, 1, none⟩))) (Ex.cast (Ex.fieldAddr rfl Try.underlying32 rfl T.sz3 (by decide)) rfl) (by decide)) (fun _ _ => ?_)
  refine GL.stepG (tj := 40) rfl rfl (Ex.wp (v := (.int .i64 ((H : Int)))) (Ex.load rfl T.ag3 (i := 1) rfl rfl) (by decide)) (fun _ _ => ?_)
  refine GL.stepG (tj := 40) rfl rfl (Ex.wp (v := (.bool false)) (Ex.cast (Ex.neq rfl rfl) (congrArg Value.bool (decide_eq_false (by simp)))) (by decide)) (fun _ _ => ?_)
  refine GL.stepG (tj := 24) rfl rfl (Ex.wp (v := (.bool false)) (Ex.pickF rfl rfl) (by decide)) (fun _ _ => ?_)
  refine GL.stepG (tj := 24) rfl rfl (Ex.wp (v := (.bool false)) (Ex.move rfl) (by decide)) (fun _ _ => ?_)
  refine GL.stepG (tj := 47) rfl rfl (Ex.wp (v := (.agg #[(.int .i64 ((W : Int))), (.int .i64 ((H : Int))), (.slice (some ⟨b1, o1, none⟩) n1 cap1)])) (Ex.loadA rfl T.ag32 T.sz32 (i := 2) rfl (vs := [(.int .i64 ((W : Int))), (.int .i64 ((H : Int))), (.slice (some ⟨b1, o1, none⟩) n1 cap1)]) rfl rfl) (by decide)) (fun _ _ => ?_)
  refine GL.stepG (tj := 47) rfl rfl (Ex.wp (v := (.agg #[(.int .i64 ((W : Int))), (.int .i64 ((H : Int))), (.slice (some ⟨b2, o2, none⟩) n2 cap2)])) (Ex.loadA rfl T.ag32 T.sz32 (i := 1) rfl (vs := [(.int .i64 ((W : Int))), (.int .i64 ((H : Int))), (.slice (some ⟨b2, o2, none⟩) n2 cap2)]) rfl rfl) (by decide)) (fun _ _ => ?_)
  refine GL.stepG (tj := 47) rfl rfl (Stp.callR (σ := Unit) (p := fun rz => True) (v := fun rz => (.bool true)) (N := fun rz => []) (vs := [(.agg #[(.int .i64 ((W : Int))), (.int .i64 ((H : Int))), (.slice (some ⟨b1, o1, none⟩) n1 cap1)]), (.agg #[(.int .i64 ((W : Int))), (.int .i64 ((H : Int))), (.slice (some ⟨b2, o2, none⟩) n2 cap2)])]) rfl rfl T.own43 (by decide) (fun wc hw => (by have h := eq_p W H (some ⟨b1, o1, none⟩) n1 cap1 W H (some ⟨b2, o2, none⟩) n2 cap2 xs ys wc (h1.later hw.1) (h2.later hw.1); rw [show eqB W H xs W H ys = true from eqB_self rfl rfl hxy] at h; exact h))) (fun xq14 hq15 => ?_)
  refine GL.stepG (tj := 24) rfl rfl (Ex.wp (v := (.bool true)) (Ex.pickF rfl rfl) (by decide)) (fun _ _ => ?_)
  refine GL.val (v := (.bool true)) (Ex.pickT rfl rfl) (by decide) ?_
  refine GL.val (v := (.bool true)) (Ex.assign rfl) (by decide) ?_
  refine GL.nil ?_
  refine GE.thenN ?_
  refine GC.ret ?_
  refine GE.thenR ?_
  refine GC.ret1 rfl (Rv.tmp rfl) (fun wN HN => ?_)
  exact HN.ret () trivial rfl (List.nil_sublist _) rfl

set_option maxRecDepth 100000 in
set_option maxHeartbeats 1000000 in
theorem where_bad (W1 H1 : Int) (ad1 : Option Addr) (n1 cap1 : Nat) (W2 H2 : Int) (ad2 : Option Addr) (n2 cap2 : Nat) (w : World) (hc : chk W1 H1 n1 ≠ 0 ∨ chk W2 H2 n2 ≠ 0 ∨ W1 ≠ W2 ∨ H1 ≠ H2) :
    Calls Try.prog 12 #[(.agg #[(.int .i64 W1), (.int .i64 H1), (.slice ad1 n1 cap1)]), (.agg #[(.int .i64 W2), (.int .i64 H2), (.slice ad2 n2 cap2)])] w (Ret w (fun _ : Unit => True) (fun _ => .bool true) (fun _ => [])) := by
  refine enter (M := None) (L := []) (n := 156) (l := [(0, (.agg #[(.int .i64 W1), (.int .i64 H1), (.slice ad1 n1 cap1)])), (1, (.agg #[(.int .i64 W2), (.int .i64 H2), (.slice ad2 n2 cap2)]))]) Try.func12 rfl rfl (Args.cons rfl (Args.cons rfl (Args.nil _))) (Hp.start _ _) ?_
  refine GC.seq ?_
  refine GC.region ?_
  refine GL.step (Stp.box (cs := [(.int .i64 W1), (.int .i64 H1), (.slice ad1 n1 cap1)]) rfl rfl (by decide)) (fun bq1 _ => ?_)
  refine GL.step (Stp.box (cs := [(.int .i64 W2), (.int .i64 H2), (.slice ad2 n2 cap2)]) rfl rfl (by decide)) (fun bq2 _ => ?_)
  refine GL.val (v := (.bool false)) (Ex.assign rfl) (by decide) ?_
  refine GL.nil ?_
  refine GE.thenN ?_
  refine GC.seq ?_
  refine GC.seq ?_
  refine GC.region ?_
  refine GL.step (Stp.callR (σ := Unit) (p := fun rz => True) (v := fun rz => (.bool true)) (N := fun rz => []) (vs := []) rfl rfl T.own13 (by decide) (fun wc hw => known wc)) (fun xq3 hq4 => ?_)
  refine GL.val (v := (.bool false)) (Ex.cast (Ex.not rfl) rfl) (by decide) ?_
  refine GL.nil ?_
  refine GE.thenN ?_
  refine GC.cond rfl (fun hq5 => by cases hq5) (fun _ => ?_)
  refine GC.skip ?_
  refine GE.thenN ?_
  refine GC.seq ?_
  refine GC.region ?_
  refine GL.val (v := (.agg #[(.int .i64 W1), (.int .i64 H1), (.slice ad1 n1 cap1)])) (Ex.loadA rfl T.ag32 T.sz32 (i := 1) rfl (vs := [(.int .i64 W1), (.int .i64 H1), (.slice ad1 n1 cap1)]) rfl rfl) (by decide) ?_
  refine GL.val (v := (.agg #[(.int .i64 W2), (.int .i64 H2), (.slice ad2 n2 cap2)])) (Ex.loadA rfl T.ag32 T.sz32 (i := 0) rfl (vs := [(.int .i64 W2), (.int .i64 H2), (.slice ad2 n2 cap2)]) rfl rfl) (by decide) ?_
  refine GL.step (Stp.callR (σ := Unit) (p := fun rz => True) (v := fun rz => (.tuple #[(.agg #[(.int .i64 0), (.int .i64 0), (.int .i64 0), (.int .i64 0)]), (.bool false)])) (N := fun rz => []) (vs := [(.agg #[(.int .i64 W1), (.int .i64 H1), (.slice ad1 n1 cap1)]), (.agg #[(.int .i64 W2), (.int .i64 H2), (.slice ad2 n2 cap2)])]) rfl rfl T.own41 (by decide) (fun wc hw => unlike_bad W1 H1 ad1 n1 cap1 W2 H2 ad2 n2 cap2 wc hc)) (fun xq6 hq7 => ?_)
  refine GL.val (v := (.tuple #[(.agg #[(.int .i64 0), (.int .i64 0), (.int .i64 0), (.int .i64 0)]), (.bool false)])) (Ex.move rfl) (by decide) ?_
  refine GL.val (v := (.agg #[(.int .i64 0), (.int .i64 0), (.int .i64 0), (.int .i64 0)])) (Ex.extract rfl rfl) (by decide) ?_
  refine GL.val (v := (.bool false)) (Ex.extract rfl rfl) (by decide) ?_
  refine GL.step (Stp.alloc T.zr54 (by decide)) (fun bq8 _ => ?_)
  refine GL.step (Stp.storeL (i := 0) (L1 := [⟨bq8, [(.int .i64 0), (.int .i64 0), (.int .i64 0), (.int .i64 0)], 54, true⟩, ⟨bq2, [(.int .i64 W2), (.int .i64 H2), (.slice ad2 n2 cap2)], 32, true⟩, ⟨bq1, [(.int .i64 W1), (.int .i64 H1), (.slice ad1 n1 cap1)], 32, true⟩]) rfl rfl rfl T.sz54 rfl rfl rfl rfl) (fun _ _ => ?_)
  refine GL.val (v := (.bool false)) (Ex.assign rfl) (by decide) ?_
  refine GL.nil ?_
  refine GE.thenN ?_
  refine GC.seq ?_
  refine GC.seq ?_
  refine GC.region ?_
  refine GL.val (v := (.bool false)) (Ex.move rfl) (by decide) ?_
  refine GL.val (v := (.bool true)) (Ex.cast (Ex.not rfl) rfl) (by decide) ?_
  refine GL.nil ?_
  refine GE.thenN ?_
  refine GC.cond rfl (fun _ => ?_) (fun hq9 => by cases hq9)
  refine GC.seq ?_
  refine GC.region ?_
  refine GL.val (v := (.agg #[(.int .i64 0), (.int .i64 0), (.int .i64 0), (.int .i64 0)])) (Ex.loadA rfl T.ag54 T.sz54 (i := 0) rfl (vs := [(.int .i64 0), (.int .i64 0), (.int .i64 0), (.int .i64 0)]) rfl rfl) (by decide) ?_
  refine GL.val (v := (.agg #[(.int .i64 0), (.int .i64 0), (.int .i64 0), (.int .i64 0)])) (Ex.build (vs := []) rfl (by first | rfl | kernel_rfl)) (by decide) ?_
  refine GL.val (v := (.bool true)) (Ex.eqS rfl rfl T.sfs54 (EqFs.cons rfl rfl (EqC.int Try.underlying3) (EqFs.cons rfl rfl (EqC.int Try.underlying3) (EqFs.cons rfl rfl (EqC.int Try.underlying3) (EqFs.cons rfl rfl (EqC.int Try.underlying3) EqFs.nil)))) (by simp [Bool.decide_and])) (by decide) ?_
  refine GL.val (v := (.bool true)) (Ex.move rfl) (by decide) ?_
  refine GL.stepG (tj := 24) rfl rfl (Ex.wp (v := (.agg #[(.int .i64 W1), (.int .i64 H1), (.slice ad1 n1 cap1)])) (Ex.loadA rfl T.ag32 T.sz32 (i := 2) rfl (vs := [(.int .i64 W1), (.int .i64 H1), (.slice ad1 n1 cap1)]) rfl rfl) (by decide)) (fun _ _ => ?_)
  refine GL.stepG (tj := 24) rfl rfl (Stp.callR (σ := Unit) (p := fun rz => True) (v := fun rz => (.int .i64 (chk W1 H1 n1))) (N := fun rz => []) (vs := [(.agg #[(.int .i64 W1), (.int .i64 H1), (.slice ad1 n1 cap1)])]) rfl rfl T.own35 (by decide) (fun wc hw => ref_check W1 H1 ad1 n1 cap1 wc)) (fun xq10 hq11 => ?_)
  by_cases hq12 : (chk W1 H1 n1) ≠ 0
  · refine GL.stepG (tj := 24) rfl rfl (Ex.wp (v := (.bool true)) (Ex.cast (Ex.neq rfl rfl) (congrArg Value.bool (decide_eq_true hq12))) (by decide)) (fun _ _ => ?_)
    refine GL.stepG (tj := 24) rfl rfl (Ex.wp (v := (.bool true)) (Ex.move rfl) (by decide)) (fun _ _ => ?_)
    refine GL.skipG (tj := 28) rfl rfl rfl (by decide) ?_
    refine GL.skipG (tj := 28) rfl rfl rfl (by decide) ?_
    refine GL.skipG (tj := 28) rfl rfl rfl (by decide) ?_
    refine GL.stepG (tj := 24) rfl rfl (Ex.wp (v := (.bool true)) (Ex.pickT rfl rfl) (by decide)) (fun _ _ => ?_)
    refine GL.stepG (tj := 24) rfl rfl (Ex.wp (v := (.bool true)) (Ex.move rfl) (by decide)) (fun _ _ => ?_)
    refine GL.skipG (tj := 33) rfl rfl rfl (by decide) ?_
    refine GL.skipG (tj := 33) rfl rfl rfl (by decide) ?_
    refine GL.skipG (tj := 33) rfl rfl rfl (by decide) ?_
    refine GL.skipG (tj := 33) rfl rfl rfl (by decide) ?_
    refine GL.skipG (tj := 33) rfl rfl rfl (by decide) ?_
    refine GL.stepG (tj := 24) rfl rfl (Ex.wp (v := (.bool true)) (Ex.pickT rfl rfl) (by decide)) (fun _ _ => ?_)
    refine GL.stepG (tj := 24) rfl rfl (Ex.wp (v := (.bool true)) (Ex.move rfl) (by decide)) (fun _ _ => ?_)
    refine GL.skipG (tj := 40) rfl rfl rfl (by decide) ?_
    refine GL.skipG (tj := 40) rfl rfl rfl (by decide) ?_
    refine GL.skipG (tj := 40) rfl rfl rfl (by decide) ?_
    refine GL.skipG (tj := 40) rfl rfl rfl (by decide) ?_
    refine GL.skipG (tj := 40) rfl rfl rfl (by decide) ?_
    refine GL.stepG (tj := 24) rfl rfl (Ex.wp (v := (.bool true)) (Ex.pickT rfl rfl) (by decide)) (fun _ _ => ?_)
    refine GL.stepG (tj := 24) rfl rfl (Ex.wp (v := (.bool true)) (Ex.move rfl) (by decide)) (fun _ _ => ?_)
    refine GL.skipG (tj := 47) rfl rfl rfl (by decide) ?_
    refine GL.skipG (tj := 47) rfl rfl rfl (by decide) ?_
    refine GL.skipG (tj := 47) rfl rfl rfl (by decide) ?_
    refine GL.stepG (tj := 24) rfl rfl (Ex.wp (v := (.bool true)) (Ex.pickT rfl rfl) (by decide)) (fun _ _ => ?_)
    refine GL.val (v := (.bool true)) (Ex.pickT rfl rfl) (by decide) ?_
    refine GL.val (v := (.bool true)) (Ex.assign rfl) (by decide) ?_
    refine GL.nil ?_
    refine GE.thenN ?_
    refine GC.ret ?_
    refine GE.thenR ?_
    refine GC.ret1 rfl (Rv.tmp rfl) (fun wN HN => ?_)
    exact HN.ret () trivial rfl (List.nil_sublist _) rfl
  · refine GL.stepG (tj := 24) rfl rfl (Ex.wp (v := (.bool false)) (Ex.cast (Ex.neq rfl rfl) (congrArg Value.bool (decide_eq_false hq12))) (by decide)) (fun _ _ => ?_)
    refine GL.stepG (tj := 24) rfl rfl (Ex.wp (v := (.bool false)) (Ex.move rfl) (by decide)) (fun _ _ => ?_)
    refine GL.stepG (tj := 28) rfl rfl (Ex.wp (v := (.agg #[(.int .i64 W2), (.int .i64 H2), (.slice ad2 n2 cap2)])) (Ex.loadA rfl T.ag32 T.sz32 (i := 1) rfl (vs := [(.int .i64 W2), (.int .i64 H2), (.slice ad2 n2 cap2)]) rfl rfl) (by decide)) (fun _ _ => ?_)
    refine GL.stepG (tj := 28) rfl rfl (Stp.callR (σ := Unit) (p := fun rz => True) (v := fun rz => (.int .i64 (chk W2 H2 n2))) (N := fun rz => []) (vs := [(.agg #[(.int .i64 W2), (.int .i64 H2), (.slice ad2 n2 cap2)])]) rfl rfl T.own35 (by decide) (fun wc hw => ref_check W2 H2 ad2 n2 cap2 wc)) (fun xq13 hq14 => ?_)
    by_cases hq15 : (chk W2 H2 n2) ≠ 0
    · refine GL.stepG (tj := 28) rfl rfl (Ex.wp (v := (.bool true)) (Ex.cast (Ex.neq rfl rfl) (congrArg Value.bool (decide_eq_true hq15))) (by decide)) (fun _ _ => ?_)
      refine GL.stepG (tj := 24) rfl rfl (Ex.wp (v := (.bool true)) (Ex.pickF rfl rfl) (by decide)) (fun _ _ => ?_)
      refine GL.stepG (tj := 24) rfl rfl (Ex.wp (v := (.bool true)) (Ex.move rfl) (by decide)) (fun _ _ => ?_)
      refine GL.skipG (tj := 33) rfl rfl rfl (by decide) ?_
      refine GL.skipG (tj := 33) rfl rfl rfl (by decide) ?_
      refine GL.skipG (tj := 33) rfl rfl rfl (by decide) ?_
      refine GL.skipG (tj := 33) rfl rfl rfl (by decide) ?_
      refine GL.skipG (tj := 33) rfl rfl rfl (by decide) ?_
      refine GL.stepG (tj := 24) rfl rfl (Ex.wp (v := (.bool true)) (Ex.pickT rfl rfl) (by decide)) (fun _ _ => ?_)
      refine GL.stepG (tj := 24) rfl rfl (Ex.wp (v := (.bool true)) (Ex.move rfl) (by decide)) (fun _ _ => ?_)
      refine GL.skipG (tj := 40) rfl rfl rfl (by decide) ?_
      refine GL.skipG (tj := 40) rfl rfl rfl (by decide) ?_
      refine GL.skipG (tj := 40) rfl rfl rfl (by decide) ?_
      refine GL.skipG (tj := 40) rfl rfl rfl (by decide) ?_
      refine GL.skipG (tj := 40) rfl rfl rfl (by decide) ?_
      refine GL.stepG (tj := 24) rfl rfl (Ex.wp (v := (.bool true)) (Ex.pickT rfl rfl) (by decide)) (fun _ _ => ?_)
      refine GL.stepG (tj := 24) rfl rfl (Ex.wp (v := (.bool true)) (Ex.move rfl) (by decide)) (fun _ _ => ?_)
      refine GL.skipG (tj := 47) rfl rfl rfl (by decide) ?_
      refine GL.skipG (tj := 47) rfl rfl rfl (by decide) ?_
      refine GL.skipG (tj := 47) rfl rfl rfl (by decide) ?_
      refine GL.stepG (tj := 24) rfl rfl (Ex.wp (v := (.bool true)) (Ex.pickT rfl rfl) (by decide)) (fun _ _ => ?_)
      refine GL.val (v := (.bool true)) (Ex.pickT rfl rfl) (by decide) ?_
      refine GL.val (v := (.bool true)) (Ex.assign rfl) (by decide) ?_
      refine GL.nil ?_
      refine GE.thenN ?_
      refine GC.ret ?_
      refine GE.thenR ?_
      refine GC.ret1 rfl (Rv.tmp rfl) (fun wN HN => ?_)
      exact HN.ret () trivial rfl (List.nil_sublist _) rfl
    · refine GL.stepG (tj := 28) rfl rfl (Ex.wp (v := (.bool false)) (Ex.cast (Ex.neq rfl rfl) (congrArg Value.bool (decide_eq_false hq15))) (by decide)) (fun _ _ => ?_)
      refine GL.stepG (tj := 24) rfl rfl (Ex.wp (v := (.bool false)) (Ex.pickF rfl rfl) (by decide)) (fun _ _ => ?_)
      refine GL.stepG (tj := 24) rfl rfl (Ex.wp (v := (.bool false)) (Ex.move rfl) (by decide)) (fun _ _ => ?_)
      refine GL.stepG (tj := 33) rfl rfl (Ex.wp (v := (.pointer (some ⟨bq1, 0, none⟩))) (Ex.cast (Ex.fieldAddr rfl Try.underlying32 rfl T.sz3 (by decide)) rfl) (by decide)) (fun _ _ => ?_)
      refine GL.stepG (tj := 33) rfl rfl (Ex.wp (v := (.int .i64 W1)) (Ex.load rfl T.ag3 (i := 2) rfl rfl) (by decide)) (fun _ _ => ?_)
      refine GL.stepG (tj := 33) rfl rfl (Ex.wp (v := (.pointer (some ⟨bq2, 0, none⟩))) (Ex.cast (Ex.fieldAddr rfl Try.underlying32 rfl T.sz3 (by decide)) rfl) (by decide)) (fun _ _ => ?_)
      refine GL.stepG (tj := 33) rfl rfl (Ex.wp (v := (.int .i64 W2)) (Ex.load rfl T.ag3 (i := 1) rfl rfl) (by decide)) (fun _ _ => ?_)
      by_cases hq16 : W1 ≠ W2
      · refine GL.stepG (tj := 33) rfl rfl (Ex.wp (v := (.bool true)) (Ex.cast (Ex.neq rfl rfl) (congrArg Value.bool (decide_eq_true hq16))) (by decide)) (fun _ _ => ?_)
        refine GL.stepG (tj := 24) rfl rfl (Ex.wp (v := (.bool true)) (Ex.pickF rfl rfl) (by decide)) (fun _ _ => ?_)
        refine GL.stepG (tj := 24) rfl rfl (Ex.wp (v := (.bool true)) (Ex.move rfl) (by decide)) (fun _ _ => ?_)
        refine GL.skipG (tj := 40) rfl rfl rfl (by decide) ?_
        refine GL.skipG (tj := 40) rfl rfl rfl (by decide) ?_
        refine GL.skipG (tj := 40) rfl rfl rfl (by decide) ?_
        refine GL.skipG (tj := 40) rfl rfl rfl (by decide) ?_
        refine GL.skipG (tj := 40) rfl rfl rfl (by decide) ?_
        refine GL.stepG (tj := 24) rfl rfl (Ex.wp (v := (.bool true)) (Ex.pickT rfl rfl) (by decide)) (fun _ _ => ?_)
        refine GL.stepG (tj := 24) rfl rfl (Ex.wp (v := (.bool true)) (Ex.move rfl) (by decide)) (fun _ _ => ?_)
        refine GL.skipG (tj := 47) rfl rfl rfl (by decide) ?_
        refine GL.skipG (tj := 47) rfl rfl rfl (by decide) ?_
        refine GL.skipG (tj := 47) rfl rfl rfl (by decide) ?_
        refine GL.stepG (tj := 24) rfl rfl (Ex.wp (v := (.bool true)) (Ex.pickT rfl rfl) (by decide)) (fun _ _ => ?_)
        refine GL.val (v := (.bool true)) (Ex.pickT rfl rfl) (by decide) ?_
        refine GL.val (v := (.bool true)) (Ex.assign rfl) (by decide) ?_
        refine GL.nil ?_
        refine GE.thenN ?_
        refine GC.ret ?_
        refine GE.thenR ?_
        refine GC.ret1 rfl (Rv.tmp rfl) (fun wN HN => ?_)
        exact HN.ret () trivial rfl (List.nil_sublist _) rfl
      · refine GL.stepG (tj := 33) rfl rfl (Ex.wp (v := (.bool false)) (Ex.cast (Ex.neq rfl rfl) (congrArg Value.bool (decide_eq_false hq16))) (by decide)) (fun _ _ => ?_)
        refine GL.stepG (tj := 24) rfl rfl (Ex.wp (v := (.bool false)) (Ex.pickF rfl rfl) (by decide)) (fun _ _ => ?_)
        refine GL.stepG (tj := 24) rfl rfl (Ex.wp (v := (.bool false)) (Ex.move rfl) (by decide)) (fun _ _ => ?_)
        refine GL.stepG (tj := 40) rfl rfl (Ex.wp (v := (.pointer (some ⟨bq1, 1, none⟩))) (Ex.cast (Ex.fieldAddr rfl Try.underlying32 rfl T.sz3 (by decide)) rfl) (by decide)) (fun _ _ => ?_)
        refine GL.stepG (tj := 40) rfl rfl (Ex.wp (v := (.int .i64 H1)) (Ex.load rfl T.ag3 (i := 2) rfl rfl) (by decide)) (fun _ _ => ?_)
        refine GL.stepG (tj := 40) rfl rfl (Ex.wp (v := (.pointer (some ⟨bq2, 1, none⟩))) (Ex.cast (Ex.fieldAddr rfl Try.underlying32 rfl T.sz3 (by decide)) rfl) (by decide)) (fun _ _ => ?_)
        refine GL.stepG (tj := 40) rfl rfl (Ex.wp (v := (.int .i64 H2)) (Ex.load rfl T.ag3 (i := 1) rfl rfl) (by decide)) (fun _ _ => ?_)
        by_cases hq17 : H1 ≠ H2
        · refine GL.stepG (tj := 40) rfl rfl (Ex.wp (v := (.bool true)) (Ex.cast (Ex.neq rfl rfl) (congrArg Value.bool (decide_eq_true hq17))) (by decide)) (fun _ _ => ?_)
          refine GL.stepG (tj := 24) rfl rfl (Ex.wp (v := (.bool true)) (Ex.pickF rfl rfl) (by decide)) (fun _ _ => ?_)
          refine GL.stepG (tj := 24) rfl rfl (Ex.wp (v := (.bool true)) (Ex.move rfl) (by decide)) (fun _ _ => ?_)
          refine GL.skipG (tj := 47) rfl rfl rfl (by decide) ?_
          refine GL.skipG (tj := 47) rfl rfl rfl (by decide) ?_
          refine GL.skipG (tj := 47) rfl rfl rfl (by decide) ?_
          refine GL.stepG (tj := 24) rfl rfl (Ex.wp (v := (.bool true)) (Ex.pickT rfl rfl) (by decide)) (fun _ _ => ?_)
          refine GL.val (v := (.bool true)) (Ex.pickT rfl rfl) (by decide) ?_
          refine GL.val (v := (.bool true)) (Ex.assign rfl) (by decide) ?_
          refine GL.nil ?_
          refine GE.thenN ?_
          refine GC.ret ?_
          refine GE.thenR ?_
          refine GC.ret1 rfl (Rv.tmp rfl) (fun wN HN => ?_)
          exact HN.ret () trivial rfl (List.nil_sublist _) rfl
        · exfalso; omega

theorem lawWhere (W1 H1 : Int) (ad1 : Option Addr) (n1 cap1 : Nat) (W2 H2 : Int) (ad2 : Option Addr) (n2 cap2 : Nat) (xs ys : List Int) (w : World) (h1 : Lst w ad1 n1 xs) (h2 : Lst w ad2 n2 ys) :
    Calls Try.prog 12 #[.agg #[.int .i64 W1, .int .i64 H1, .slice ad1 n1 cap1], .agg #[.int .i64 W2, .int .i64 H2, .slice ad2 n2 cap2]] w (Ret w (fun _ : Unit => True) (fun _ => .bool true) (fun _ => [])) := by
  by_cases hc : chk W1 H1 n1 ≠ 0 ∨ chk W2 H2 n2 ≠ 0 ∨ W1 ≠ W2 ∨ H1 ≠ H2
  · exact where_bad W1 H1 ad1 n1 cap1 W2 H2 ad2 n2 cap2 w hc
  · have hc1 : chk W1 H1 n1 = 0 := by omega
    have hc2 : chk W2 H2 n2 = 0 := by omega
    have e1 : W1 = W2 := by omega
    have e2 : H1 = H2 := by omega
    subst e1 e2
    obtain ⟨w', h', rfl, rfl, hok, hn⟩ := chk_zero hc1
    obtain ⟨w2, h2', e3, e4, hok2, hn2⟩ := chk_zero hc2
    have e5 : w2 = w' := by omega
    have e6 : h2' = h' := by omega
    subst e5 e6
    have hp := Nat.mul_pos (show 0 < w2 from hok.1) (show 0 < h2' from hok.2.1)
    have g1 := h1; have g2 := h2
    obtain ⟨_, _, _, q1⟩ := g1
    obtain ⟨_, _, _, q2⟩ := g2
    rcases q1 with q1 | ⟨b1, o1, rfl, hr1⟩
    · exfalso; omega
    · rcases q2 with q2 | ⟨b2, o2, rfl, hr2⟩
      · exfalso; omega
      · by_cases hxy : xs = ys
        · exact where_eq w2 h2' b1 o1 n1 cap1 b2 o2 n2 cap2 xs ys w hok hn hn2 h1 h2 hr1 hr2 hxy
        · exact where_ne w2 h2' b1 o1 n1 cap1 b2 o2 n2 cap2 xs ys w hok hn hn2 h1 h2 hr1 hr2 hxy

end Go.Proofs.Ytileciohbhoehaa.C
