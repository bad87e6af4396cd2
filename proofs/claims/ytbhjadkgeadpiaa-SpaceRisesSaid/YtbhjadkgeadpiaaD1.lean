/- Space: lifts, walked. -/
import Derived.Test.YtbhjadkgeadpiaaC1
import Derived.Test.YtbhjadkgeadpiaaSp
namespace Go.Proofs.Ytbhjadkgeadpiaa.C
open Go Go.RowKit Sx
set_option linter.unusedVariables false
set_option maxRecDepth 100000 in
set_option maxHeartbeats 1000000 in
theorem key_p (a : Int) (w : World) (ha : 0 ≤ a ∧ a < 4294967296) :
    Calls Try.prog 50 #[(.int .u32 a)] w (Ret w (fun _ : Unit => True) (fun _ => (.int .u32 (Bt.key a))) (fun _ => [])) := by
  refine enter (M := None) (L := []) (n := 9) (l := [(0, (.int .u32 a))]) Try.func50 rfl rfl (Args.cons rfl (Args.nil _)) (Hp.start _ _) ?_
  refine GC.seq ?_
  refine GC.region ?_
  refine GL.val (Ex.assign rfl) (by decide) ?_
  refine GL.nil ?_
  refine GE.thenN ?_
  refine GC.seq ?_
  refine GC.seq ?_
  refine GC.region ?_
  refine GL.val (Ex.move rfl) (by decide) ?_
  refine GL.val (v := (.bool (decide (a < 2147483648)))) (Ex.lss rfl rfl) (by decide) ?_
  refine GL.nil ?_
  refine GE.thenN ?_
  refine GC.cond rfl (fun hq1 => ?_) (fun hq1 => ?_)
  · replace hq1 := of_decide_eq_true hq1
    refine GC.seq ?_
    refine GC.region ?_
    refine GL.val (Ex.move rfl) (by decide) ?_
    refine GL.val (v := (.int .u32 (a + 2147483648))) (Ex.add rfl rfl (Z := a + 2147483648) (wu32b (by omega))) (by decide) ?_
    refine GL.val (Ex.assign rfl) (by decide) ?_
    refine GL.nil ?_
    refine GE.thenN ?_
    refine GC.ret ?_
    refine GE.thenR ?_
    refine GC.ret1 rfl (Rv.tmp rfl) (fun wN HN => ?_)
    exact HN.ret () trivial (by rw [show Bt.key a = a + 2147483648 from by first | (exfalso; omega) | (unfold Bt.key; (repeat (first | rw [if_pos (by omega)] | rw [if_neg (by omega)])); try omega)]) (List.nil_sublist _) rfl
  · replace hq1 := of_decide_eq_false hq1
    refine GC.skip ?_
    refine GE.thenN ?_
    refine GC.seq ?_
    refine GC.region ?_
    refine GL.val (Ex.move rfl) (by decide) ?_
    refine GL.val (v := (.int .u32 (4294967295 - a))) (Ex.sub' rfl rfl (Z := 4294967295 - a) (wu32b (by omega))) (by decide) ?_
    refine GL.val (Ex.assign rfl) (by decide) ?_
    refine GL.nil ?_
    refine GE.thenN ?_
    refine GC.ret ?_
    refine GC.ret1 rfl (Rv.tmp rfl) (fun wN HN => ?_)
    exact HN.ret () trivial (by rw [show Bt.key a = 4294967295 - a from by first | (exfalso; omega) | (unfold Bt.key; (repeat (first | rw [if_pos (by omega)] | rw [if_neg (by omega)])); try omega)]) (List.nil_sublist _) rfl

set_option maxRecDepth 100000 in
set_option maxHeartbeats 1000000 in
theorem key_r (a : Int) (w : World) (ha : 0 ≤ a ∧ a < 4294967296) :
    Calls Try.prog 53 #[(.int .u32 a)] w (Ret w (fun _ : Unit => True) (fun _ => (.int .u32 (Bt.key a))) (fun _ => [])) := by
  refine enter (M := None) (L := []) (n := 10) (l := [(0, (.int .u32 a))]) Try.func53 rfl rfl (Args.cons rfl (Args.nil _)) (Hp.start _ _) ?_
  refine GC.seq ?_
  refine GC.region ?_
  refine GL.val (Ex.assign rfl) (by decide) ?_
  refine GL.nil ?_
  refine GE.thenN ?_
  refine GC.seq ?_
  refine GC.seq ?_
  refine GC.region ?_
  refine GL.val (Ex.move rfl) (by decide) ?_
  refine GL.val (v := (.int .u32 (a / 2147483648))) (Ex.shr rfl (m := 31) rfl (by decide) (Z := a / 2147483648) rfl) (by decide) ?_
  refine GL.val (v := (.bool (decide ((a / 2147483648) = 0)))) (Ex.eql rfl rfl) (by decide) ?_
  refine GL.nil ?_
  refine GE.thenN ?_
  refine GC.cond rfl (fun hq1 => ?_) (fun hq1 => ?_)
  · replace hq1 := of_decide_eq_true hq1
    refine GC.seq ?_
    refine GC.region ?_
    refine GL.val (Ex.move rfl) (by decide) ?_
    refine GL.val (v := (.int .u32 (a + 2147483648))) (Ex.add rfl rfl (Z := a + 2147483648) (wu32b (by omega))) (by decide) ?_
    refine GL.val (Ex.assign rfl) (by decide) ?_
    refine GL.nil ?_
    refine GE.thenN ?_
    refine GC.ret ?_
    refine GE.thenR ?_
    refine GC.ret1 rfl (Rv.tmp rfl) (fun wN HN => ?_)
    exact HN.ret () trivial (by rw [show Bt.key a = a + 2147483648 from by first | (exfalso; omega) | (unfold Bt.key; (repeat (first | rw [if_pos (by omega)] | rw [if_neg (by omega)])); try omega)]) (List.nil_sublist _) rfl
  · replace hq1 := of_decide_eq_false hq1
    refine GC.skip ?_
    refine GE.thenN ?_
    refine GC.seq ?_
    refine GC.region ?_
    refine GL.val (Ex.move rfl) (by decide) ?_
    refine GL.val (v := (.int .u32 (4294967295 - a))) (Ex.sub' rfl rfl (Z := 4294967295 - a) (wu32b (by omega))) (by decide) ?_
    refine GL.val (Ex.assign rfl) (by decide) ?_
    refine GL.nil ?_
    refine GE.thenN ?_
    refine GC.ret ?_
    refine GC.ret1 rfl (Rv.tmp rfl) (fun wN HN => ?_)
    exact HN.ret () trivial (by rw [show Bt.key a = 4294967295 - a from by first | (exfalso; omega) | (unfold Bt.key; (repeat (first | rw [if_pos (by omega)] | rw [if_neg (by omega)])); try omega)]) (List.nil_sublist _) rfl

set_option maxRecDepth 100000 in
set_option maxHeartbeats 1000000 in
theorem unkey_p (a : Int) (w : World) (ha : 0 ≤ a ∧ a < 4294967296) :
    Calls Try.prog 52 #[(.int .u32 a)] w (Ret w (fun _ : Unit => True) (fun _ => (.int .u32 (Bt.unkey a))) (fun _ => [])) := by
  refine enter (M := None) (L := []) (n := 9) (l := [(0, (.int .u32 a))]) Try.func52 rfl rfl (Args.cons rfl (Args.nil _)) (Hp.start _ _) ?_
  refine GC.seq ?_
  refine GC.region ?_
  refine GL.val (Ex.assign rfl) (by decide) ?_
  refine GL.nil ?_
  refine GE.thenN ?_
  refine GC.seq ?_
  refine GC.seq ?_
  refine GC.region ?_
  refine GL.val (Ex.move rfl) (by decide) ?_
  refine GL.val (v := (.bool (decide (2147483648 ≤ a)))) (Ex.geq rfl rfl) (by decide) ?_
  refine GL.nil ?_
  refine GE.thenN ?_
  refine GC.cond rfl (fun hq1 => ?_) (fun hq1 => ?_)
  · replace hq1 := of_decide_eq_true hq1
    refine GC.seq ?_
    refine GC.region ?_
    refine GL.val (Ex.move rfl) (by decide) ?_
    refine GL.val (v := (.int .u32 (a - 2147483648))) (Ex.sub' rfl rfl (Z := a - 2147483648) (wu32b (by omega))) (by decide) ?_
    refine GL.val (Ex.assign rfl) (by decide) ?_
    refine GL.nil ?_
    refine GE.thenN ?_
    refine GC.ret ?_
    refine GE.thenR ?_
    refine GC.ret1 rfl (Rv.tmp rfl) (fun wN HN => ?_)
    exact HN.ret () trivial (by rw [show Bt.unkey a = a - 2147483648 from by first | (exfalso; omega) | (unfold Bt.unkey; (repeat (first | rw [if_pos (by omega)] | rw [if_neg (by omega)])); try omega)]) (List.nil_sublist _) rfl
  · replace hq1 := of_decide_eq_false hq1
    refine GC.skip ?_
    refine GE.thenN ?_
    refine GC.seq ?_
    refine GC.region ?_
    refine GL.val (Ex.move rfl) (by decide) ?_
    refine GL.val (v := (.int .u32 (4294967295 - a))) (Ex.sub' rfl rfl (Z := 4294967295 - a) (wu32b (by omega))) (by decide) ?_
    refine GL.val (Ex.assign rfl) (by decide) ?_
    refine GL.nil ?_
    refine GE.thenN ?_
    refine GC.ret ?_
    refine GC.ret1 rfl (Rv.tmp rfl) (fun wN HN => ?_)
    exact HN.ret () trivial (by rw [show Bt.unkey a = 4294967295 - a from by first | (exfalso; omega) | (unfold Bt.unkey; (repeat (first | rw [if_pos (by omega)] | rw [if_neg (by omega)])); try omega)]) (List.nil_sublist _) rfl

set_option maxRecDepth 100000 in
set_option maxHeartbeats 1000000 in
theorem unkey_r (a : Int) (w : World) (ha : 0 ≤ a ∧ a < 4294967296) :
    Calls Try.prog 55 #[(.int .u32 a)] w (Ret w (fun _ : Unit => True) (fun _ => (.int .u32 (Bt.unkey a))) (fun _ => [])) := by
  refine enter (M := None) (L := []) (n := 10) (l := [(0, (.int .u32 a))]) Try.func55 rfl rfl (Args.cons rfl (Args.nil _)) (Hp.start _ _) ?_
  refine GC.seq ?_
  refine GC.region ?_
  refine GL.val (Ex.assign rfl) (by decide) ?_
  refine GL.nil ?_
  refine GE.thenN ?_
  refine GC.seq ?_
  refine GC.seq ?_
  refine GC.region ?_
  refine GL.val (Ex.move rfl) (by decide) ?_
  refine GL.val (v := (.int .u32 (a / 2147483648))) (Ex.shr rfl (m := 31) rfl (by decide) (Z := a / 2147483648) rfl) (by decide) ?_
  refine GL.val (v := (.bool (decide ((a / 2147483648) = 1)))) (Ex.eql rfl rfl) (by decide) ?_
  refine GL.nil ?_
  refine GE.thenN ?_
  refine GC.cond rfl (fun hq1 => ?_) (fun hq1 => ?_)
  · replace hq1 := of_decide_eq_true hq1
    refine GC.seq ?_
    refine GC.region ?_
    refine GL.val (Ex.move rfl) (by decide) ?_
    refine GL.val (v := (.int .u32 (a - 2147483648))) (Ex.sub' rfl rfl (Z := a - 2147483648) (wu32b (by omega))) (by decide) ?_
    refine GL.val (Ex.assign rfl) (by decide) ?_
    refine GL.nil ?_
    refine GE.thenN ?_
    refine GC.ret ?_
    refine GE.thenR ?_
    refine GC.ret1 rfl (Rv.tmp rfl) (fun wN HN => ?_)
    exact HN.ret () trivial (by rw [show Bt.unkey a = a - 2147483648 from by first | (exfalso; omega) | (unfold Bt.unkey; (repeat (first | rw [if_pos (by omega)] | rw [if_neg (by omega)])); try omega)]) (List.nil_sublist _) rfl
  · replace hq1 := of_decide_eq_false hq1
    refine GC.skip ?_
    refine GE.thenN ?_
    refine GC.seq ?_
    refine GC.region ?_
    refine GL.val (Ex.move rfl) (by decide) ?_
    refine GL.val (v := (.int .u32 (4294967295 - a))) (Ex.sub' rfl rfl (Z := 4294967295 - a) (wu32b (by omega))) (by decide) ?_
    refine GL.val (Ex.assign rfl) (by decide) ?_
    refine GL.nil ?_
    refine GE.thenN ?_
    refine GC.ret ?_
    refine GC.ret1 rfl (Rv.tmp rfl) (fun wN HN => ?_)
    exact HN.ret () trivial (by rw [show Bt.unkey a = 4294967295 - a from by first | (exfalso; omega) | (unfold Bt.unkey; (repeat (first | rw [if_pos (by omega)] | rw [if_neg (by omega)])); try omega)]) (List.nil_sublist _) rfl

set_option maxRecDepth 100000 in
set_option maxHeartbeats 1000000 in
theorem halved_p (a : Int) (w : World) (ha : 0 ≤ a ∧ a < 4294967296) :
    Calls Try.prog 51 #[(.int .u32 a)] w (Ret w (fun _ : Unit => True) (fun _ => (.int .u32 (Sp.hv a))) (fun _ => [])) := by
  refine enter (M := None) (L := []) (n := 7) (l := [(0, (.int .u32 a))]) Try.func51 rfl rfl (Args.cons rfl (Args.nil _)) (Hp.start _ _) ?_
  refine GC.seq ?_
  refine GC.region ?_
  refine GL.val (Ex.assign rfl) (by decide) ?_
  refine GL.nil ?_
  refine GE.thenN ?_
  refine GC.seq ?_
  refine GC.region ?_
  refine GL.val (Ex.move rfl) (by decide) ?_
  refine GL.val (v := (.int .i32 ((if a < 2147483648 then a else a - 4294967296)))) (Ex.conv rfl Try.underlying23 Try.underlying21 (Z := (if a < 2147483648 then a else a - 4294967296)) (Sp.wi32 ha)) (by decide) ?_
  refine GL.val (v := (.int .i32 (((if a < 2147483648 then a else a - 4294967296)) / 2))) (Ex.shr rfl (m := 1) rfl (by decide) (Z := ((if a < 2147483648 then a else a - 4294967296)) / 2) rfl) (by decide) ?_
  refine GL.val (v := (.int .u32 ((((if a < 2147483648 then a else a - 4294967296)) / 2) % 4294967296))) (Ex.conv rfl Try.underlying21 Try.underlying23 (Z := (((if a < 2147483648 then a else a - 4294967296)) / 2) % 4294967296) (wu32 _)) (by decide) ?_
  refine GL.val (Ex.assign rfl) (by decide) ?_
  refine GL.nil ?_
  refine GE.thenN ?_
  refine GC.ret ?_
  refine GC.ret1 rfl (Rv.tmp rfl) (fun wN HN => ?_)
  exact HN.ret () trivial rfl (List.nil_sublist _) rfl

set_option maxRecDepth 100000 in
set_option maxHeartbeats 1000000 in
theorem half_r (a : Int) (w : World) (ha : 0 ≤ a ∧ a < 4294967296) :
    Calls Try.prog 54 #[(.int .u32 a)] w (Ret w (fun _ : Unit => True) (fun _ => (.int .u32 (Sp.hv a))) (fun _ => [])) := by
  refine enter (M := None) (L := []) (n := 19) (l := [(0, (.int .u32 a))]) Try.func54 rfl rfl (Args.cons rfl (Args.nil _)) (Hp.start _ _) ?_
  refine GC.seq ?_
  refine GC.region ?_
  refine GL.val (Ex.assign rfl) (by decide) ?_
  refine GL.nil ?_
  refine GE.thenN ?_
  refine GC.seq ?_
  refine GC.region ?_
  refine GL.val (Ex.move rfl) (by decide) ?_
  refine GL.val (v := (.int .i64 a)) (Ex.conv rfl Try.underlying23 Try.underlying2 (Z := a) (w64 (by omega))) (by decide) ?_
  refine GL.val (Ex.assign rfl) (by decide) ?_
  refine GL.nil ?_
  refine GE.thenN ?_
  refine GC.seq ?_
  refine GC.seq ?_
  refine GC.region ?_
  refine GL.val (Ex.move rfl) (by decide) ?_
  refine GL.val (v := (.bool (decide (2147483648 ≤ a)))) (Ex.geq rfl rfl) (by decide) ?_
  refine GL.nil ?_
  refine GE.thenN ?_
  refine GC.cond rfl (fun hq1 => ?_) (fun hq1 => ?_)
  · replace hq1 := of_decide_eq_true hq1
    refine GC.region ?_
    refine GL.val (Ex.move rfl) (by decide) ?_
    refine GL.val (v := (.int .i64 (a - 4294967296))) (Ex.sub' rfl rfl (Z := a - 4294967296) (w64 (by omega))) (by decide) ?_
    refine GL.val (Ex.assign rfl) (by decide) ?_
    refine GL.nil ?_
    refine GE.thenN ?_
    refine GC.seq ?_
    refine GC.seq ?_
    refine GC.region ?_
    refine GL.val (Ex.move rfl) (by decide) ?_
    refine GL.val (v := (.int .i64 (Int.tmod (a - 4294967296) 2))) (Ex.rem rfl rfl (Z := Int.tmod (a - 4294967296) 2) (by decide) rfl) (by decide) ?_
    refine GL.val (v := (.bool (decide ((Int.tmod (a - 4294967296) 2) ≠ 0)))) (Ex.neq rfl rfl) (by decide) ?_
    refine GL.nil ?_
    refine GE.thenN ?_
    refine GC.cond rfl (fun hq2 => ?_) (fun hq2 => ?_)
    · replace hq2 := of_decide_eq_true hq2
      refine GC.region ?_
      refine GL.val (Ex.move rfl) (by decide) ?_
      refine GL.val (v := (.int .i64 ((a - 4294967296) - 1))) (Ex.sub' rfl rfl (Z := (a - 4294967296) - 1) (w64 (by omega))) (by decide) ?_
      refine GL.val (Ex.assign rfl) (by decide) ?_
      refine GL.nil ?_
      refine GE.thenN ?_
      refine GC.seq ?_
      refine GC.region ?_
      refine GL.val (Ex.move rfl) (by decide) ?_
      refine GL.val (v := (.int .i64 (((a - 4294967296) - 1) / 2))) (Ex.quo rfl rfl (Z := ((a - 4294967296) - 1) / 2) (by decide) (by rw [tdiv2 (by have t1 := tmod2 a; have t2 := tmod2 (a - 4294967296); omega)]; exact w64 (by omega))) (by decide) ?_
      refine GL.val (v := (.int .i64 ((((a - 4294967296) - 1) / 2) % 4294967296))) (Ex.bits rfl rfl (by simp) (Z := (((a - 4294967296) - 1) / 2) % 4294967296) (Sp.and64 _)) (by decide) ?_
      refine GL.val (v := (.int .u32 (((((a - 4294967296) - 1) / 2) % 4294967296) % 4294967296))) (Ex.conv rfl Try.underlying2 Try.underlying23 (Z := ((((a - 4294967296) - 1) / 2) % 4294967296) % 4294967296) (wu32 _)) (by decide) ?_
      refine GL.val (Ex.assign rfl) (by decide) ?_
      refine GL.nil ?_
      refine GE.thenN ?_
      refine GC.ret ?_
      refine GC.ret1 rfl (Rv.tmp rfl) (fun wN HN => ?_)
      exact HN.ret () trivial (by unfold Sp.hv; refine congrArg (Value.int .u32) ?_; (try rw [if_pos (by omega)]); (try rw [if_neg (by omega)]); have := tmod2 a; have := tmod2 (a - 4294967296); omega) (List.nil_sublist _) rfl
    · replace hq2 := of_decide_eq_false hq2
      refine GC.skip ?_
      refine GE.thenN ?_
      refine GC.seq ?_
      refine GC.region ?_
      refine GL.val (Ex.move rfl) (by decide) ?_
      refine GL.val (v := (.int .i64 ((a - 4294967296) / 2))) (Ex.quo rfl rfl (Z := (a - 4294967296) / 2) (by decide) (by rw [tdiv2 (by have t1 := tmod2 a; have t2 := tmod2 (a - 4294967296); omega)]; exact w64 (by omega))) (by decide) ?_
      refine GL.val (v := (.int .i64 (((a - 4294967296) / 2) % 4294967296))) (Ex.bits rfl rfl (by simp) (Z := ((a - 4294967296) / 2) % 4294967296) (Sp.and64 _)) (by decide) ?_
      refine GL.val (v := (.int .u32 ((((a - 4294967296) / 2) % 4294967296) % 4294967296))) (Ex.conv rfl Try.underlying2 Try.underlying23 (Z := (((a - 4294967296) / 2) % 4294967296) % 4294967296) (wu32 _)) (by decide) ?_
      refine GL.val (Ex.assign rfl) (by decide) ?_
      refine GL.nil ?_
      refine GE.thenN ?_
      refine GC.ret ?_
      refine GC.ret1 rfl (Rv.tmp rfl) (fun wN HN => ?_)
      exact HN.ret () trivial (by unfold Sp.hv; refine congrArg (Value.int .u32) ?_; (try rw [if_pos (by omega)]); (try rw [if_neg (by omega)]); have := tmod2 a; have := tmod2 (a - 4294967296); omega) (List.nil_sublist _) rfl
  · replace hq1 := of_decide_eq_false hq1
    refine GC.skip ?_
    refine GE.thenN ?_
    refine GC.seq ?_
    refine GC.seq ?_
    refine GC.region ?_
    refine GL.val (Ex.move rfl) (by decide) ?_
    refine GL.val (v := (.int .i64 (Int.tmod a 2))) (Ex.rem rfl rfl (Z := Int.tmod a 2) (by decide) rfl) (by decide) ?_
    refine GL.val (v := (.bool (decide ((Int.tmod a 2) ≠ 0)))) (Ex.neq rfl rfl) (by decide) ?_
    refine GL.nil ?_
    refine GE.thenN ?_
    refine GC.cond rfl (fun hq3 => ?_) (fun hq3 => ?_)
    · replace hq3 := of_decide_eq_true hq3
      refine GC.region ?_
      refine GL.val (Ex.move rfl) (by decide) ?_
      refine GL.val (v := (.int .i64 (a - 1))) (Ex.sub' rfl rfl (Z := a - 1) (w64 (by omega))) (by decide) ?_
      refine GL.val (Ex.assign rfl) (by decide) ?_
      refine GL.nil ?_
      refine GE.thenN ?_
      refine GC.seq ?_
      refine GC.region ?_
      refine GL.val (Ex.move rfl) (by decide) ?_
      refine GL.val (v := (.int .i64 ((a - 1) / 2))) (Ex.quo rfl rfl (Z := (a - 1) / 2) (by decide) (by rw [tdiv2 (by have t1 := tmod2 a; have t2 := tmod2 (a - 4294967296); omega)]; exact w64 (by omega))) (by decide) ?_
      refine GL.val (v := (.int .i64 (((a - 1) / 2) % 4294967296))) (Ex.bits rfl rfl (by simp) (Z := ((a - 1) / 2) % 4294967296) (Sp.and64 _)) (by decide) ?_
      refine GL.val (v := (.int .u32 ((((a - 1) / 2) % 4294967296) % 4294967296))) (Ex.conv rfl Try.underlying2 Try.underlying23 (Z := (((a - 1) / 2) % 4294967296) % 4294967296) (wu32 _)) (by decide) ?_
      refine GL.val (Ex.assign rfl) (by decide) ?_
      refine GL.nil ?_
      refine GE.thenN ?_
      refine GC.ret ?_
      refine GC.ret1 rfl (Rv.tmp rfl) (fun wN HN => ?_)
      exact HN.ret () trivial (by unfold Sp.hv; refine congrArg (Value.int .u32) ?_; (try rw [if_pos (by omega)]); (try rw [if_neg (by omega)]); have := tmod2 a; have := tmod2 (a - 4294967296); omega) (List.nil_sublist _) rfl
    · replace hq3 := of_decide_eq_false hq3
      refine GC.skip ?_
      refine GE.thenN ?_
      refine GC.seq ?_
      refine GC.region ?_
      refine GL.val (Ex.move rfl) (by decide) ?_
      refine GL.val (v := (.int .i64 (a / 2))) (Ex.quo rfl rfl (Z := a / 2) (by decide) (by rw [tdiv2 (by have t1 := tmod2 a; have t2 := tmod2 (a - 4294967296); omega)]; exact w64 (by omega))) (by decide) ?_
      refine GL.val (v := (.int .i64 ((a / 2) % 4294967296))) (Ex.bits rfl rfl (by simp) (Z := (a / 2) % 4294967296) (Sp.and64 _)) (by decide) ?_
      refine GL.val (v := (.int .u32 (((a / 2) % 4294967296) % 4294967296))) (Ex.conv rfl Try.underlying2 Try.underlying23 (Z := ((a / 2) % 4294967296) % 4294967296) (wu32 _)) (by decide) ?_
      refine GL.val (Ex.assign rfl) (by decide) ?_
      refine GL.nil ?_
      refine GE.thenN ?_
      refine GC.ret ?_
      refine GC.ret1 rfl (Rv.tmp rfl) (fun wN HN => ?_)
      exact HN.ret () trivial (by unfold Sp.hv; refine congrArg (Value.int .u32) ?_; (try rw [if_pos (by omega)]); (try rw [if_neg (by omega)]); have := tmod2 a; have := tmod2 (a - 4294967296); omega) (List.nil_sublist _) rfl

set_option maxRecDepth 100000 in
set_option maxHeartbeats 1000000 in
theorem lift_p (a b c : Int) (w : World) (ha : 0 ≤ a ∧ a < 4294967296) (hb : 0 ≤ b ∧ b < 4294967296) (hc : 0 ≤ c ∧ c < 4294967296) :
    Calls Try.prog 22 #[(.int .u32 a), (.int .u32 b), (.int .u32 c)] w (Ret w (fun _ : Unit => True) (fun _ => (.tuple #[(.int .u32 ((Sp.lft a b c).1)), (.int .u32 ((Sp.lft a b c).2.1)), (.int .u32 ((Sp.lft a b c).2.2))])) (fun _ => [])) := by
  refine enter (M := None) (L := []) (n := 37) (l := [(0, (.int .u32 a)), (1, (.int .u32 b)), (2, (.int .u32 c))]) Try.func22 rfl rfl (Args.cons rfl (Args.cons rfl (Args.cons rfl (Args.nil _)))) (Hp.start _ _) ?_
  refine GC.seq ?_
  have hka := Bt.key_bd ha
  have hkb := Bt.key_bd hb
  have hkc := Bt.key_bd hc
  refine GC.region ?_
  refine GL.val (Ex.assign rfl) (by decide) ?_
  refine GL.val (Ex.assign rfl) (by decide) ?_
  refine GL.val (Ex.assign rfl) (by decide) ?_
  refine GL.nil ?_
  refine GE.thenN ?_
  refine GC.seq ?_
  refine GC.region ?_
  refine GL.val (Ex.move rfl) (by decide) ?_
  refine GL.step (Stp.callR (vs := [(.int .u32 a)]) rfl rfl T.own50 (by decide) (fun wc hw => key_p a wc (by first | assumption | omega | exact Bt.lst_bd (by assumption) (by assumption) | exact Bt.gst_bd (by assumption) (by assumption) | exact Bt.key_bd (by assumption) | exact Bt.unkey_bd (by assumption) | exact Bt.nxt_bd (by assumption) | exact Bt.lst_bd (Bt.gst_bd (by assumption) (by assumption)) (by assumption) | exact Bt.btw_bd (by assumption) (Bt.lst_bd (by assumption) (by assumption)) (Bt.gst_bd (by assumption) (by assumption))))) (fun xq1 hq2 => ?_)
  refine GL.val (Ex.move rfl) (by decide) ?_
  refine GL.step (Stp.callR (vs := [(.int .u32 c)]) rfl rfl T.own50 (by decide) (fun wc hw => key_p c wc (by first | assumption | omega | exact Bt.lst_bd (by assumption) (by assumption) | exact Bt.gst_bd (by assumption) (by assumption) | exact Bt.key_bd (by assumption) | exact Bt.unkey_bd (by assumption) | exact Bt.nxt_bd (by assumption) | exact Bt.lst_bd (Bt.gst_bd (by assumption) (by assumption)) (by assumption) | exact Bt.btw_bd (by assumption) (Bt.lst_bd (by assumption) (by assumption)) (Bt.gst_bd (by assumption) (by assumption))))) (fun xq3 hq4 => ?_)
  refine GL.val (v := (.int .u32 (((Bt.key a) - (Bt.key c)) % 4294967296))) (Ex.sub' rfl rfl (Z := ((Bt.key a) - (Bt.key c)) % 4294967296) (wu32 _)) (by decide) ?_
  refine GL.val (Ex.assign rfl) (by decide) ?_
  refine GL.nil ?_
  refine GE.thenN ?_
  refine GC.seq ?_
  refine GC.region ?_
  refine GL.val (Ex.move rfl) (by decide) ?_
  refine GL.step (Stp.callR (vs := [(.int .u32 c)]) rfl rfl T.own50 (by decide) (fun wc hw => key_p c wc (by first | assumption | omega | exact Bt.lst_bd (by assumption) (by assumption) | exact Bt.gst_bd (by assumption) (by assumption) | exact Bt.key_bd (by assumption) | exact Bt.unkey_bd (by assumption) | exact Bt.nxt_bd (by assumption) | exact Bt.lst_bd (Bt.gst_bd (by assumption) (by assumption)) (by assumption) | exact Bt.btw_bd (by assumption) (Bt.lst_bd (by assumption) (by assumption)) (Bt.gst_bd (by assumption) (by assumption))))) (fun xq5 hq6 => ?_)
  refine GL.val (Ex.move rfl) (by decide) ?_
  refine GL.step (Stp.callR (vs := [(.int .u32 (((Bt.key a) - (Bt.key c)) % 4294967296))]) rfl rfl T.own51 (by decide) (fun wc hw => halved_p (((Bt.key a) - (Bt.key c)) % 4294967296) wc (by first | assumption | omega | exact Bt.lst_bd (by assumption) (by assumption) | exact Bt.gst_bd (by assumption) (by assumption) | exact Bt.key_bd (by assumption) | exact Bt.unkey_bd (by assumption) | exact Bt.nxt_bd (by assumption) | exact Bt.lst_bd (Bt.gst_bd (by assumption) (by assumption)) (by assumption) | exact Bt.btw_bd (by assumption) (Bt.lst_bd (by assumption) (by assumption)) (Bt.gst_bd (by assumption) (by assumption))))) (fun xq7 hq8 => ?_)
  refine GL.val (v := (.int .u32 (((Bt.key c) + (Sp.hv (((Bt.key a) - (Bt.key c)) % 4294967296))) % 4294967296))) (Ex.add rfl rfl (Z := ((Bt.key c) + (Sp.hv (((Bt.key a) - (Bt.key c)) % 4294967296))) % 4294967296) (wu32 _)) (by decide) ?_
  refine GL.val (Ex.assign rfl) (by decide) ?_
  refine GL.nil ?_
  refine GE.thenN ?_
  refine GC.seq ?_
  refine GC.region ?_
  refine GL.val (Ex.move rfl) (by decide) ?_
  refine GL.step (Stp.callR (vs := [(.int .u32 b)]) rfl rfl T.own50 (by decide) (fun wc hw => key_p b wc (by first | assumption | omega | exact Bt.lst_bd (by assumption) (by assumption) | exact Bt.gst_bd (by assumption) (by assumption) | exact Bt.key_bd (by assumption) | exact Bt.unkey_bd (by assumption) | exact Bt.nxt_bd (by assumption) | exact Bt.lst_bd (Bt.gst_bd (by assumption) (by assumption)) (by assumption) | exact Bt.btw_bd (by assumption) (Bt.lst_bd (by assumption) (by assumption)) (Bt.gst_bd (by assumption) (by assumption))))) (fun xq9 hq10 => ?_)
  refine GL.val (Ex.move rfl) (by decide) ?_
  refine GL.val (v := (.int .u32 (((Bt.key b) - (((Bt.key c) + (Sp.hv (((Bt.key a) - (Bt.key c)) % 4294967296))) % 4294967296)) % 4294967296))) (Ex.sub' rfl rfl (Z := ((Bt.key b) - (((Bt.key c) + (Sp.hv (((Bt.key a) - (Bt.key c)) % 4294967296))) % 4294967296)) % 4294967296) (wu32 _)) (by decide) ?_
  refine GL.val (Ex.assign rfl) (by decide) ?_
  refine GL.nil ?_
  refine GE.thenN ?_
  refine GC.seq ?_
  refine GC.region ?_
  refine GL.val (Ex.move rfl) (by decide) ?_
  refine GL.val (Ex.move rfl) (by decide) ?_
  refine GL.step (Stp.callR (vs := [(.int .u32 (((Bt.key b) - (((Bt.key c) + (Sp.hv (((Bt.key a) - (Bt.key c)) % 4294967296))) % 4294967296)) % 4294967296))]) rfl rfl T.own51 (by decide) (fun wc hw => halved_p (((Bt.key b) - (((Bt.key c) + (Sp.hv (((Bt.key a) - (Bt.key c)) % 4294967296))) % 4294967296)) % 4294967296) wc (by first | assumption | omega | exact Bt.lst_bd (by assumption) (by assumption) | exact Bt.gst_bd (by assumption) (by assumption) | exact Bt.key_bd (by assumption) | exact Bt.unkey_bd (by assumption) | exact Bt.nxt_bd (by assumption) | exact Bt.lst_bd (Bt.gst_bd (by assumption) (by assumption)) (by assumption) | exact Bt.btw_bd (by assumption) (Bt.lst_bd (by assumption) (by assumption)) (Bt.gst_bd (by assumption) (by assumption))))) (fun xq11 hq12 => ?_)
  refine GL.val (v := (.int .u32 (((((Bt.key c) + (Sp.hv (((Bt.key a) - (Bt.key c)) % 4294967296))) % 4294967296) + (Sp.hv (((Bt.key b) - (((Bt.key c) + (Sp.hv (((Bt.key a) - (Bt.key c)) % 4294967296))) % 4294967296)) % 4294967296))) % 4294967296))) (Ex.add rfl rfl (Z := ((((Bt.key c) + (Sp.hv (((Bt.key a) - (Bt.key c)) % 4294967296))) % 4294967296) + (Sp.hv (((Bt.key b) - (((Bt.key c) + (Sp.hv (((Bt.key a) - (Bt.key c)) % 4294967296))) % 4294967296)) % 4294967296))) % 4294967296) (wu32 _)) (by decide) ?_
  refine GL.step (Stp.callR (vs := [(.int .u32 (((((Bt.key c) + (Sp.hv (((Bt.key a) - (Bt.key c)) % 4294967296))) % 4294967296) + (Sp.hv (((Bt.key b) - (((Bt.key c) + (Sp.hv (((Bt.key a) - (Bt.key c)) % 4294967296))) % 4294967296)) % 4294967296))) % 4294967296))]) rfl rfl T.own52 (by decide) (fun wc hw => unkey_p (((((Bt.key c) + (Sp.hv (((Bt.key a) - (Bt.key c)) % 4294967296))) % 4294967296) + (Sp.hv (((Bt.key b) - (((Bt.key c) + (Sp.hv (((Bt.key a) - (Bt.key c)) % 4294967296))) % 4294967296)) % 4294967296))) % 4294967296) wc (by first | assumption | omega | exact Bt.lst_bd (by assumption) (by assumption) | exact Bt.gst_bd (by assumption) (by assumption) | exact Bt.key_bd (by assumption) | exact Bt.unkey_bd (by assumption) | exact Bt.nxt_bd (by assumption) | exact Bt.lst_bd (Bt.gst_bd (by assumption) (by assumption)) (by assumption) | exact Bt.btw_bd (by assumption) (Bt.lst_bd (by assumption) (by assumption)) (Bt.gst_bd (by assumption) (by assumption))))) (fun xq13 hq14 => ?_)
  refine GL.val (Ex.move rfl) (by decide) ?_
  refine GL.val (v := (.int .u32 (((((Bt.key b) - (((Bt.key c) + (Sp.hv (((Bt.key a) - (Bt.key c)) % 4294967296))) % 4294967296)) % 4294967296) + 2147483648) % 4294967296))) (Ex.add rfl rfl (Z := ((((Bt.key b) - (((Bt.key c) + (Sp.hv (((Bt.key a) - (Bt.key c)) % 4294967296))) % 4294967296)) % 4294967296) + 2147483648) % 4294967296) (wu32 _)) (by decide) ?_
  refine GL.step (Stp.callR (vs := [(.int .u32 (((((Bt.key b) - (((Bt.key c) + (Sp.hv (((Bt.key a) - (Bt.key c)) % 4294967296))) % 4294967296)) % 4294967296) + 2147483648) % 4294967296))]) rfl rfl T.own52 (by decide) (fun wc hw => unkey_p (((((Bt.key b) - (((Bt.key c) + (Sp.hv (((Bt.key a) - (Bt.key c)) % 4294967296))) % 4294967296)) % 4294967296) + 2147483648) % 4294967296) wc (by first | assumption | omega | exact Bt.lst_bd (by assumption) (by assumption) | exact Bt.gst_bd (by assumption) (by assumption) | exact Bt.key_bd (by assumption) | exact Bt.unkey_bd (by assumption) | exact Bt.nxt_bd (by assumption) | exact Bt.lst_bd (Bt.gst_bd (by assumption) (by assumption)) (by assumption) | exact Bt.btw_bd (by assumption) (Bt.lst_bd (by assumption) (by assumption)) (Bt.gst_bd (by assumption) (by assumption))))) (fun xq15 hq16 => ?_)
  refine GL.val (Ex.move rfl) (by decide) ?_
  refine GL.val (v := (.int .u32 (((((Bt.key a) - (Bt.key c)) % 4294967296) + 2147483648) % 4294967296))) (Ex.add rfl rfl (Z := ((((Bt.key a) - (Bt.key c)) % 4294967296) + 2147483648) % 4294967296) (wu32 _)) (by decide) ?_
  refine GL.step (Stp.callR (vs := [(.int .u32 (((((Bt.key a) - (Bt.key c)) % 4294967296) + 2147483648) % 4294967296))]) rfl rfl T.own52 (by decide) (fun wc hw => unkey_p (((((Bt.key a) - (Bt.key c)) % 4294967296) + 2147483648) % 4294967296) wc (by first | assumption | omega | exact Bt.lst_bd (by assumption) (by assumption) | exact Bt.gst_bd (by assumption) (by assumption) | exact Bt.key_bd (by assumption) | exact Bt.unkey_bd (by assumption) | exact Bt.nxt_bd (by assumption) | exact Bt.lst_bd (Bt.gst_bd (by assumption) (by assumption)) (by assumption) | exact Bt.btw_bd (by assumption) (Bt.lst_bd (by assumption) (by assumption)) (Bt.gst_bd (by assumption) (by assumption))))) (fun xq17 hq18 => ?_)
  refine GL.val (Ex.assign rfl) (by decide) ?_
  refine GL.val (Ex.assign rfl) (by decide) ?_
  refine GL.val (Ex.assign rfl) (by decide) ?_
  refine GL.nil ?_
  refine GE.thenN ?_
  refine GC.ret ?_
  refine GC.ret3 rfl (Rv.tmp rfl) (Rv.tmp rfl) (Rv.tmp rfl) (fun wN HN => ?_)
  exact HN.ret () trivial (by rw [show (Sp.lft a b c).1 = Bt.unkey (((((Bt.key c) + (Sp.hv (((Bt.key a) - (Bt.key c)) % 4294967296))) % 4294967296) + (Sp.hv (((Bt.key b) - (((Bt.key c) + (Sp.hv (((Bt.key a) - (Bt.key c)) % 4294967296))) % 4294967296)) % 4294967296))) % 4294967296) from by unfold Sp.lft; first | done | (dsimp only; done) | (dsimp only; refine congrArg Bt.unkey ?_; omega), show (Sp.lft a b c).2.1 = Bt.unkey (((((Bt.key b) - (((Bt.key c) + (Sp.hv (((Bt.key a) - (Bt.key c)) % 4294967296))) % 4294967296)) % 4294967296) + 2147483648) % 4294967296) from by unfold Sp.lft; first | done | (dsimp only; done) | (dsimp only; refine congrArg Bt.unkey ?_; omega), show (Sp.lft a b c).2.2 = Bt.unkey (((((Bt.key a) - (Bt.key c)) % 4294967296) + 2147483648) % 4294967296) from by unfold Sp.lft; first | done | (dsimp only; done) | (dsimp only; refine congrArg Bt.unkey ?_; omega)]) (List.nil_sublist _) rfl

set_option maxRecDepth 100000 in
set_option maxHeartbeats 1000000 in
theorem lift_r (a b c : Int) (w : World) (ha : 0 ≤ a ∧ a < 4294967296) (hb : 0 ≤ b ∧ b < 4294967296) (hc : 0 ≤ c ∧ c < 4294967296) :
    Calls Try.prog 23 #[(.int .u32 a), (.int .u32 b), (.int .u32 c)] w (Ret w (fun _ : Unit => True) (fun _ => (.tuple #[(.int .u32 ((Sp.lft a b c).1)), (.int .u32 ((Sp.lft a b c).2.1)), (.int .u32 ((Sp.lft a b c).2.2))])) (fun _ => [])) := by
  refine enter (M := None) (L := []) (n := 39) (l := [(0, (.int .u32 a)), (1, (.int .u32 b)), (2, (.int .u32 c))]) Try.func23 rfl rfl (Args.cons rfl (Args.cons rfl (Args.cons rfl (Args.nil _)))) (Hp.start _ _) ?_
  refine GC.seq ?_
  have hka := Bt.key_bd ha
  have hkb := Bt.key_bd hb
  have hkc := Bt.key_bd hc
  refine GC.region ?_
  refine GL.val (Ex.assign rfl) (by decide) ?_
  refine GL.val (Ex.assign rfl) (by decide) ?_
  refine GL.val (Ex.assign rfl) (by decide) ?_
  refine GL.nil ?_
  refine GE.thenN ?_
  refine GC.seq ?_
  refine GC.region ?_
  refine GL.val (Ex.move rfl) (by decide) ?_
  refine GL.step (Stp.callR (vs := [(.int .u32 a)]) rfl rfl T.own53 (by decide) (fun wc hw => key_r a wc (by first | assumption | omega | exact Bt.lst_bd (by assumption) (by assumption) | exact Bt.gst_bd (by assumption) (by assumption) | exact Bt.key_bd (by assumption) | exact Bt.unkey_bd (by assumption) | exact Bt.nxt_bd (by assumption) | exact Bt.lst_bd (Bt.gst_bd (by assumption) (by assumption)) (by assumption) | exact Bt.btw_bd (by assumption) (Bt.lst_bd (by assumption) (by assumption)) (Bt.gst_bd (by assumption) (by assumption))))) (fun xq1 hq2 => ?_)
  refine GL.val (Ex.move rfl) (by decide) ?_
  refine GL.step (Stp.callR (vs := [(.int .u32 c)]) rfl rfl T.own53 (by decide) (fun wc hw => key_r c wc (by first | assumption | omega | exact Bt.lst_bd (by assumption) (by assumption) | exact Bt.gst_bd (by assumption) (by assumption) | exact Bt.key_bd (by assumption) | exact Bt.unkey_bd (by assumption) | exact Bt.nxt_bd (by assumption) | exact Bt.lst_bd (Bt.gst_bd (by assumption) (by assumption)) (by assumption) | exact Bt.btw_bd (by assumption) (Bt.lst_bd (by assumption) (by assumption)) (Bt.gst_bd (by assumption) (by assumption))))) (fun xq3 hq4 => ?_)
  refine GL.val (v := (.int .u32 (((Bt.key a) - (Bt.key c)) % 4294967296))) (Ex.sub' rfl rfl (Z := ((Bt.key a) - (Bt.key c)) % 4294967296) (wu32 _)) (by decide) ?_
  refine GL.val (Ex.assign rfl) (by decide) ?_
  refine GL.nil ?_
  refine GE.thenN ?_
  refine GC.seq ?_
  refine GC.region ?_
  refine GL.val (Ex.move rfl) (by decide) ?_
  refine GL.step (Stp.callR (vs := [(.int .u32 c)]) rfl rfl T.own53 (by decide) (fun wc hw => key_r c wc (by first | assumption | omega | exact Bt.lst_bd (by assumption) (by assumption) | exact Bt.gst_bd (by assumption) (by assumption) | exact Bt.key_bd (by assumption) | exact Bt.unkey_bd (by assumption) | exact Bt.nxt_bd (by assumption) | exact Bt.lst_bd (Bt.gst_bd (by assumption) (by assumption)) (by assumption) | exact Bt.btw_bd (by assumption) (Bt.lst_bd (by assumption) (by assumption)) (Bt.gst_bd (by assumption) (by assumption))))) (fun xq5 hq6 => ?_)
  refine GL.val (Ex.move rfl) (by decide) ?_
  refine GL.step (Stp.callR (vs := [(.int .u32 (((Bt.key a) - (Bt.key c)) % 4294967296))]) rfl rfl T.own54 (by decide) (fun wc hw => half_r (((Bt.key a) - (Bt.key c)) % 4294967296) wc (by first | assumption | omega | exact Bt.lst_bd (by assumption) (by assumption) | exact Bt.gst_bd (by assumption) (by assumption) | exact Bt.key_bd (by assumption) | exact Bt.unkey_bd (by assumption) | exact Bt.nxt_bd (by assumption) | exact Bt.lst_bd (Bt.gst_bd (by assumption) (by assumption)) (by assumption) | exact Bt.btw_bd (by assumption) (Bt.lst_bd (by assumption) (by assumption)) (Bt.gst_bd (by assumption) (by assumption))))) (fun xq7 hq8 => ?_)
  refine GL.val (v := (.int .u32 (((Bt.key c) + (Sp.hv (((Bt.key a) - (Bt.key c)) % 4294967296))) % 4294967296))) (Ex.add rfl rfl (Z := ((Bt.key c) + (Sp.hv (((Bt.key a) - (Bt.key c)) % 4294967296))) % 4294967296) (wu32 _)) (by decide) ?_
  refine GL.val (Ex.assign rfl) (by decide) ?_
  refine GL.nil ?_
  refine GE.thenN ?_
  refine GC.seq ?_
  refine GC.region ?_
  refine GL.val (Ex.move rfl) (by decide) ?_
  refine GL.step (Stp.callR (vs := [(.int .u32 b)]) rfl rfl T.own53 (by decide) (fun wc hw => key_r b wc (by first | assumption | omega | exact Bt.lst_bd (by assumption) (by assumption) | exact Bt.gst_bd (by assumption) (by assumption) | exact Bt.key_bd (by assumption) | exact Bt.unkey_bd (by assumption) | exact Bt.nxt_bd (by assumption) | exact Bt.lst_bd (Bt.gst_bd (by assumption) (by assumption)) (by assumption) | exact Bt.btw_bd (by assumption) (Bt.lst_bd (by assumption) (by assumption)) (Bt.gst_bd (by assumption) (by assumption))))) (fun xq9 hq10 => ?_)
  refine GL.val (Ex.move rfl) (by decide) ?_
  refine GL.val (v := (.int .u32 (((Bt.key b) - (((Bt.key c) + (Sp.hv (((Bt.key a) - (Bt.key c)) % 4294967296))) % 4294967296)) % 4294967296))) (Ex.sub' rfl rfl (Z := ((Bt.key b) - (((Bt.key c) + (Sp.hv (((Bt.key a) - (Bt.key c)) % 4294967296))) % 4294967296)) % 4294967296) (wu32 _)) (by decide) ?_
  refine GL.val (Ex.assign rfl) (by decide) ?_
  refine GL.nil ?_
  refine GE.thenN ?_
  refine GC.seq ?_
  refine GC.region ?_
  refine GL.val (Ex.move rfl) (by decide) ?_
  refine GL.val (Ex.move rfl) (by decide) ?_
  refine GL.step (Stp.callR (vs := [(.int .u32 (((Bt.key b) - (((Bt.key c) + (Sp.hv (((Bt.key a) - (Bt.key c)) % 4294967296))) % 4294967296)) % 4294967296))]) rfl rfl T.own54 (by decide) (fun wc hw => half_r (((Bt.key b) - (((Bt.key c) + (Sp.hv (((Bt.key a) - (Bt.key c)) % 4294967296))) % 4294967296)) % 4294967296) wc (by first | assumption | omega | exact Bt.lst_bd (by assumption) (by assumption) | exact Bt.gst_bd (by assumption) (by assumption) | exact Bt.key_bd (by assumption) | exact Bt.unkey_bd (by assumption) | exact Bt.nxt_bd (by assumption) | exact Bt.lst_bd (Bt.gst_bd (by assumption) (by assumption)) (by assumption) | exact Bt.btw_bd (by assumption) (Bt.lst_bd (by assumption) (by assumption)) (Bt.gst_bd (by assumption) (by assumption))))) (fun xq11 hq12 => ?_)
  refine GL.val (v := (.int .u32 (((((Bt.key c) + (Sp.hv (((Bt.key a) - (Bt.key c)) % 4294967296))) % 4294967296) + (Sp.hv (((Bt.key b) - (((Bt.key c) + (Sp.hv (((Bt.key a) - (Bt.key c)) % 4294967296))) % 4294967296)) % 4294967296))) % 4294967296))) (Ex.add rfl rfl (Z := ((((Bt.key c) + (Sp.hv (((Bt.key a) - (Bt.key c)) % 4294967296))) % 4294967296) + (Sp.hv (((Bt.key b) - (((Bt.key c) + (Sp.hv (((Bt.key a) - (Bt.key c)) % 4294967296))) % 4294967296)) % 4294967296))) % 4294967296) (wu32 _)) (by decide) ?_
  refine GL.val (Ex.assign rfl) (by decide) ?_
  refine GL.nil ?_
  refine GE.thenN ?_
  refine GC.seq ?_
  refine GC.region ?_
  refine GL.val (Ex.move rfl) (by decide) ?_
  refine GL.step (Stp.callR (vs := [(.int .u32 (((((Bt.key c) + (Sp.hv (((Bt.key a) - (Bt.key c)) % 4294967296))) % 4294967296) + (Sp.hv (((Bt.key b) - (((Bt.key c) + (Sp.hv (((Bt.key a) - (Bt.key c)) % 4294967296))) % 4294967296)) % 4294967296))) % 4294967296))]) rfl rfl T.own55 (by decide) (fun wc hw => unkey_r (((((Bt.key c) + (Sp.hv (((Bt.key a) - (Bt.key c)) % 4294967296))) % 4294967296) + (Sp.hv (((Bt.key b) - (((Bt.key c) + (Sp.hv (((Bt.key a) - (Bt.key c)) % 4294967296))) % 4294967296)) % 4294967296))) % 4294967296) wc (by first | assumption | omega | exact Bt.lst_bd (by assumption) (by assumption) | exact Bt.gst_bd (by assumption) (by assumption) | exact Bt.key_bd (by assumption) | exact Bt.unkey_bd (by assumption) | exact Bt.nxt_bd (by assumption) | exact Bt.lst_bd (Bt.gst_bd (by assumption) (by assumption)) (by assumption) | exact Bt.btw_bd (by assumption) (Bt.lst_bd (by assumption) (by assumption)) (Bt.gst_bd (by assumption) (by assumption))))) (fun xq13 hq14 => ?_)
  refine GL.val (Ex.move rfl) (by decide) ?_
  refine GL.val (v := (.int .u32 (((((Bt.key b) - (((Bt.key c) + (Sp.hv (((Bt.key a) - (Bt.key c)) % 4294967296))) % 4294967296)) % 4294967296) + 2147483648) % 4294967296))) (Ex.add rfl rfl (Z := ((((Bt.key b) - (((Bt.key c) + (Sp.hv (((Bt.key a) - (Bt.key c)) % 4294967296))) % 4294967296)) % 4294967296) + 2147483648) % 4294967296) (wu32 _)) (by decide) ?_
  refine GL.step (Stp.callR (vs := [(.int .u32 (((((Bt.key b) - (((Bt.key c) + (Sp.hv (((Bt.key a) - (Bt.key c)) % 4294967296))) % 4294967296)) % 4294967296) + 2147483648) % 4294967296))]) rfl rfl T.own55 (by decide) (fun wc hw => unkey_r (((((Bt.key b) - (((Bt.key c) + (Sp.hv (((Bt.key a) - (Bt.key c)) % 4294967296))) % 4294967296)) % 4294967296) + 2147483648) % 4294967296) wc (by first | assumption | omega | exact Bt.lst_bd (by assumption) (by assumption) | exact Bt.gst_bd (by assumption) (by assumption) | exact Bt.key_bd (by assumption) | exact Bt.unkey_bd (by assumption) | exact Bt.nxt_bd (by assumption) | exact Bt.lst_bd (Bt.gst_bd (by assumption) (by assumption)) (by assumption) | exact Bt.btw_bd (by assumption) (Bt.lst_bd (by assumption) (by assumption)) (Bt.gst_bd (by assumption) (by assumption))))) (fun xq15 hq16 => ?_)
  refine GL.val (Ex.move rfl) (by decide) ?_
  refine GL.val (v := (.int .u32 (((((Bt.key a) - (Bt.key c)) % 4294967296) + 2147483648) % 4294967296))) (Ex.add rfl rfl (Z := ((((Bt.key a) - (Bt.key c)) % 4294967296) + 2147483648) % 4294967296) (wu32 _)) (by decide) ?_
  refine GL.step (Stp.callR (vs := [(.int .u32 (((((Bt.key a) - (Bt.key c)) % 4294967296) + 2147483648) % 4294967296))]) rfl rfl T.own55 (by decide) (fun wc hw => unkey_r (((((Bt.key a) - (Bt.key c)) % 4294967296) + 2147483648) % 4294967296) wc (by first | assumption | omega | exact Bt.lst_bd (by assumption) (by assumption) | exact Bt.gst_bd (by assumption) (by assumption) | exact Bt.key_bd (by assumption) | exact Bt.unkey_bd (by assumption) | exact Bt.nxt_bd (by assumption) | exact Bt.lst_bd (Bt.gst_bd (by assumption) (by assumption)) (by assumption) | exact Bt.btw_bd (by assumption) (Bt.lst_bd (by assumption) (by assumption)) (Bt.gst_bd (by assumption) (by assumption))))) (fun xq17 hq18 => ?_)
  refine GL.val (Ex.assign rfl) (by decide) ?_
  refine GL.val (Ex.assign rfl) (by decide) ?_
  refine GL.val (Ex.assign rfl) (by decide) ?_
  refine GL.nil ?_
  refine GE.thenN ?_
  refine GC.ret ?_
  refine GC.ret3 rfl (Rv.tmp rfl) (Rv.tmp rfl) (Rv.tmp rfl) (fun wN HN => ?_)
  exact HN.ret () trivial (by rw [show (Sp.lft a b c).1 = Bt.unkey (((((Bt.key c) + (Sp.hv (((Bt.key a) - (Bt.key c)) % 4294967296))) % 4294967296) + (Sp.hv (((Bt.key b) - (((Bt.key c) + (Sp.hv (((Bt.key a) - (Bt.key c)) % 4294967296))) % 4294967296)) % 4294967296))) % 4294967296) from by unfold Sp.lft; first | done | (dsimp only; done) | (dsimp only; refine congrArg Bt.unkey ?_; omega), show (Sp.lft a b c).2.1 = Bt.unkey (((((Bt.key b) - (((Bt.key c) + (Sp.hv (((Bt.key a) - (Bt.key c)) % 4294967296))) % 4294967296)) % 4294967296) + 2147483648) % 4294967296) from by unfold Sp.lft; first | done | (dsimp only; done) | (dsimp only; refine congrArg Bt.unkey ?_; omega), show (Sp.lft a b c).2.2 = Bt.unkey (((((Bt.key a) - (Bt.key c)) % 4294967296) + 2147483648) % 4294967296) from by unfold Sp.lft; first | done | (dsimp only; done) | (dsimp only; refine congrArg Bt.unkey ?_; omega)]) (List.nil_sublist _) rfl

set_option maxRecDepth 100000 in
set_option maxHeartbeats 1000000 in
theorem drop_p (a b c : Int) (w : World) (ha : 0 ≤ a ∧ a < 4294967296) (hb : 0 ≤ b ∧ b < 4294967296) (hc : 0 ≤ c ∧ c < 4294967296) :
    Calls Try.prog 24 #[(.int .u32 a), (.int .u32 b), (.int .u32 c)] w (Ret w (fun _ : Unit => True) (fun _ => (.tuple #[(.int .u32 ((Sp.drp a b c).1)), (.int .u32 ((Sp.drp a b c).2.1)), (.int .u32 ((Sp.drp a b c).2.2))])) (fun _ => [])) := by
  refine enter (M := None) (L := []) (n := 38) (l := [(0, (.int .u32 a)), (1, (.int .u32 b)), (2, (.int .u32 c))]) Try.func24 rfl rfl (Args.cons rfl (Args.cons rfl (Args.cons rfl (Args.nil _)))) (Hp.start _ _) ?_
  refine GC.seq ?_
  have hka := Bt.key_bd ha
  have hkb := Bt.key_bd hb
  have hkc := Bt.key_bd hc
  refine GC.region ?_
  refine GL.val (Ex.assign rfl) (by decide) ?_
  refine GL.val (Ex.assign rfl) (by decide) ?_
  refine GL.val (Ex.assign rfl) (by decide) ?_
  refine GL.nil ?_
  refine GE.thenN ?_
  refine GC.seq ?_
  refine GC.region ?_
  refine GL.val (Ex.move rfl) (by decide) ?_
  refine GL.step (Stp.callR (vs := [(.int .u32 b)]) rfl rfl T.own50 (by decide) (fun wc hw => key_p b wc (by first | assumption | omega | exact Bt.lst_bd (by assumption) (by assumption) | exact Bt.gst_bd (by assumption) (by assumption) | exact Bt.key_bd (by assumption) | exact Bt.unkey_bd (by assumption) | exact Bt.nxt_bd (by assumption) | exact Bt.lst_bd (Bt.gst_bd (by assumption) (by assumption)) (by assumption) | exact Bt.btw_bd (by assumption) (Bt.lst_bd (by assumption) (by assumption)) (Bt.gst_bd (by assumption) (by assumption))))) (fun xq1 hq2 => ?_)
  refine GL.val (v := (.int .u32 (((Bt.key b) - 2147483648) % 4294967296))) (Ex.sub' rfl rfl (Z := ((Bt.key b) - 2147483648) % 4294967296) (wu32 _)) (by decide) ?_
  refine GL.val (Ex.move rfl) (by decide) ?_
  refine GL.step (Stp.callR (vs := [(.int .u32 c)]) rfl rfl T.own50 (by decide) (fun wc hw => key_p c wc (by first | assumption | omega | exact Bt.lst_bd (by assumption) (by assumption) | exact Bt.gst_bd (by assumption) (by assumption) | exact Bt.key_bd (by assumption) | exact Bt.unkey_bd (by assumption) | exact Bt.nxt_bd (by assumption) | exact Bt.lst_bd (Bt.gst_bd (by assumption) (by assumption)) (by assumption) | exact Bt.btw_bd (by assumption) (Bt.lst_bd (by assumption) (by assumption)) (Bt.gst_bd (by assumption) (by assumption))))) (fun xq3 hq4 => ?_)
  refine GL.val (v := (.int .u32 (((Bt.key c) - 2147483648) % 4294967296))) (Ex.sub' rfl rfl (Z := ((Bt.key c) - 2147483648) % 4294967296) (wu32 _)) (by decide) ?_
  refine GL.val (Ex.assign rfl) (by decide) ?_
  refine GL.val (Ex.assign rfl) (by decide) ?_
  refine GL.nil ?_
  refine GE.thenN ?_
  refine GC.seq ?_
  refine GC.region ?_
  refine GL.val (Ex.move rfl) (by decide) ?_
  refine GL.step (Stp.callR (vs := [(.int .u32 a)]) rfl rfl T.own50 (by decide) (fun wc hw => key_p a wc (by first | assumption | omega | exact Bt.lst_bd (by assumption) (by assumption) | exact Bt.gst_bd (by assumption) (by assumption) | exact Bt.key_bd (by assumption) | exact Bt.unkey_bd (by assumption) | exact Bt.nxt_bd (by assumption) | exact Bt.lst_bd (Bt.gst_bd (by assumption) (by assumption)) (by assumption) | exact Bt.btw_bd (by assumption) (Bt.lst_bd (by assumption) (by assumption)) (Bt.gst_bd (by assumption) (by assumption))))) (fun xq5 hq6 => ?_)
  refine GL.val (Ex.move rfl) (by decide) ?_
  refine GL.step (Stp.callR (vs := [(.int .u32 (((Bt.key b) - 2147483648) % 4294967296))]) rfl rfl T.own51 (by decide) (fun wc hw => halved_p (((Bt.key b) - 2147483648) % 4294967296) wc (by first | assumption | omega | exact Bt.lst_bd (by assumption) (by assumption) | exact Bt.gst_bd (by assumption) (by assumption) | exact Bt.key_bd (by assumption) | exact Bt.unkey_bd (by assumption) | exact Bt.nxt_bd (by assumption) | exact Bt.lst_bd (Bt.gst_bd (by assumption) (by assumption)) (by assumption) | exact Bt.btw_bd (by assumption) (Bt.lst_bd (by assumption) (by assumption)) (Bt.gst_bd (by assumption) (by assumption))))) (fun xq7 hq8 => ?_)
  refine GL.val (v := (.int .u32 (((Bt.key a) - (Sp.hv (((Bt.key b) - 2147483648) % 4294967296))) % 4294967296))) (Ex.sub' rfl rfl (Z := ((Bt.key a) - (Sp.hv (((Bt.key b) - 2147483648) % 4294967296))) % 4294967296) (wu32 _)) (by decide) ?_
  refine GL.val (Ex.assign rfl) (by decide) ?_
  refine GL.nil ?_
  refine GE.thenN ?_
  refine GC.seq ?_
  refine GC.region ?_
  refine GL.val (Ex.move rfl) (by decide) ?_
  refine GL.val (Ex.move rfl) (by decide) ?_
  refine GL.step (Stp.callR (vs := [(.int .u32 (((Bt.key c) - 2147483648) % 4294967296))]) rfl rfl T.own51 (by decide) (fun wc hw => halved_p (((Bt.key c) - 2147483648) % 4294967296) wc (by first | assumption | omega | exact Bt.lst_bd (by assumption) (by assumption) | exact Bt.gst_bd (by assumption) (by assumption) | exact Bt.key_bd (by assumption) | exact Bt.unkey_bd (by assumption) | exact Bt.nxt_bd (by assumption) | exact Bt.lst_bd (Bt.gst_bd (by assumption) (by assumption)) (by assumption) | exact Bt.btw_bd (by assumption) (Bt.lst_bd (by assumption) (by assumption)) (Bt.gst_bd (by assumption) (by assumption))))) (fun xq9 hq10 => ?_)
  refine GL.val (v := (.int .u32 (((((Bt.key a) - (Sp.hv (((Bt.key b) - 2147483648) % 4294967296))) % 4294967296) - (Sp.hv (((Bt.key c) - 2147483648) % 4294967296))) % 4294967296))) (Ex.sub' rfl rfl (Z := ((((Bt.key a) - (Sp.hv (((Bt.key b) - 2147483648) % 4294967296))) % 4294967296) - (Sp.hv (((Bt.key c) - 2147483648) % 4294967296))) % 4294967296) (wu32 _)) (by decide) ?_
  refine GL.val (Ex.assign rfl) (by decide) ?_
  refine GL.nil ?_
  refine GE.thenN ?_
  refine GC.seq ?_
  refine GC.region ?_
  refine GL.val (Ex.move rfl) (by decide) ?_
  refine GL.val (Ex.move rfl) (by decide) ?_
  refine GL.val (v := (.int .u32 (((((((Bt.key a) - (Sp.hv (((Bt.key b) - 2147483648) % 4294967296))) % 4294967296) - (Sp.hv (((Bt.key c) - 2147483648) % 4294967296))) % 4294967296) + (((Bt.key c) - 2147483648) % 4294967296)) % 4294967296))) (Ex.add rfl rfl (Z := ((((((Bt.key a) - (Sp.hv (((Bt.key b) - 2147483648) % 4294967296))) % 4294967296) - (Sp.hv (((Bt.key c) - 2147483648) % 4294967296))) % 4294967296) + (((Bt.key c) - 2147483648) % 4294967296)) % 4294967296) (wu32 _)) (by decide) ?_
  refine GL.step (Stp.callR (vs := [(.int .u32 (((((((Bt.key a) - (Sp.hv (((Bt.key b) - 2147483648) % 4294967296))) % 4294967296) - (Sp.hv (((Bt.key c) - 2147483648) % 4294967296))) % 4294967296) + (((Bt.key c) - 2147483648) % 4294967296)) % 4294967296))]) rfl rfl T.own52 (by decide) (fun wc hw => unkey_p (((((((Bt.key a) - (Sp.hv (((Bt.key b) - 2147483648) % 4294967296))) % 4294967296) - (Sp.hv (((Bt.key c) - 2147483648) % 4294967296))) % 4294967296) + (((Bt.key c) - 2147483648) % 4294967296)) % 4294967296) wc (by first | assumption | omega | exact Bt.lst_bd (by assumption) (by assumption) | exact Bt.gst_bd (by assumption) (by assumption) | exact Bt.key_bd (by assumption) | exact Bt.unkey_bd (by assumption) | exact Bt.nxt_bd (by assumption) | exact Bt.lst_bd (Bt.gst_bd (by assumption) (by assumption)) (by assumption) | exact Bt.btw_bd (by assumption) (Bt.lst_bd (by assumption) (by assumption)) (Bt.gst_bd (by assumption) (by assumption))))) (fun xq11 hq12 => ?_)
  refine GL.val (Ex.move rfl) (by decide) ?_
  refine GL.val (Ex.move rfl) (by decide) ?_
  refine GL.val (v := (.int .u32 (((((Bt.key b) - 2147483648) % 4294967296) + (((Bt.key a) - (Sp.hv (((Bt.key b) - 2147483648) % 4294967296))) % 4294967296)) % 4294967296))) (Ex.add rfl rfl (Z := ((((Bt.key b) - 2147483648) % 4294967296) + (((Bt.key a) - (Sp.hv (((Bt.key b) - 2147483648) % 4294967296))) % 4294967296)) % 4294967296) (wu32 _)) (by decide) ?_
  refine GL.step (Stp.callR (vs := [(.int .u32 (((((Bt.key b) - 2147483648) % 4294967296) + (((Bt.key a) - (Sp.hv (((Bt.key b) - 2147483648) % 4294967296))) % 4294967296)) % 4294967296))]) rfl rfl T.own52 (by decide) (fun wc hw => unkey_p (((((Bt.key b) - 2147483648) % 4294967296) + (((Bt.key a) - (Sp.hv (((Bt.key b) - 2147483648) % 4294967296))) % 4294967296)) % 4294967296) wc (by first | assumption | omega | exact Bt.lst_bd (by assumption) (by assumption) | exact Bt.gst_bd (by assumption) (by assumption) | exact Bt.key_bd (by assumption) | exact Bt.unkey_bd (by assumption) | exact Bt.nxt_bd (by assumption) | exact Bt.lst_bd (Bt.gst_bd (by assumption) (by assumption)) (by assumption) | exact Bt.btw_bd (by assumption) (Bt.lst_bd (by assumption) (by assumption)) (Bt.gst_bd (by assumption) (by assumption))))) (fun xq13 hq14 => ?_)
  refine GL.val (Ex.move rfl) (by decide) ?_
  refine GL.step (Stp.callR (vs := [(.int .u32 (((((Bt.key a) - (Sp.hv (((Bt.key b) - 2147483648) % 4294967296))) % 4294967296) - (Sp.hv (((Bt.key c) - 2147483648) % 4294967296))) % 4294967296))]) rfl rfl T.own52 (by decide) (fun wc hw => unkey_p (((((Bt.key a) - (Sp.hv (((Bt.key b) - 2147483648) % 4294967296))) % 4294967296) - (Sp.hv (((Bt.key c) - 2147483648) % 4294967296))) % 4294967296) wc (by first | assumption | omega | exact Bt.lst_bd (by assumption) (by assumption) | exact Bt.gst_bd (by assumption) (by assumption) | exact Bt.key_bd (by assumption) | exact Bt.unkey_bd (by assumption) | exact Bt.nxt_bd (by assumption) | exact Bt.lst_bd (Bt.gst_bd (by assumption) (by assumption)) (by assumption) | exact Bt.btw_bd (by assumption) (Bt.lst_bd (by assumption) (by assumption)) (Bt.gst_bd (by assumption) (by assumption))))) (fun xq15 hq16 => ?_)
  refine GL.val (Ex.assign rfl) (by decide) ?_
  refine GL.val (Ex.assign rfl) (by decide) ?_
  refine GL.val (Ex.assign rfl) (by decide) ?_
  refine GL.nil ?_
  refine GE.thenN ?_
  refine GC.ret ?_
  refine GC.ret3 rfl (Rv.tmp rfl) (Rv.tmp rfl) (Rv.tmp rfl) (fun wN HN => ?_)
  exact HN.ret () trivial (by rw [show (Sp.drp a b c).1 = Bt.unkey (((((((Bt.key a) - (Sp.hv (((Bt.key b) - 2147483648) % 4294967296))) % 4294967296) - (Sp.hv (((Bt.key c) - 2147483648) % 4294967296))) % 4294967296) + (((Bt.key c) - 2147483648) % 4294967296)) % 4294967296) from by unfold Sp.drp; first | done | (dsimp only; done) | (dsimp only; refine congrArg Bt.unkey ?_; omega), show (Sp.drp a b c).2.1 = Bt.unkey (((((Bt.key b) - 2147483648) % 4294967296) + (((Bt.key a) - (Sp.hv (((Bt.key b) - 2147483648) % 4294967296))) % 4294967296)) % 4294967296) from by unfold Sp.drp; first | done | (dsimp only; done) | (dsimp only; refine congrArg Bt.unkey ?_; omega), show (Sp.drp a b c).2.2 = Bt.unkey (((((Bt.key a) - (Sp.hv (((Bt.key b) - 2147483648) % 4294967296))) % 4294967296) - (Sp.hv (((Bt.key c) - 2147483648) % 4294967296))) % 4294967296) from by unfold Sp.drp; first | done | (dsimp only; done) | (dsimp only; refine congrArg Bt.unkey ?_; omega)]) (List.nil_sublist _) rfl

set_option maxRecDepth 100000 in
set_option maxHeartbeats 1000000 in
theorem drop_r (a b c : Int) (w : World) (ha : 0 ≤ a ∧ a < 4294967296) (hb : 0 ≤ b ∧ b < 4294967296) (hc : 0 ≤ c ∧ c < 4294967296) :
    Calls Try.prog 25 #[(.int .u32 a), (.int .u32 b), (.int .u32 c)] w (Ret w (fun _ : Unit => True) (fun _ => (.tuple #[(.int .u32 ((Sp.drp a b c).1)), (.int .u32 ((Sp.drp a b c).2.1)), (.int .u32 ((Sp.drp a b c).2.2))])) (fun _ => [])) := by
  refine enter (M := None) (L := []) (n := 38) (l := [(0, (.int .u32 a)), (1, (.int .u32 b)), (2, (.int .u32 c))]) Try.func25 rfl rfl (Args.cons rfl (Args.cons rfl (Args.cons rfl (Args.nil _)))) (Hp.start _ _) ?_
  refine GC.seq ?_
  have hka := Bt.key_bd ha
  have hkb := Bt.key_bd hb
  have hkc := Bt.key_bd hc
  refine GC.region ?_
  refine GL.val (Ex.assign rfl) (by decide) ?_
  refine GL.val (Ex.assign rfl) (by decide) ?_
  refine GL.val (Ex.assign rfl) (by decide) ?_
  refine GL.nil ?_
  refine GE.thenN ?_
  refine GC.seq ?_
  refine GC.region ?_
  refine GL.val (Ex.move rfl) (by decide) ?_
  refine GL.step (Stp.callR (vs := [(.int .u32 b)]) rfl rfl T.own53 (by decide) (fun wc hw => key_r b wc (by first | assumption | omega | exact Bt.lst_bd (by assumption) (by assumption) | exact Bt.gst_bd (by assumption) (by assumption) | exact Bt.key_bd (by assumption) | exact Bt.unkey_bd (by assumption) | exact Bt.nxt_bd (by assumption) | exact Bt.lst_bd (Bt.gst_bd (by assumption) (by assumption)) (by assumption) | exact Bt.btw_bd (by assumption) (Bt.lst_bd (by assumption) (by assumption)) (Bt.gst_bd (by assumption) (by assumption))))) (fun xq1 hq2 => ?_)
  refine GL.val (v := (.int .u32 (((Bt.key b) - 2147483648) % 4294967296))) (Ex.sub' rfl rfl (Z := ((Bt.key b) - 2147483648) % 4294967296) (wu32 _)) (by decide) ?_
  refine GL.val (Ex.move rfl) (by decide) ?_
  refine GL.step (Stp.callR (vs := [(.int .u32 c)]) rfl rfl T.own53 (by decide) (fun wc hw => key_r c wc (by first | assumption | omega | exact Bt.lst_bd (by assumption) (by assumption) | exact Bt.gst_bd (by assumption) (by assumption) | exact Bt.key_bd (by assumption) | exact Bt.unkey_bd (by assumption) | exact Bt.nxt_bd (by assumption) | exact Bt.lst_bd (Bt.gst_bd (by assumption) (by assumption)) (by assumption) | exact Bt.btw_bd (by assumption) (Bt.lst_bd (by assumption) (by assumption)) (Bt.gst_bd (by assumption) (by assumption))))) (fun xq3 hq4 => ?_)
  refine GL.val (v := (.int .u32 (((Bt.key c) - 2147483648) % 4294967296))) (Ex.sub' rfl rfl (Z := ((Bt.key c) - 2147483648) % 4294967296) (wu32 _)) (by decide) ?_
  refine GL.val (Ex.assign rfl) (by decide) ?_
  refine GL.val (Ex.assign rfl) (by decide) ?_
  refine GL.nil ?_
  refine GE.thenN ?_
  refine GC.seq ?_
  refine GC.region ?_
  refine GL.val (Ex.move rfl) (by decide) ?_
  refine GL.step (Stp.callR (vs := [(.int .u32 a)]) rfl rfl T.own53 (by decide) (fun wc hw => key_r a wc (by first | assumption | omega | exact Bt.lst_bd (by assumption) (by assumption) | exact Bt.gst_bd (by assumption) (by assumption) | exact Bt.key_bd (by assumption) | exact Bt.unkey_bd (by assumption) | exact Bt.nxt_bd (by assumption) | exact Bt.lst_bd (Bt.gst_bd (by assumption) (by assumption)) (by assumption) | exact Bt.btw_bd (by assumption) (Bt.lst_bd (by assumption) (by assumption)) (Bt.gst_bd (by assumption) (by assumption))))) (fun xq5 hq6 => ?_)
  refine GL.val (Ex.move rfl) (by decide) ?_
  refine GL.step (Stp.callR (vs := [(.int .u32 (((Bt.key b) - 2147483648) % 4294967296))]) rfl rfl T.own54 (by decide) (fun wc hw => half_r (((Bt.key b) - 2147483648) % 4294967296) wc (by first | assumption | omega | exact Bt.lst_bd (by assumption) (by assumption) | exact Bt.gst_bd (by assumption) (by assumption) | exact Bt.key_bd (by assumption) | exact Bt.unkey_bd (by assumption) | exact Bt.nxt_bd (by assumption) | exact Bt.lst_bd (Bt.gst_bd (by assumption) (by assumption)) (by assumption) | exact Bt.btw_bd (by assumption) (Bt.lst_bd (by assumption) (by assumption)) (Bt.gst_bd (by assumption) (by assumption))))) (fun xq7 hq8 => ?_)
  refine GL.val (v := (.int .u32 (((Bt.key a) - (Sp.hv (((Bt.key b) - 2147483648) % 4294967296))) % 4294967296))) (Ex.sub' rfl rfl (Z := ((Bt.key a) - (Sp.hv (((Bt.key b) - 2147483648) % 4294967296))) % 4294967296) (wu32 _)) (by decide) ?_
  refine GL.val (Ex.assign rfl) (by decide) ?_
  refine GL.nil ?_
  refine GE.thenN ?_
  refine GC.seq ?_
  refine GC.region ?_
  refine GL.val (Ex.move rfl) (by decide) ?_
  refine GL.val (Ex.move rfl) (by decide) ?_
  refine GL.step (Stp.callR (vs := [(.int .u32 (((Bt.key c) - 2147483648) % 4294967296))]) rfl rfl T.own54 (by decide) (fun wc hw => half_r (((Bt.key c) - 2147483648) % 4294967296) wc (by first | assumption | omega | exact Bt.lst_bd (by assumption) (by assumption) | exact Bt.gst_bd (by assumption) (by assumption) | exact Bt.key_bd (by assumption) | exact Bt.unkey_bd (by assumption) | exact Bt.nxt_bd (by assumption) | exact Bt.lst_bd (Bt.gst_bd (by assumption) (by assumption)) (by assumption) | exact Bt.btw_bd (by assumption) (Bt.lst_bd (by assumption) (by assumption)) (Bt.gst_bd (by assumption) (by assumption))))) (fun xq9 hq10 => ?_)
  refine GL.val (v := (.int .u32 (((((Bt.key a) - (Sp.hv (((Bt.key b) - 2147483648) % 4294967296))) % 4294967296) - (Sp.hv (((Bt.key c) - 2147483648) % 4294967296))) % 4294967296))) (Ex.sub' rfl rfl (Z := ((((Bt.key a) - (Sp.hv (((Bt.key b) - 2147483648) % 4294967296))) % 4294967296) - (Sp.hv (((Bt.key c) - 2147483648) % 4294967296))) % 4294967296) (wu32 _)) (by decide) ?_
  refine GL.val (Ex.assign rfl) (by decide) ?_
  refine GL.nil ?_
  refine GE.thenN ?_
  refine GC.seq ?_
  refine GC.region ?_
  refine GL.val (Ex.move rfl) (by decide) ?_
  refine GL.val (Ex.move rfl) (by decide) ?_
  refine GL.val (v := (.int .u32 (((((Bt.key c) - 2147483648) % 4294967296) + (((((Bt.key a) - (Sp.hv (((Bt.key b) - 2147483648) % 4294967296))) % 4294967296) - (Sp.hv (((Bt.key c) - 2147483648) % 4294967296))) % 4294967296)) % 4294967296))) (Ex.add rfl rfl (Z := ((((Bt.key c) - 2147483648) % 4294967296) + (((((Bt.key a) - (Sp.hv (((Bt.key b) - 2147483648) % 4294967296))) % 4294967296) - (Sp.hv (((Bt.key c) - 2147483648) % 4294967296))) % 4294967296)) % 4294967296) (wu32 _)) (by decide) ?_
  refine GL.step (Stp.callR (vs := [(.int .u32 (((((Bt.key c) - 2147483648) % 4294967296) + (((((Bt.key a) - (Sp.hv (((Bt.key b) - 2147483648) % 4294967296))) % 4294967296) - (Sp.hv (((Bt.key c) - 2147483648) % 4294967296))) % 4294967296)) % 4294967296))]) rfl rfl T.own55 (by decide) (fun wc hw => unkey_r (((((Bt.key c) - 2147483648) % 4294967296) + (((((Bt.key a) - (Sp.hv (((Bt.key b) - 2147483648) % 4294967296))) % 4294967296) - (Sp.hv (((Bt.key c) - 2147483648) % 4294967296))) % 4294967296)) % 4294967296) wc (by first | assumption | omega | exact Bt.lst_bd (by assumption) (by assumption) | exact Bt.gst_bd (by assumption) (by assumption) | exact Bt.key_bd (by assumption) | exact Bt.unkey_bd (by assumption) | exact Bt.nxt_bd (by assumption) | exact Bt.lst_bd (Bt.gst_bd (by assumption) (by assumption)) (by assumption) | exact Bt.btw_bd (by assumption) (Bt.lst_bd (by assumption) (by assumption)) (Bt.gst_bd (by assumption) (by assumption))))) (fun xq11 hq12 => ?_)
  refine GL.val (Ex.move rfl) (by decide) ?_
  refine GL.val (Ex.move rfl) (by decide) ?_
  refine GL.val (v := (.int .u32 (((((Bt.key b) - 2147483648) % 4294967296) + (((Bt.key a) - (Sp.hv (((Bt.key b) - 2147483648) % 4294967296))) % 4294967296)) % 4294967296))) (Ex.add rfl rfl (Z := ((((Bt.key b) - 2147483648) % 4294967296) + (((Bt.key a) - (Sp.hv (((Bt.key b) - 2147483648) % 4294967296))) % 4294967296)) % 4294967296) (wu32 _)) (by decide) ?_
  refine GL.step (Stp.callR (vs := [(.int .u32 (((((Bt.key b) - 2147483648) % 4294967296) + (((Bt.key a) - (Sp.hv (((Bt.key b) - 2147483648) % 4294967296))) % 4294967296)) % 4294967296))]) rfl rfl T.own55 (by decide) (fun wc hw => unkey_r (((((Bt.key b) - 2147483648) % 4294967296) + (((Bt.key a) - (Sp.hv (((Bt.key b) - 2147483648) % 4294967296))) % 4294967296)) % 4294967296) wc (by first | assumption | omega | exact Bt.lst_bd (by assumption) (by assumption) | exact Bt.gst_bd (by assumption) (by assumption) | exact Bt.key_bd (by assumption) | exact Bt.unkey_bd (by assumption) | exact Bt.nxt_bd (by assumption) | exact Bt.lst_bd (Bt.gst_bd (by assumption) (by assumption)) (by assumption) | exact Bt.btw_bd (by assumption) (Bt.lst_bd (by assumption) (by assumption)) (Bt.gst_bd (by assumption) (by assumption))))) (fun xq13 hq14 => ?_)
  refine GL.val (Ex.move rfl) (by decide) ?_
  refine GL.step (Stp.callR (vs := [(.int .u32 (((((Bt.key a) - (Sp.hv (((Bt.key b) - 2147483648) % 4294967296))) % 4294967296) - (Sp.hv (((Bt.key c) - 2147483648) % 4294967296))) % 4294967296))]) rfl rfl T.own55 (by decide) (fun wc hw => unkey_r (((((Bt.key a) - (Sp.hv (((Bt.key b) - 2147483648) % 4294967296))) % 4294967296) - (Sp.hv (((Bt.key c) - 2147483648) % 4294967296))) % 4294967296) wc (by first | assumption | omega | exact Bt.lst_bd (by assumption) (by assumption) | exact Bt.gst_bd (by assumption) (by assumption) | exact Bt.key_bd (by assumption) | exact Bt.unkey_bd (by assumption) | exact Bt.nxt_bd (by assumption) | exact Bt.lst_bd (Bt.gst_bd (by assumption) (by assumption)) (by assumption) | exact Bt.btw_bd (by assumption) (Bt.lst_bd (by assumption) (by assumption)) (Bt.gst_bd (by assumption) (by assumption))))) (fun xq15 hq16 => ?_)
  refine GL.val (Ex.assign rfl) (by decide) ?_
  refine GL.val (Ex.assign rfl) (by decide) ?_
  refine GL.val (Ex.assign rfl) (by decide) ?_
  refine GL.nil ?_
  refine GE.thenN ?_
  refine GC.ret ?_
  refine GC.ret3 rfl (Rv.tmp rfl) (Rv.tmp rfl) (Rv.tmp rfl) (fun wN HN => ?_)
  exact HN.ret () trivial (by rw [show (Sp.drp a b c).1 = Bt.unkey (((((Bt.key c) - 2147483648) % 4294967296) + (((((Bt.key a) - (Sp.hv (((Bt.key b) - 2147483648) % 4294967296))) % 4294967296) - (Sp.hv (((Bt.key c) - 2147483648) % 4294967296))) % 4294967296)) % 4294967296) from by unfold Sp.drp; first | done | (dsimp only; done) | (dsimp only; refine congrArg Bt.unkey ?_; omega), show (Sp.drp a b c).2.1 = Bt.unkey (((((Bt.key b) - 2147483648) % 4294967296) + (((Bt.key a) - (Sp.hv (((Bt.key b) - 2147483648) % 4294967296))) % 4294967296)) % 4294967296) from by unfold Sp.drp; first | done | (dsimp only; done) | (dsimp only; refine congrArg Bt.unkey ?_; omega), show (Sp.drp a b c).2.2 = Bt.unkey (((((Bt.key a) - (Sp.hv (((Bt.key b) - 2147483648) % 4294967296))) % 4294967296) - (Sp.hv (((Bt.key c) - 2147483648) % 4294967296))) % 4294967296) from by unfold Sp.drp; first | done | (dsimp only; done) | (dsimp only; refine congrArg Bt.unkey ?_; omega)]) (List.nil_sublist _) rfl

set_option maxRecDepth 100000 in
set_option maxHeartbeats 1000000 in
theorem lawLift (a b c : Int) (w : World) (ha : 0 ≤ a ∧ a < 4294967296) (hb : 0 ≤ b ∧ b < 4294967296) (hc : 0 ≤ c ∧ c < 4294967296) :
    Calls Try.prog 6 #[(.int .u32 a), (.int .u32 b), (.int .u32 c)] w (Ret w (fun _ : Unit => True) (fun _ => .bool true) (fun _ => [])) := by
  refine enter (M := None) (L := []) (n := 73) (l := [(0, (.int .u32 a)), (1, (.int .u32 b)), (2, (.int .u32 c))]) Try.func6 rfl rfl (Args.cons rfl (Args.cons rfl (Args.cons rfl (Args.nil _)))) (Hp.start _ _) ?_
  refine GC.seq ?_
  refine GC.region ?_
  refine GL.val (Ex.assign rfl) (by decide) ?_
  refine GL.nil ?_
  refine GE.thenN ?_
  refine GC.seq ?_
  refine GC.seq ?_
  refine GC.region ?_
  refine GL.step (Stp.callR (vs := []) rfl rfl T.own13 (by decide) (fun wc hw => known wc)) (fun xq1 hq2 => ?_)
  refine GL.val (v := (.bool false)) (Ex.cast (Ex.not rfl) rfl) (by decide) ?_
  refine GL.nil ?_
  refine GE.thenN ?_
  refine GC.cond rfl (fun hq3 => by cases hq3) (fun _ => ?_)
  refine GC.skip ?_
  refine GE.thenN ?_
  refine GC.seq ?_
  refine GC.region ?_
  refine GL.val (Ex.move rfl) (by decide) ?_
  refine GL.val (Ex.move rfl) (by decide) ?_
  refine GL.val (Ex.move rfl) (by decide) ?_
  refine GL.step (Stp.callR (vs := [(.int .u32 a), (.int .u32 b), (.int .u32 c)]) rfl rfl T.own22 (by decide) (fun wc hw => lift_p a b c wc (by first | assumption | omega) (by first | assumption | omega) (by first | assumption | omega))) (fun xq4 hq5 => ?_)
  refine GL.val (Ex.move rfl) (by decide) ?_
  refine GL.val (Ex.extract rfl rfl) (by decide) ?_
  refine GL.val (Ex.extract rfl rfl) (by decide) ?_
  refine GL.val (Ex.extract rfl rfl) (by decide) ?_
  refine GL.val (Ex.assign rfl) (by decide) ?_
  refine GL.val (Ex.assign rfl) (by decide) ?_
  refine GL.val (Ex.assign rfl) (by decide) ?_
  refine GL.nil ?_
  refine GE.thenN ?_
  refine GC.seq ?_
  refine GC.region ?_
  refine GL.val (Ex.move rfl) (by decide) ?_
  refine GL.val (Ex.move rfl) (by decide) ?_
  refine GL.val (Ex.move rfl) (by decide) ?_
  refine GL.step (Stp.callR (vs := [(.int .u32 a), (.int .u32 b), (.int .u32 c)]) rfl rfl T.own23 (by decide) (fun wc hw => lift_r a b c wc (by first | assumption | omega) (by first | assumption | omega) (by first | assumption | omega))) (fun xq6 hq7 => ?_)
  refine GL.val (Ex.move rfl) (by decide) ?_
  refine GL.val (Ex.extract rfl rfl) (by decide) ?_
  refine GL.val (Ex.extract rfl rfl) (by decide) ?_
  refine GL.val (Ex.extract rfl rfl) (by decide) ?_
  refine GL.val (Ex.assign rfl) (by decide) ?_
  refine GL.val (Ex.assign rfl) (by decide) ?_
  refine GL.val (Ex.assign rfl) (by decide) ?_
  refine GL.nil ?_
  refine GE.thenN ?_
  refine GC.seq ?_
  refine GC.seq ?_
  refine GC.region ?_
  refine GL.val (Ex.move rfl) (by decide) ?_
  refine GL.val (Ex.move rfl) (by decide) ?_
  refine GL.val (v := (.bool false)) (Ex.cast (Ex.neq rfl rfl) (congrArg Value.bool (decide_eq_false (by simp)))) (by decide) ?_
  refine GL.val (Ex.move rfl) (by decide) ?_
  refine GL.stepG (tj := 34) rfl rfl (Ex.wp (v := (.int .u32 ((Sp.lft a b c).2.1))) (Ex.move rfl) (by decide)) (fun _ _ => ?_)
  refine GL.stepG (tj := 34) rfl rfl (Ex.wp (v := (.int .u32 ((Sp.lft a b c).2.1))) (Ex.move rfl) (by decide)) (fun _ _ => ?_)
  refine GL.stepG (tj := 34) rfl rfl (Ex.wp (v := (.bool false)) (Ex.cast (Ex.neq rfl rfl) (congrArg Value.bool (decide_eq_false (by simp)))) (by decide)) (fun _ _ => ?_)
  refine GL.val (v := (.bool false)) (Ex.pickF rfl rfl) (by decide) ?_
  refine GL.val (Ex.move rfl) (by decide) ?_
  refine GL.stepG (tj := 39) rfl rfl (Ex.wp (v := (.int .u32 ((Sp.lft a b c).2.2))) (Ex.move rfl) (by decide)) (fun _ _ => ?_)
  refine GL.stepG (tj := 39) rfl rfl (Ex.wp (v := (.int .u32 ((Sp.lft a b c).2.2))) (Ex.move rfl) (by decide)) (fun _ _ => ?_)
  refine GL.stepG (tj := 39) rfl rfl (Ex.wp (v := (.bool false)) (Ex.cast (Ex.neq rfl rfl) (congrArg Value.bool (decide_eq_false (by simp)))) (by decide)) (fun _ _ => ?_)
  refine GL.val (v := (.bool false)) (Ex.pickF rfl rfl) (by decide) ?_
  refine GL.nil ?_
  refine GE.thenN ?_
  refine GC.cond rfl (fun hq8 => by cases hq8) (fun _ => ?_)
  refine GC.skip ?_
  refine GE.thenN ?_
  refine GC.seq ?_
  refine GC.region ?_
  refine GL.val (Ex.move rfl) (by decide) ?_
  refine GL.val (Ex.move rfl) (by decide) ?_
  refine GL.val (Ex.move rfl) (by decide) ?_
  refine GL.step (Stp.callR (vs := [(.int .u32 a), (.int .u32 b), (.int .u32 c)]) rfl rfl T.own24 (by decide) (fun wc hw => drop_p a b c wc (by first | assumption | omega) (by first | assumption | omega) (by first | assumption | omega))) (fun xq9 hq10 => ?_)
  refine GL.val (Ex.move rfl) (by decide) ?_
  refine GL.val (Ex.extract rfl rfl) (by decide) ?_
  refine GL.val (Ex.extract rfl rfl) (by decide) ?_
  refine GL.val (Ex.extract rfl rfl) (by decide) ?_
  refine GL.val (Ex.assign rfl) (by decide) ?_
  refine GL.val (Ex.assign rfl) (by decide) ?_
  refine GL.val (Ex.assign rfl) (by decide) ?_
  refine GL.nil ?_
  refine GE.thenN ?_
  refine GC.seq ?_
  refine GC.region ?_
  refine GL.val (Ex.move rfl) (by decide) ?_
  refine GL.val (Ex.move rfl) (by decide) ?_
  refine GL.val (Ex.move rfl) (by decide) ?_
  refine GL.step (Stp.callR (vs := [(.int .u32 a), (.int .u32 b), (.int .u32 c)]) rfl rfl T.own25 (by decide) (fun wc hw => drop_r a b c wc (by first | assumption | omega) (by first | assumption | omega) (by first | assumption | omega))) (fun xq11 hq12 => ?_)
  refine GL.val (Ex.move rfl) (by decide) ?_
  refine GL.val (Ex.extract rfl rfl) (by decide) ?_
  refine GL.val (Ex.extract rfl rfl) (by decide) ?_
  refine GL.val (Ex.extract rfl rfl) (by decide) ?_
  refine GL.val (Ex.assign rfl) (by decide) ?_
  refine GL.val (Ex.assign rfl) (by decide) ?_
  refine GL.val (Ex.assign rfl) (by decide) ?_
  refine GL.nil ?_
  refine GE.thenN ?_
  refine GC.seq ?_
  refine GC.region ?_
  refine GL.val (Ex.move rfl) (by decide) ?_
  refine GL.val (Ex.move rfl) (by decide) ?_
  refine GL.val (v := (.bool true)) (Ex.cast (Ex.eql rfl rfl) (congrArg Value.bool (decide_eq_true (by simp)))) (by decide) ?_
  refine GL.val (Ex.move rfl) (by decide) ?_
  refine GL.stepG (tj := 63) rfl rfl (Ex.wp (v := (.int .u32 ((Sp.drp a b c).2.1))) (Ex.move rfl) (by decide)) (fun _ _ => ?_)
  refine GL.stepG (tj := 63) rfl rfl (Ex.wp (v := (.int .u32 ((Sp.drp a b c).2.1))) (Ex.move rfl) (by decide)) (fun _ _ => ?_)
  refine GL.stepG (tj := 63) rfl rfl (Ex.wp (v := (.bool true)) (Ex.cast (Ex.eql rfl rfl) (congrArg Value.bool (decide_eq_true (by simp)))) (by decide)) (fun _ _ => ?_)
  refine GL.val (v := (.bool true)) (Ex.pickT rfl rfl) (by decide) ?_
  refine GL.val (Ex.move rfl) (by decide) ?_
  refine GL.stepG (tj := 68) rfl rfl (Ex.wp (v := (.int .u32 ((Sp.drp a b c).2.2))) (Ex.move rfl) (by decide)) (fun _ _ => ?_)
  refine GL.stepG (tj := 68) rfl rfl (Ex.wp (v := (.int .u32 ((Sp.drp a b c).2.2))) (Ex.move rfl) (by decide)) (fun _ _ => ?_)
  refine GL.stepG (tj := 68) rfl rfl (Ex.wp (v := (.bool true)) (Ex.cast (Ex.eql rfl rfl) (congrArg Value.bool (decide_eq_true (by simp)))) (by decide)) (fun _ _ => ?_)
  refine GL.val (v := (.bool true)) (Ex.pickT rfl rfl) (by decide) ?_
  refine GL.val (Ex.assign rfl) (by decide) ?_
  refine GL.nil ?_
  refine GE.thenN ?_
  refine GC.ret ?_
  refine GC.ret1 rfl (Rv.tmp rfl) (fun wN HN => ?_)
  exact HN.ret () trivial rfl (List.nil_sublist _) rfl

set_option maxRecDepth 100000 in
set_option maxHeartbeats 1000000 in
theorem lawLiftBack (a b c : Int) (w : World) (ha : 0 ≤ a ∧ a < 4294967296) (hb : 0 ≤ b ∧ b < 4294967296) (hc : 0 ≤ c ∧ c < 4294967296) :
    Calls Try.prog 10 #[(.int .u32 a), (.int .u32 b), (.int .u32 c)] w (Ret w (fun _ : Unit => True) (fun _ => .bool true) (fun _ => [])) := by
  refine enter (M := None) (L := []) (n := 67) (l := [(0, (.int .u32 a)), (1, (.int .u32 b)), (2, (.int .u32 c))]) Try.func10 rfl rfl (Args.cons rfl (Args.cons rfl (Args.cons rfl (Args.nil _)))) (Hp.start _ _) ?_
  refine GC.seq ?_
  refine GC.region ?_
  refine GL.val (Ex.assign rfl) (by decide) ?_
  refine GL.nil ?_
  refine GE.thenN ?_
  refine GC.seq ?_
  refine GC.seq ?_
  refine GC.region ?_
  refine GL.step (Stp.callR (vs := []) rfl rfl T.own13 (by decide) (fun wc hw => known wc)) (fun xq1 hq2 => ?_)
  refine GL.val (v := (.bool false)) (Ex.cast (Ex.not rfl) rfl) (by decide) ?_
  refine GL.nil ?_
  refine GE.thenN ?_
  refine GC.cond rfl (fun hq3 => by cases hq3) (fun _ => ?_)
  refine GC.skip ?_
  refine GE.thenN ?_
  refine GC.seq ?_
  refine GC.region ?_
  refine GL.val (Ex.move rfl) (by decide) ?_
  refine GL.val (Ex.move rfl) (by decide) ?_
  refine GL.val (Ex.move rfl) (by decide) ?_
  refine GL.step (Stp.callR (vs := [(.int .u32 a), (.int .u32 b), (.int .u32 c)]) rfl rfl T.own22 (by decide) (fun wc hw => lift_p a b c wc (by first | assumption | omega) (by first | assumption | omega) (by first | assumption | omega))) (fun xq4 hq5 => ?_)
  refine GL.val (Ex.extract rfl rfl) (by decide) ?_
  refine GL.val (Ex.extract rfl rfl) (by decide) ?_
  refine GL.val (Ex.extract rfl rfl) (by decide) ?_
  refine GL.step (Stp.callR (vs := [(.int .u32 ((Sp.lft a b c).1)), (.int .u32 ((Sp.lft a b c).2.1)), (.int .u32 ((Sp.lft a b c).2.2))]) rfl rfl T.own24 (by decide) (fun wc hw => drop_p ((Sp.lft a b c).1) ((Sp.lft a b c).2.1) ((Sp.lft a b c).2.2) wc (Sp.lft_bd a b c).1 (Sp.lft_bd a b c).2.1 (Sp.lft_bd a b c).2.2)) (fun xq6 hq7 => ?_)
  refine GL.val (Ex.move rfl) (by decide) ?_
  refine GL.val (Ex.extract rfl rfl) (by decide) ?_
  refine GL.val (Ex.extract rfl rfl) (by decide) ?_
  refine GL.val (Ex.extract rfl rfl) (by decide) ?_
  refine GL.val (Ex.assign rfl) (by decide) ?_
  refine GL.val (Ex.assign rfl) (by decide) ?_
  refine GL.val (Ex.assign rfl) (by decide) ?_
  refine GL.nil ?_
  refine GE.thenN ?_
  refine GC.seq ?_
  refine GC.region ?_
  refine GL.val (Ex.move rfl) (by decide) ?_
  refine GL.val (Ex.move rfl) (by decide) ?_
  refine GL.val (Ex.move rfl) (by decide) ?_
  refine GL.step (Stp.callR (vs := [(.int .u32 a), (.int .u32 b), (.int .u32 c)]) rfl rfl T.own24 (by decide) (fun wc hw => drop_p a b c wc (by first | assumption | omega) (by first | assumption | omega) (by first | assumption | omega))) (fun xq8 hq9 => ?_)
  refine GL.val (Ex.extract rfl rfl) (by decide) ?_
  refine GL.val (Ex.extract rfl rfl) (by decide) ?_
  refine GL.val (Ex.extract rfl rfl) (by decide) ?_
  refine GL.step (Stp.callR (vs := [(.int .u32 ((Sp.drp a b c).1)), (.int .u32 ((Sp.drp a b c).2.1)), (.int .u32 ((Sp.drp a b c).2.2))]) rfl rfl T.own22 (by decide) (fun wc hw => lift_p ((Sp.drp a b c).1) ((Sp.drp a b c).2.1) ((Sp.drp a b c).2.2) wc (Sp.drp_bd a b c).1 (Sp.drp_bd a b c).2.1 (Sp.drp_bd a b c).2.2)) (fun xq10 hq11 => ?_)
  refine GL.val (Ex.move rfl) (by decide) ?_
  refine GL.val (Ex.extract rfl rfl) (by decide) ?_
  refine GL.val (Ex.extract rfl rfl) (by decide) ?_
  refine GL.val (Ex.extract rfl rfl) (by decide) ?_
  refine GL.val (Ex.assign rfl) (by decide) ?_
  refine GL.val (Ex.assign rfl) (by decide) ?_
  refine GL.val (Ex.assign rfl) (by decide) ?_
  refine GL.nil ?_
  refine GE.thenN ?_
  refine GC.seq ?_
  refine GC.region ?_
  refine GL.val (Ex.move rfl) (by decide) ?_
  refine GL.val (Ex.move rfl) (by decide) ?_
  refine GL.val (v := (.bool true)) (Ex.cast (Ex.eql rfl rfl) (congrArg Value.bool (decide_eq_true (by simp [Sp.drp_lft ha hb hc, Sp.lft_drp ha hb hc])))) (by decide) ?_
  refine GL.val (Ex.move rfl) (by decide) ?_
  refine GL.stepG (tj := 42) rfl rfl (Ex.wp (v := (.int .u32 ((Sp.drp ((Sp.lft a b c).1) ((Sp.lft a b c).2.1) ((Sp.lft a b c).2.2)).2.1))) (Ex.move rfl) (by decide)) (fun _ _ => ?_)
  refine GL.stepG (tj := 42) rfl rfl (Ex.wp (v := (.int .u32 b)) (Ex.move rfl) (by decide)) (fun _ _ => ?_)
  refine GL.stepG (tj := 42) rfl rfl (Ex.wp (v := (.bool true)) (Ex.cast (Ex.eql rfl rfl) (congrArg Value.bool (decide_eq_true (by simp [Sp.drp_lft ha hb hc, Sp.lft_drp ha hb hc])))) (by decide)) (fun _ _ => ?_)
  refine GL.val (v := (.bool true)) (Ex.pickT rfl rfl) (by decide) ?_
  refine GL.val (Ex.move rfl) (by decide) ?_
  refine GL.stepG (tj := 47) rfl rfl (Ex.wp (v := (.int .u32 ((Sp.drp ((Sp.lft a b c).1) ((Sp.lft a b c).2.1) ((Sp.lft a b c).2.2)).2.2))) (Ex.move rfl) (by decide)) (fun _ _ => ?_)
  refine GL.stepG (tj := 47) rfl rfl (Ex.wp (v := (.int .u32 c)) (Ex.move rfl) (by decide)) (fun _ _ => ?_)
  refine GL.stepG (tj := 47) rfl rfl (Ex.wp (v := (.bool true)) (Ex.cast (Ex.eql rfl rfl) (congrArg Value.bool (decide_eq_true (by simp [Sp.drp_lft ha hb hc, Sp.lft_drp ha hb hc])))) (by decide)) (fun _ _ => ?_)
  refine GL.val (v := (.bool true)) (Ex.pickT rfl rfl) (by decide) ?_
  refine GL.val (Ex.move rfl) (by decide) ?_
  refine GL.stepG (tj := 52) rfl rfl (Ex.wp (v := (.int .u32 ((Sp.lft ((Sp.drp a b c).1) ((Sp.drp a b c).2.1) ((Sp.drp a b c).2.2)).1))) (Ex.move rfl) (by decide)) (fun _ _ => ?_)
  refine GL.stepG (tj := 52) rfl rfl (Ex.wp (v := (.int .u32 a)) (Ex.move rfl) (by decide)) (fun _ _ => ?_)
  refine GL.stepG (tj := 52) rfl rfl (Ex.wp (v := (.bool true)) (Ex.cast (Ex.eql rfl rfl) (congrArg Value.bool (decide_eq_true (by simp [Sp.drp_lft ha hb hc, Sp.lft_drp ha hb hc])))) (by decide)) (fun _ _ => ?_)
  refine GL.val (v := (.bool true)) (Ex.pickT rfl rfl) (by decide) ?_
  refine GL.val (Ex.move rfl) (by decide) ?_
  refine GL.stepG (tj := 57) rfl rfl (Ex.wp (v := (.int .u32 ((Sp.lft ((Sp.drp a b c).1) ((Sp.drp a b c).2.1) ((Sp.drp a b c).2.2)).2.1))) (Ex.move rfl) (by decide)) (fun _ _ => ?_)
  refine GL.stepG (tj := 57) rfl rfl (Ex.wp (v := (.int .u32 b)) (Ex.move rfl) (by decide)) (fun _ _ => ?_)
  refine GL.stepG (tj := 57) rfl rfl (Ex.wp (v := (.bool true)) (Ex.cast (Ex.eql rfl rfl) (congrArg Value.bool (decide_eq_true (by simp [Sp.drp_lft ha hb hc, Sp.lft_drp ha hb hc])))) (by decide)) (fun _ _ => ?_)
  refine GL.val (v := (.bool true)) (Ex.pickT rfl rfl) (by decide) ?_
  refine GL.val (Ex.move rfl) (by decide) ?_
  refine GL.stepG (tj := 62) rfl rfl (Ex.wp (v := (.int .u32 ((Sp.lft ((Sp.drp a b c).1) ((Sp.drp a b c).2.1) ((Sp.drp a b c).2.2)).2.2))) (Ex.move rfl) (by decide)) (fun _ _ => ?_)
  refine GL.stepG (tj := 62) rfl rfl (Ex.wp (v := (.int .u32 c)) (Ex.move rfl) (by decide)) (fun _ _ => ?_)
  refine GL.stepG (tj := 62) rfl rfl (Ex.wp (v := (.bool true)) (Ex.cast (Ex.eql rfl rfl) (congrArg Value.bool (decide_eq_true (by simp [Sp.drp_lft ha hb hc, Sp.lft_drp ha hb hc])))) (by decide)) (fun _ _ => ?_)
  refine GL.val (v := (.bool true)) (Ex.pickT rfl rfl) (by decide) ?_
  refine GL.val (Ex.assign rfl) (by decide) ?_
  refine GL.nil ?_
  refine GE.thenN ?_
  refine GC.ret ?_
  refine GC.ret1 rfl (Rv.tmp rfl) (fun wN HN => ?_)
  exact HN.ret () trivial rfl (List.nil_sublist _) rfl

end Go.Proofs.Ytbhjadkgeadpiaa.C
