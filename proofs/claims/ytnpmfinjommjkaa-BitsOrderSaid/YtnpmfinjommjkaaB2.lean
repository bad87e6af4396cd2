/- Bits' functions: what each call tells. -/
import Derived.Test.YtnpmfinjommjkaaB1
namespace Go.Proofs.Ytnpmfinjommjkaa.B
open Go Go.RowKit Sx
set_option linter.unusedVariables false
set_option maxRecDepth 100000 in
set_option maxHeartbeats 1000000 in
theorem fp_p (n e : Int) (w : World) (hn : -9223372036854775808 ≤ n ∧ n ≤ 9223372036854775807) (he : -9223372036854775808 ≤ e ∧ e ≤ 9223372036854775807) :
    Calls Try.prog 13 #[(.int .i64 n), (.int .i64 e)] w (Ret w (fun x : Int × Bool => Bt.FP n e x.1 x.2) (fun x => .tuple #[.int .u32 x.1, .bool x.2]) (fun _ => [])) := by
  refine enter (M := None) (L := []) (n := 69) (l := [(0, (.int .i64 n)), (1, (.int .i64 e))]) Try.func13 rfl rfl (Args.cons rfl (Args.cons rfl (Args.nil _))) (Hp.start _ _) ?_
  refine GC.seq ?_
  refine GC.region ?_
  refine GL.val (v := (.int .u32 0)) (Ex.assign rfl) (by decide) ?_
  refine GL.val (v := (.bool false)) (Ex.assign rfl) (by decide) ?_
  refine GL.nil ?_
  refine GE.thenN ?_
  refine GC.seq ?_
  refine GC.seq ?_
  refine GC.region ?_
  refine GL.val (v := (.int .i64 n)) (Ex.move rfl) (by decide) ?_
  refine GL.val (v := (.bool (decide (n = 0)))) (Ex.eql rfl rfl) (by decide) ?_
  refine GL.nil ?_
  refine GE.thenN ?_
  refine GC.cond rfl (fun hq1 => ?_) (fun hq1 => ?_)
  · replace hq1 := of_decide_eq_true hq1
    refine GC.seq ?_
    refine GC.region ?_
    refine GL.val (v := (.int .u32 0)) (Ex.assign rfl) (by decide) ?_
    refine GL.val (v := (.bool true)) (Ex.assign rfl) (by decide) ?_
    refine GL.nil ?_
    refine GE.thenN ?_
    refine GC.ret ?_
    refine GE.thenR ?_
    refine GC.ret2 rfl (Rv.tmp rfl) (Rv.tmp rfl) (fun wN HN => ?_)
    exact HN.ret (0, true) (Or.inl ⟨by omega, rfl, rfl⟩) rfl (List.nil_sublist _) rfl
  · replace hq1 := of_decide_eq_false hq1
    refine GC.skip ?_
    refine GE.thenN ?_
    refine GC.seq ?_
    refine GC.region ?_
    refine GL.val (v := (.int .i64 n)) (Ex.move rfl) (by decide) ?_
    refine GL.val (v := (.int .u64 (n % 18446744073709551616))) (Ex.conv rfl Try.underlying3 Try.underlying47 (Z := n % 18446744073709551616) (wu64 _)) (by decide) ?_
    refine GL.val (v := (.int .u32 0)) (Ex.assign rfl) (by decide) ?_
    refine GL.val (v := (.int .u64 (n % 18446744073709551616))) (Ex.assign rfl) (by decide) ?_
    refine GL.nil ?_
    refine GE.thenN ?_
    refine GC.seq ?_
    refine GC.seq ?_
    refine GC.region ?_
    refine GL.val (v := (.int .i64 n)) (Ex.move rfl) (by decide) ?_
    refine GL.val (v := (.bool (decide (n < 0)))) (Ex.lss rfl rfl) (by decide) ?_
    refine GL.nil ?_
    refine GE.thenN ?_
    refine GC.cond rfl (fun hq2 => ?_) (fun hq2 => ?_)
    · replace hq2 := of_decide_eq_true hq2
      refine GC.region ?_
      refine GL.val (v := (.int .u64 (n % 18446744073709551616))) (Ex.move rfl) (by decide) ?_
      refine GL.val (v := (.int .u64 (-n))) (Ex.neg rfl (Z := -n) (by rw [wu64]; omega)) (by decide) ?_
      refine GL.val (v := (.int .u32 2147483648)) (Ex.assign rfl) (by decide) ?_
      refine GL.val (v := (.int .u64 (-n))) (Ex.assign rfl) (by decide) ?_
      refine GL.nil ?_
      refine GE.thenN ?_
      refine GC.seq ?_
      refine GC.block ?_
      refine GC.loop (σ := Int × Int × Nat) (fun k => 0 < k.1 ∧ k.1 ≤ 9223372036854775808 ∧ (n.natAbs : Int) = k.1 * 2 ^ k.2.2 ∧ (-9223372036854775808 ≤ k.2.1 ∧ k.2.1 ≤ 9223372036854775807) ∧ (k.2.1 = e + k.2.2 ∨ k.2.1 = e + k.2.2 - 18446744073709551616)) (fun k => [(0, (.int .i64 n)), (6, (.int .u32 2147483648)), (1, (.int .i64 k.2.1)), (7, (.int .u64 k.1))]) (fun k => []) (fun k => k.1.toNat) ((-n, e, 0)) ⟨by dsimp only; omega, by dsimp only; omega, by dsimp only; simp; omega, by dsimp only; omega, by dsimp only; omega⟩ ((sub_cons rfl ((sub_cons rfl ((sub_cons rfl ((sub_cons rfl ((sub_nil _)))))))))) (List.nil_sublist _) (fun k hp => ?_)
      obtain ⟨hp1, hp2, hp3, hp4, hp5⟩ := hp; have hj : k.2.2 < 64 := Bt.pow_le 64 hp1 hp3 (by omega)
      refine GC.seq ?_
      refine GC.seq ?_
      refine GC.region ?_
      refine GL.val (v := (.int .u64 k.1)) (Ex.move rfl) (by decide) ?_
      refine GL.val (v := (.int .u64 (k.1 % 2))) (Ex.rem rfl rfl (Z := k.1 % 2) (by omega) (rem64 (by omega) (by omega))) (by decide) ?_
      by_cases hq3 : (k.1 % 2) = 0
      · refine GL.val (v := (.bool true)) (Ex.cast (Ex.eql rfl rfl) (congrArg Value.bool (decide_eq_true hq3))) (by decide) ?_
        refine GL.val (v := (.bool true)) (Ex.move rfl) (by decide) ?_
        refine GL.stepG (tj := 19) rfl rfl (Ex.wp (v := (.int .u64 k.1)) (Ex.move rfl) (by decide)) (fun _ _ => ?_)
        by_cases hq4 : 16777216 ≤ k.1
        · refine GL.stepG (tj := 19) rfl rfl (Ex.wp (v := (.bool true)) (Ex.cast (Ex.geq rfl rfl) (congrArg Value.bool (decide_eq_true hq4))) (by decide)) (fun _ _ => ?_)
          refine GL.stepG (tj := 19) rfl rfl (Ex.wp (v := (.bool true)) (Ex.move rfl) (by decide)) (fun _ _ => ?_)
          refine GL.skipG (tj := 22) rfl rfl rfl (by decide) ?_
          refine GL.skipG (tj := 22) rfl rfl rfl (by decide) ?_
          refine GL.stepG (tj := 19) rfl rfl (Ex.wp (v := (.bool true)) (Ex.pickT rfl rfl) (by decide)) (fun _ _ => ?_)
          refine GL.val (v := (.bool true)) (Ex.pickT rfl rfl) (by decide) ?_
          refine GL.nil ?_
          refine GE.thenN ?_
          refine GC.cond rfl (fun _ => ?_) (fun hq5 => by cases hq5)
          refine GC.skip ?_
          refine GE.thenN ?_
          refine GC.block ?_
          refine GC.region ?_
          refine GL.val (v := (.int .u64 k.1)) (Ex.move rfl) (by decide) ?_
          refine GL.val (v := (.int .u64 (k.1 / 2))) (Ex.quo rfl rfl (Z := k.1 / 2) (by omega) (quoU64 (by omega) (by omega) (by omega))) (by decide) ?_
          refine GL.val (v := (.int .i64 k.2.1)) (Ex.move rfl) (by decide) ?_
          refine GL.val (v := (.int .i64 (Bt.inc k.2.1))) (Ex.add rfl rfl (Z := Bt.inc k.2.1) (Bt.inc_eq hp4)) (by decide) ?_
          refine GL.val (v := (.int .u64 (k.1 / 2))) (Ex.assign rfl) (by decide) ?_
          refine GL.val (v := (.int .i64 (Bt.inc k.2.1))) (Ex.assign rfl) (by decide) ?_
          refine GL.nil ?_
          refine GE.blockN ?_
          refine GE.thenN ?_
          exact Head.mk (k.1 / 2, Bt.inc k.2.1, k.2.2 + 1) (by have hj2 : k.2.2 + 1 < 64 := Bt.pow_le 64 (by omega) (Bt.half_step hp3 (by omega)) (by omega); exact ⟨by dsimp only; omega, by dsimp only; omega, Bt.half_step hp3 (by omega), Bt.inc_or hp4 he.2 (by omega) hp5⟩) (by dsimp only; omega) ((sub_cons rfl ((sub_cons rfl ((sub_cons rfl ((sub_cons rfl ((sub_nil _)))))))))) (List.nil_sublist _)
        · refine GL.stepG (tj := 19) rfl rfl (Ex.wp (v := (.bool false)) (Ex.cast (Ex.geq rfl rfl) (congrArg Value.bool (decide_eq_false hq4))) (by decide)) (fun _ _ => ?_)
          refine GL.stepG (tj := 19) rfl rfl (Ex.wp (v := (.bool false)) (Ex.move rfl) (by decide)) (fun _ _ => ?_)
          refine GL.stepG (tj := 22) rfl rfl (Ex.wp (v := (.int .i64 k.2.1)) (Ex.move rfl) (by decide)) (fun _ _ => ?_)
          refine GL.stepG (tj := 22) rfl rfl (Ex.wp (v := (.bool (decide (k.2.1 < (-149))))) (Ex.lss rfl rfl) (by decide)) (fun _ _ => ?_)
          refine GL.stepG (tj := 19) rfl rfl (Ex.wp (v := (.bool (decide (k.2.1 < (-149))))) (Ex.pickF rfl rfl) (by decide)) (fun _ _ => ?_)
          refine GL.val (v := (.bool (decide (k.2.1 < (-149))))) (Ex.pickT rfl rfl) (by decide) ?_
          refine GL.nil ?_
          refine GE.thenN ?_
          refine GC.cond rfl (fun hq6 => ?_) (fun hq6 => ?_)
          · replace hq6 := of_decide_eq_true hq6
            refine GC.skip ?_
            refine GE.thenN ?_
            refine GC.block ?_
            refine GC.region ?_
            refine GL.val (v := (.int .u64 k.1)) (Ex.move rfl) (by decide) ?_
            refine GL.val (v := (.int .u64 (k.1 / 2))) (Ex.quo rfl rfl (Z := k.1 / 2) (by omega) (quoU64 (by omega) (by omega) (by omega))) (by decide) ?_
            refine GL.val (v := (.int .i64 k.2.1)) (Ex.move rfl) (by decide) ?_
            refine GL.val (v := (.int .i64 (Bt.inc k.2.1))) (Ex.add rfl rfl (Z := Bt.inc k.2.1) (Bt.inc_eq hp4)) (by decide) ?_
            refine GL.val (v := (.int .u64 (k.1 / 2))) (Ex.assign rfl) (by decide) ?_
            refine GL.val (v := (.int .i64 (Bt.inc k.2.1))) (Ex.assign rfl) (by decide) ?_
            refine GL.nil ?_
            refine GE.blockN ?_
            refine GE.thenN ?_
            exact Head.mk (k.1 / 2, Bt.inc k.2.1, k.2.2 + 1) (by have hj2 : k.2.2 + 1 < 64 := Bt.pow_le 64 (by omega) (Bt.half_step hp3 (by omega)) (by omega); exact ⟨by dsimp only; omega, by dsimp only; omega, Bt.half_step hp3 (by omega), Bt.inc_or hp4 he.2 (by omega) hp5⟩) (by dsimp only; omega) ((sub_cons rfl ((sub_cons rfl ((sub_cons rfl ((sub_cons rfl ((sub_nil _)))))))))) (List.nil_sublist _)
          · replace hq6 := of_decide_eq_false hq6
            refine GC.exit ?_
            refine GE.thenE ?_
            refine GE.thenE ?_
            refine GE.blockE ?_
            refine GE.thenN ?_
            refine GC.seq ?_
            refine GC.block ?_
            refine GC.loop (σ := Nat) (fun i => (i = 0 ∨ (k.1 * 2 ^ i < 16777216 ∧ -149 ≤ k.2.1 - ((i : Nat) : Int))) ∧ k.1 ≤ k.1 * 2 ^ i ∧ (i = 0 → k.1 * 2 ^ i = k.1)) (fun i => [(0, (.int .i64 n)), (6, (.int .u32 2147483648)), (1, (.int .i64 (k.2.1 - ((i : Nat) : Int)))), (7, (.int .u64 (k.1 * 2 ^ i)))]) (fun i => []) (fun i => (8388608 - k.1 * 2 ^ i).toNat) (0) ⟨Or.inl rfl, by simp, by simp⟩ ((sub_cons rfl ((sub_cons rfl ((sub_cons (congrArg (fun z => some (Value.int .i64 z)) (by simp)) ((sub_cons (congrArg (fun z => some (Value.int .u64 z)) (by simp)) ((sub_nil _)))))))))) (List.nil_sublist _) (fun i hp => ?_)
            obtain ⟨hq1, hq2, hq3⟩ := hp
            refine GC.seq ?_
            refine GC.seq ?_
            refine GC.region ?_
            refine GL.val (v := (.int .u64 (k.1 * 2 ^ i))) (Ex.move rfl) (by decide) ?_
            by_cases hq7 : (k.1 * 2 ^ i) < 8388608
            · refine GL.val (v := (.bool true)) (Ex.cast (Ex.lss rfl rfl) (congrArg Value.bool (decide_eq_true hq7))) (by decide) ?_
              refine GL.val (v := (.bool true)) (Ex.move rfl) (by decide) ?_
              refine GL.stepG (tj := 33) rfl rfl (Ex.wp (v := (.int .i64 (k.2.1 - ((i : Nat) : Int)))) (Ex.move rfl) (by decide)) (fun _ _ => ?_)
              refine GL.stepG (tj := 33) rfl rfl (Ex.wp (v := (.bool (decide ((-149) < (k.2.1 - ((i : Nat) : Int)))))) (Ex.gtr rfl rfl) (by decide)) (fun _ _ => ?_)
              refine GL.val (v := (.bool (decide ((-149) < (k.2.1 - ((i : Nat) : Int)))))) (Ex.pickT rfl rfl) (by decide) ?_
              refine GL.nil ?_
              refine GE.thenN ?_
              refine GC.cond rfl (fun hq8 => ?_) (fun hq8 => ?_)
              · replace hq8 := of_decide_eq_true hq8
                refine GC.skip ?_
                refine GE.thenN ?_
                refine GC.block ?_
                refine GC.region ?_
                refine GL.val (v := (.int .u64 (k.1 * 2 ^ i))) (Ex.move rfl) (by decide) ?_
                refine GL.val (v := (.int .u64 (k.1 * 2 ^ (i + 1)))) (Ex.mul rfl rfl (Z := k.1 * 2 ^ (i + 1)) (by rw [wu64b (by omega), Bt.pow_step]; omega)) (by decide) ?_
                refine GL.val (v := (.int .i64 (k.2.1 - ((i : Nat) : Int)))) (Ex.move rfl) (by decide) ?_
                refine GL.val (v := (.int .i64 (k.2.1 - ((i + 1 : Nat) : Int)))) (Ex.sub' rfl rfl (Z := k.2.1 - ((i + 1 : Nat) : Int)) (by rw [w64 (by omega)]; omega)) (by decide) ?_
                refine GL.val (v := (.int .u64 (k.1 * 2 ^ (i + 1)))) (Ex.assign rfl) (by decide) ?_
                refine GL.val (v := (.int .i64 (k.2.1 - ((i + 1 : Nat) : Int)))) (Ex.assign rfl) (by decide) ?_
                refine GL.nil ?_
                refine GE.blockN ?_
                refine GE.thenN ?_
                exact Head.mk (i + 1) ⟨Or.inr ⟨by rw [Bt.pow_step]; omega, by omega⟩, by rw [Bt.pow_step]; omega, by omega⟩ (by rw [Bt.pow_step]; omega) ((sub_cons rfl ((sub_cons rfl ((sub_cons rfl ((sub_cons rfl ((sub_nil _)))))))))) (List.nil_sublist _)
              · replace hq8 := of_decide_eq_false hq8
                refine GC.exit ?_
                refine GE.thenE ?_
                refine GE.thenE ?_
                refine GE.blockE ?_
                refine GE.thenN ?_
                refine GC.seq ?_
                refine GC.block ?_
                refine GC.seq ?_
                refine GC.region ?_
                refine GL.val (v := (.int .u64 (k.1 * 2 ^ i))) (Ex.move rfl) (by decide) ?_
                by_cases hq9 : 16777216 ≤ (k.1 * 2 ^ i)
                · refine GL.val (v := (.bool true)) (Ex.cast (Ex.geq rfl rfl) (congrArg Value.bool (decide_eq_true hq9))) (by decide) ?_
                  refine GL.val (v := (.bool true)) (Ex.move rfl) (by decide) ?_
                  refine GL.skipG (tj := 44) rfl rfl rfl (by decide) ?_
                  refine GL.skipG (tj := 44) rfl rfl rfl (by decide) ?_
                  refine GL.val (v := (.bool true)) (Ex.pickT rfl rfl) (by decide) ?_
                  refine GL.val (v := (.bool true)) (Ex.move rfl) (by decide) ?_
                  refine GL.skipG (tj := 48) rfl rfl rfl (by decide) ?_
                  refine GL.skipG (tj := 48) rfl rfl rfl (by decide) ?_
                  refine GL.val (v := (.bool true)) (Ex.pickT rfl rfl) (by decide) ?_
                  refine GL.val (v := (.bool true)) (Ex.assign rfl) (by decide) ?_
                  refine GL.nil ?_
                  refine GE.thenN ?_
                  refine GC.cond rfl (fun _ => ?_) (fun hq10 => by cases hq10)
                  refine GC.seq ?_
                  refine GC.region ?_
                  refine GL.val (v := (.int .u32 0)) (Ex.assign rfl) (by decide) ?_
                  refine GL.val (v := (.bool false)) (Ex.assign rfl) (by decide) ?_
                  refine GL.nil ?_
                  refine GE.thenN ?_
                  refine GC.ret ?_
                  refine GE.blockR ?_
                  refine GE.thenR ?_
                  refine GC.ret2 rfl (Rv.tmp rfl) (Rv.tmp rfl) (fun wN HN => ?_)
                  exact HN.ret (0, false) (Bt.FP.prog (s := k.1) (x := k.2.1) (j := k.2.2) (i := i) (by omega) hp1 hp3 (by omega) (by omega) hq1 (by omega) (Or.inl ⟨by omega, rfl, rfl⟩)) rfl (List.nil_sublist _) rfl
                · refine GL.val (v := (.bool false)) (Ex.cast (Ex.geq rfl rfl) (congrArg Value.bool (decide_eq_false hq9))) (by decide) ?_
                  refine GL.val (v := (.bool false)) (Ex.move rfl) (by decide) ?_
                  refine GL.stepG (tj := 44) rfl rfl (Ex.wp (v := (.int .i64 (k.2.1 - ((i : Nat) : Int)))) (Ex.move rfl) (by decide)) (fun _ _ => ?_)
                  by_cases hq11 : (k.2.1 - ((i : Nat) : Int)) < (-149)
                  · refine GL.stepG (tj := 44) rfl rfl (Ex.wp (v := (.bool true)) (Ex.cast (Ex.lss rfl rfl) (congrArg Value.bool (decide_eq_true hq11))) (by decide)) (fun _ _ => ?_)
                    refine GL.val (v := (.bool true)) (Ex.pickF rfl rfl) (by decide) ?_
                    refine GL.val (v := (.bool true)) (Ex.move rfl) (by decide) ?_
                    refine GL.skipG (tj := 48) rfl rfl rfl (by decide) ?_
                    refine GL.skipG (tj := 48) rfl rfl rfl (by decide) ?_
                    refine GL.val (v := (.bool true)) (Ex.pickT rfl rfl) (by decide) ?_
                    refine GL.val (v := (.bool true)) (Ex.assign rfl) (by decide) ?_
                    refine GL.nil ?_
                    refine GE.thenN ?_
                    refine GC.cond rfl (fun _ => ?_) (fun hq12 => by cases hq12)
                    refine GC.seq ?_
                    refine GC.region ?_
                    refine GL.val (v := (.int .u32 0)) (Ex.assign rfl) (by decide) ?_
                    refine GL.val (v := (.bool false)) (Ex.assign rfl) (by decide) ?_
                    refine GL.nil ?_
                    refine GE.thenN ?_
                    refine GC.ret ?_
                    refine GE.blockR ?_
                    refine GE.thenR ?_
                    refine GC.ret2 rfl (Rv.tmp rfl) (Rv.tmp rfl) (fun wN HN => ?_)
                    exact HN.ret (0, false) (Bt.FP.prog (s := k.1) (x := k.2.1) (j := k.2.2) (i := i) (by omega) hp1 hp3 (by omega) (by omega) hq1 (by omega) (Or.inl ⟨by omega, rfl, rfl⟩)) rfl (List.nil_sublist _) rfl
                  · refine GL.stepG (tj := 44) rfl rfl (Ex.wp (v := (.bool false)) (Ex.cast (Ex.lss rfl rfl) (congrArg Value.bool (decide_eq_false hq11))) (by decide)) (fun _ _ => ?_)
                    refine GL.val (v := (.bool false)) (Ex.pickF rfl rfl) (by decide) ?_
                    refine GL.val (v := (.bool false)) (Ex.move rfl) (by decide) ?_
                    refine GL.stepG (tj := 48) rfl rfl (Ex.wp (v := (.int .i64 (k.2.1 - ((i : Nat) : Int)))) (Ex.move rfl) (by decide)) (fun _ _ => ?_)
                    refine GL.stepG (tj := 48) rfl rfl (Ex.wp (v := (.bool (decide (104 < (k.2.1 - ((i : Nat) : Int)))))) (Ex.gtr rfl rfl) (by decide)) (fun _ _ => ?_)
                    refine GL.val (v := (.bool (decide (104 < (k.2.1 - ((i : Nat) : Int)))))) (Ex.pickF rfl rfl) (by decide) ?_
                    refine GL.val (v := (.bool (decide (104 < (k.2.1 - ((i : Nat) : Int)))))) (Ex.assign rfl) (by decide) ?_
                    refine GL.nil ?_
                    refine GE.thenN ?_
                    refine GC.cond rfl (fun hq13 => ?_) (fun hq13 => ?_)
                    · replace hq13 := of_decide_eq_true hq13
                      refine GC.seq ?_
                      refine GC.region ?_
                      refine GL.val (v := (.int .u32 0)) (Ex.assign rfl) (by decide) ?_
                      refine GL.val (v := (.bool false)) (Ex.assign rfl) (by decide) ?_
                      refine GL.nil ?_
                      refine GE.thenN ?_
                      refine GC.ret ?_
                      refine GE.blockR ?_
                      refine GE.thenR ?_
                      refine GC.ret2 rfl (Rv.tmp rfl) (Rv.tmp rfl) (fun wN HN => ?_)
                      exact HN.ret (0, false) (Bt.FP.prog (s := k.1) (x := k.2.1) (j := k.2.2) (i := i) (by omega) hp1 hp3 (by omega) (by omega) hq1 (by omega) (Or.inl ⟨by omega, rfl, rfl⟩)) rfl (List.nil_sublist _) rfl
                    · replace hq13 := of_decide_eq_false hq13
                      refine GC.seq ?_
                      refine GC.region ?_
                      refine GL.val (v := (.int .u64 (k.1 * 2 ^ i))) (Ex.move rfl) (by decide) ?_
                      refine GL.val (v := (.bool (decide ((k.1 * 2 ^ i) < 8388608)))) (Ex.lss rfl rfl) (by decide) ?_
                      refine GL.val (v := (.bool (decide ((k.1 * 2 ^ i) < 8388608)))) (Ex.assign rfl) (by decide) ?_
                      refine GL.nil ?_
                      refine GE.thenN ?_
                      refine GC.cond rfl (fun hq14 => ?_) (fun hq14 => ?_)
                      · replace hq14 := of_decide_eq_true hq14
                        refine GC.seq ?_
                        refine GC.region ?_
                        refine GL.val (v := (.int .u32 2147483648)) (Ex.move rfl) (by decide) ?_
                        refine GL.val (v := (.int .u64 (k.1 * 2 ^ i))) (Ex.move rfl) (by decide) ?_
                        refine GL.val (v := (.int .u32 (k.1 * 2 ^ i))) (Ex.conv rfl Try.underlying47 Try.underlying23 (Z := k.1 * 2 ^ i) (wu32b (by omega))) (by decide) ?_
                        refine GL.val (v := (.int .u32 (2147483648 + (k.1 * 2 ^ i)))) (Ex.bits rfl rfl (by simp) (Z := 2147483648 + (k.1 * 2 ^ i)) (orm 31 (by omega) (by omega) (by decide) (by omega) rfl)) (by decide) ?_
                        refine GL.val (v := (.int .u32 (2147483648 + (k.1 * 2 ^ i)))) (Ex.assign rfl) (by decide) ?_
                        refine GL.val (v := (.bool true)) (Ex.assign rfl) (by decide) ?_
                        refine GL.nil ?_
                        refine GE.thenN ?_
                        refine GC.ret ?_
                        refine GE.blockR ?_
                        refine GE.thenR ?_
                        refine GC.ret2 rfl (Rv.tmp rfl) (Rv.tmp rfl) (fun wN HN => ?_)
                        exact HN.ret (2147483648 + (k.1 * 2 ^ i), true) (Bt.FP.prog (s := k.1) (x := k.2.1) (j := k.2.2) (i := i) (by omega) hp1 hp3 (by omega) (by omega) hq1 (by omega) (Or.inr ⟨by omega, by omega, by omega, rfl, by unfold Bt.sgn Bt.enc; first | (rw [if_pos (by omega), if_pos (by omega)] <;> omega) | (rw [if_pos (by omega), if_neg (by omega)] <;> omega) | (rw [if_neg (by omega), if_pos (by omega)] <;> omega) | (rw [if_neg (by omega), if_neg (by omega)] <;> omega)⟩)) rfl (List.nil_sublist _) rfl
                      · replace hq14 := of_decide_eq_false hq14
                        refine GC.skip ?_
                        refine GE.blockN ?_
                        refine GE.thenN ?_
                        refine GC.seq ?_
                        refine GC.region ?_
                        refine GL.val (v := (.int .u32 2147483648)) (Ex.move rfl) (by decide) ?_
                        refine GL.val (v := (.int .i64 (k.2.1 - ((i : Nat) : Int)))) (Ex.move rfl) (by decide) ?_
                        refine GL.val (v := (.int .i64 ((k.2.1 - ((i : Nat) : Int)) + 150))) (Ex.add rfl rfl (Z := (k.2.1 - ((i : Nat) : Int)) + 150) (w64 (by omega))) (by decide) ?_
                        refine GL.val (v := (.int .u32 ((k.2.1 - ((i : Nat) : Int)) + 150))) (Ex.conv rfl Try.underlying3 Try.underlying23 (Z := (k.2.1 - ((i : Nat) : Int)) + 150) (wu32b (by omega))) (by decide) ?_
                        refine GL.val (v := (.int .u32 (((k.2.1 - ((i : Nat) : Int)) + 150) * 8388608))) (Ex.shl rfl (m := 23) rfl (by decide) (Z := ((k.2.1 - ((i : Nat) : Int)) + 150) * 8388608) (wu32b (by omega))) (by decide) ?_
                        refine GL.val (v := (.int .u32 (2147483648 + (((k.2.1 - ((i : Nat) : Int)) + 150) * 8388608)))) (Ex.bits rfl rfl (by simp) (Z := 2147483648 + (((k.2.1 - ((i : Nat) : Int)) + 150) * 8388608)) (orm 31 (by omega) (by omega) (by decide) (by omega) rfl)) (by decide) ?_
                        refine GL.val (v := (.int .u64 (k.1 * 2 ^ i))) (Ex.move rfl) (by decide) ?_
                        refine GL.val (v := (.int .u64 ((k.1 * 2 ^ i) - 8388608))) (Ex.sub' rfl rfl (Z := (k.1 * 2 ^ i) - 8388608) (wu64b (by omega))) (by decide) ?_
                        refine GL.val (v := (.int .u32 ((k.1 * 2 ^ i) - 8388608))) (Ex.conv rfl Try.underlying47 Try.underlying23 (Z := (k.1 * 2 ^ i) - 8388608) (wu32b (by omega))) (by decide) ?_
                        refine GL.val (v := (.int .u32 ((2147483648 + (((k.2.1 - ((i : Nat) : Int)) + 150) * 8388608)) + ((k.1 * 2 ^ i) - 8388608)))) (Ex.bits rfl rfl (by simp) (Z := (2147483648 + (((k.2.1 - ((i : Nat) : Int)) + 150) * 8388608)) + ((k.1 * 2 ^ i) - 8388608)) (orm 23 (by omega) (by omega) (by decide) (by omega) rfl)) (by decide) ?_
                        refine GL.val (v := (.int .u32 ((2147483648 + (((k.2.1 - ((i : Nat) : Int)) + 150) * 8388608)) + ((k.1 * 2 ^ i) - 8388608)))) (Ex.assign rfl) (by decide) ?_
                        refine GL.val (v := (.bool true)) (Ex.assign rfl) (by decide) ?_
                        refine GL.nil ?_
                        refine GE.thenN ?_
                        refine GC.ret ?_
                        refine GC.ret2 rfl (Rv.tmp rfl) (Rv.tmp rfl) (fun wN HN => ?_)
                        exact HN.ret ((2147483648 + (((k.2.1 - ((i : Nat) : Int)) + 150) * 8388608)) + ((k.1 * 2 ^ i) - 8388608), true) (Bt.FP.prog (s := k.1) (x := k.2.1) (j := k.2.2) (i := i) (by omega) hp1 hp3 (by omega) (by omega) hq1 (by omega) (Or.inr ⟨by omega, by omega, by omega, rfl, by unfold Bt.sgn Bt.enc; first | (rw [if_pos (by omega), if_pos (by omega)] <;> omega) | (rw [if_pos (by omega), if_neg (by omega)] <;> omega) | (rw [if_neg (by omega), if_pos (by omega)] <;> omega) | (rw [if_neg (by omega), if_neg (by omega)] <;> omega)⟩)) rfl (List.nil_sublist _) rfl
            · refine GL.val (v := (.bool false)) (Ex.cast (Ex.lss rfl rfl) (congrArg Value.bool (decide_eq_false hq7))) (by decide) ?_
              refine GL.val (v := (.bool false)) (Ex.move rfl) (by decide) ?_
              refine GL.skipG (tj := 33) rfl rfl rfl (by decide) ?_
              refine GL.skipG (tj := 33) rfl rfl rfl (by decide) ?_
              refine GL.val (v := (.bool false)) (Ex.pickF rfl rfl) (by decide) ?_
              refine GL.nil ?_
              refine GE.thenN ?_
              refine GC.cond rfl (fun hq15 => by cases hq15) (fun _ => ?_)
              refine GC.exit ?_
              refine GE.thenE ?_
              refine GE.thenE ?_
              refine GE.blockE ?_
              refine GE.thenN ?_
              refine GC.seq ?_
              refine GC.block ?_
              refine GC.seq ?_
              refine GC.region ?_
              refine GL.val (v := (.int .u64 (k.1 * 2 ^ i))) (Ex.move rfl) (by decide) ?_
              by_cases hq16 : 16777216 ≤ (k.1 * 2 ^ i)
              · refine GL.val (v := (.bool true)) (Ex.cast (Ex.geq rfl rfl) (congrArg Value.bool (decide_eq_true hq16))) (by decide) ?_
                refine GL.val (v := (.bool true)) (Ex.move rfl) (by decide) ?_
                refine GL.skipG (tj := 44) rfl rfl rfl (by decide) ?_
                refine GL.skipG (tj := 44) rfl rfl rfl (by decide) ?_
                refine GL.val (v := (.bool true)) (Ex.pickT rfl rfl) (by decide) ?_
                refine GL.val (v := (.bool true)) (Ex.move rfl) (by decide) ?_
                refine GL.skipG (tj := 48) rfl rfl rfl (by decide) ?_
                refine GL.skipG (tj := 48) rfl rfl rfl (by decide) ?_
                refine GL.val (v := (.bool true)) (Ex.pickT rfl rfl) (by decide) ?_
                refine GL.val (v := (.bool true)) (Ex.assign rfl) (by decide) ?_
                refine GL.nil ?_
                refine GE.thenN ?_
                refine GC.cond rfl (fun _ => ?_) (fun hq17 => by cases hq17)
                refine GC.seq ?_
                refine GC.region ?_
                refine GL.val (v := (.int .u32 0)) (Ex.assign rfl) (by decide) ?_
                refine GL.val (v := (.bool false)) (Ex.assign rfl) (by decide) ?_
                refine GL.nil ?_
                refine GE.thenN ?_
                refine GC.ret ?_
                refine GE.blockR ?_
                refine GE.thenR ?_
                refine GC.ret2 rfl (Rv.tmp rfl) (Rv.tmp rfl) (fun wN HN => ?_)
                exact HN.ret (0, false) (Bt.FP.prog (s := k.1) (x := k.2.1) (j := k.2.2) (i := i) (by omega) hp1 hp3 (by omega) (by omega) hq1 (by omega) (Or.inl ⟨by omega, rfl, rfl⟩)) rfl (List.nil_sublist _) rfl
              · refine GL.val (v := (.bool false)) (Ex.cast (Ex.geq rfl rfl) (congrArg Value.bool (decide_eq_false hq16))) (by decide) ?_
                refine GL.val (v := (.bool false)) (Ex.move rfl) (by decide) ?_
                refine GL.stepG (tj := 44) rfl rfl (Ex.wp (v := (.int .i64 (k.2.1 - ((i : Nat) : Int)))) (Ex.move rfl) (by decide)) (fun _ _ => ?_)
                by_cases hq18 : (k.2.1 - ((i : Nat) : Int)) < (-149)
                · refine GL.stepG (tj := 44) rfl rfl (Ex.wp (v := (.bool true)) (Ex.cast (Ex.lss rfl rfl) (congrArg Value.bool (decide_eq_true hq18))) (by decide)) (fun _ _ => ?_)
                  refine GL.val (v := (.bool true)) (Ex.pickF rfl rfl) (by decide) ?_
                  refine GL.val (v := (.bool true)) (Ex.move rfl) (by decide) ?_
                  refine GL.skipG (tj := 48) rfl rfl rfl (by decide) ?_
                  refine GL.skipG (tj := 48) rfl rfl rfl (by decide) ?_
                  refine GL.val (v := (.bool true)) (Ex.pickT rfl rfl) (by decide) ?_
                  refine GL.val (v := (.bool true)) (Ex.assign rfl) (by decide) ?_
                  refine GL.nil ?_
                  refine GE.thenN ?_
                  refine GC.cond rfl (fun _ => ?_) (fun hq19 => by cases hq19)
                  refine GC.seq ?_
                  refine GC.region ?_
                  refine GL.val (v := (.int .u32 0)) (Ex.assign rfl) (by decide) ?_
                  refine GL.val (v := (.bool false)) (Ex.assign rfl) (by decide) ?_
                  refine GL.nil ?_
                  refine GE.thenN ?_
                  refine GC.ret ?_
                  refine GE.blockR ?_
                  refine GE.thenR ?_
                  refine GC.ret2 rfl (Rv.tmp rfl) (Rv.tmp rfl) (fun wN HN => ?_)
                  exact HN.ret (0, false) (Bt.FP.prog (s := k.1) (x := k.2.1) (j := k.2.2) (i := i) (by omega) hp1 hp3 (by omega) (by omega) hq1 (by omega) (Or.inl ⟨by omega, rfl, rfl⟩)) rfl (List.nil_sublist _) rfl
                · refine GL.stepG (tj := 44) rfl rfl (Ex.wp (v := (.bool false)) (Ex.cast (Ex.lss rfl rfl) (congrArg Value.bool (decide_eq_false hq18))) (by decide)) (fun _ _ => ?_)
                  refine GL.val (v := (.bool false)) (Ex.pickF rfl rfl) (by decide) ?_
                  refine GL.val (v := (.bool false)) (Ex.move rfl) (by decide) ?_
                  refine GL.stepG (tj := 48) rfl rfl (Ex.wp (v := (.int .i64 (k.2.1 - ((i : Nat) : Int)))) (Ex.move rfl) (by decide)) (fun _ _ => ?_)
                  refine GL.stepG (tj := 48) rfl rfl (Ex.wp (v := (.bool (decide (104 < (k.2.1 - ((i : Nat) : Int)))))) (Ex.gtr rfl rfl) (by decide)) (fun _ _ => ?_)
                  refine GL.val (v := (.bool (decide (104 < (k.2.1 - ((i : Nat) : Int)))))) (Ex.pickF rfl rfl) (by decide) ?_
                  refine GL.val (v := (.bool (decide (104 < (k.2.1 - ((i : Nat) : Int)))))) (Ex.assign rfl) (by decide) ?_
                  refine GL.nil ?_
                  refine GE.thenN ?_
                  refine GC.cond rfl (fun hq20 => ?_) (fun hq20 => ?_)
                  · replace hq20 := of_decide_eq_true hq20
                    refine GC.seq ?_
                    refine GC.region ?_
                    refine GL.val (v := (.int .u32 0)) (Ex.assign rfl) (by decide) ?_
                    refine GL.val (v := (.bool false)) (Ex.assign rfl) (by decide) ?_
                    refine GL.nil ?_
                    refine GE.thenN ?_
                    refine GC.ret ?_
                    refine GE.blockR ?_
                    refine GE.thenR ?_
                    refine GC.ret2 rfl (Rv.tmp rfl) (Rv.tmp rfl) (fun wN HN => ?_)
                    exact HN.ret (0, false) (Bt.FP.prog (s := k.1) (x := k.2.1) (j := k.2.2) (i := i) (by omega) hp1 hp3 (by omega) (by omega) hq1 (by omega) (Or.inl ⟨by omega, rfl, rfl⟩)) rfl (List.nil_sublist _) rfl
                  · replace hq20 := of_decide_eq_false hq20
                    refine GC.seq ?_
                    refine GC.region ?_
                    refine GL.val (v := (.int .u64 (k.1 * 2 ^ i))) (Ex.move rfl) (by decide) ?_
                    refine GL.val (v := (.bool (decide ((k.1 * 2 ^ i) < 8388608)))) (Ex.lss rfl rfl) (by decide) ?_
                    refine GL.val (v := (.bool (decide ((k.1 * 2 ^ i) < 8388608)))) (Ex.assign rfl) (by decide) ?_
                    refine GL.nil ?_
                    refine GE.thenN ?_
                    refine GC.cond rfl (fun hq21 => ?_) (fun hq21 => ?_)
                    · replace hq21 := of_decide_eq_true hq21
                      refine GC.seq ?_
                      refine GC.region ?_
                      refine GL.val (v := (.int .u32 2147483648)) (Ex.move rfl) (by decide) ?_
                      refine GL.val (v := (.int .u64 (k.1 * 2 ^ i))) (Ex.move rfl) (by decide) ?_
                      refine GL.val (v := (.int .u32 (k.1 * 2 ^ i))) (Ex.conv rfl Try.underlying47 Try.underlying23 (Z := k.1 * 2 ^ i) (wu32b (by omega))) (by decide) ?_
                      refine GL.val (v := (.int .u32 (2147483648 + (k.1 * 2 ^ i)))) (Ex.bits rfl rfl (by simp) (Z := 2147483648 + (k.1 * 2 ^ i)) (orm 31 (by omega) (by omega) (by decide) (by omega) rfl)) (by decide) ?_
                      refine GL.val (v := (.int .u32 (2147483648 + (k.1 * 2 ^ i)))) (Ex.assign rfl) (by decide) ?_
                      refine GL.val (v := (.bool true)) (Ex.assign rfl) (by decide) ?_
                      refine GL.nil ?_
                      refine GE.thenN ?_
                      refine GC.ret ?_
                      refine GE.blockR ?_
                      refine GE.thenR ?_
                      refine GC.ret2 rfl (Rv.tmp rfl) (Rv.tmp rfl) (fun wN HN => ?_)
                      exact HN.ret (2147483648 + (k.1 * 2 ^ i), true) (Bt.FP.prog (s := k.1) (x := k.2.1) (j := k.2.2) (i := i) (by omega) hp1 hp3 (by omega) (by omega) hq1 (by omega) (Or.inr ⟨by omega, by omega, by omega, rfl, by unfold Bt.sgn Bt.enc; first | (rw [if_pos (by omega), if_pos (by omega)] <;> omega) | (rw [if_pos (by omega), if_neg (by omega)] <;> omega) | (rw [if_neg (by omega), if_pos (by omega)] <;> omega) | (rw [if_neg (by omega), if_neg (by omega)] <;> omega)⟩)) rfl (List.nil_sublist _) rfl
                    · replace hq21 := of_decide_eq_false hq21
                      refine GC.skip ?_
                      refine GE.blockN ?_
                      refine GE.thenN ?_
                      refine GC.seq ?_
                      refine GC.region ?_
                      refine GL.val (v := (.int .u32 2147483648)) (Ex.move rfl) (by decide) ?_
                      refine GL.val (v := (.int .i64 (k.2.1 - ((i : Nat) : Int)))) (Ex.move rfl) (by decide) ?_
                      refine GL.val (v := (.int .i64 ((k.2.1 - ((i : Nat) : Int)) + 150))) (Ex.add rfl rfl (Z := (k.2.1 - ((i : Nat) : Int)) + 150) (w64 (by omega))) (by decide) ?_
                      refine GL.val (v := (.int .u32 ((k.2.1 - ((i : Nat) : Int)) + 150))) (Ex.conv rfl Try.underlying3 Try.underlying23 (Z := (k.2.1 - ((i : Nat) : Int)) + 150) (wu32b (by omega))) (by decide) ?_
                      refine GL.val (v := (.int .u32 (((k.2.1 - ((i : Nat) : Int)) + 150) * 8388608))) (Ex.shl rfl (m := 23) rfl (by decide) (Z := ((k.2.1 - ((i : Nat) : Int)) + 150) * 8388608) (wu32b (by omega))) (by decide) ?_
                      refine GL.val (v := (.int .u32 (2147483648 + (((k.2.1 - ((i : Nat) : Int)) + 150) * 8388608)))) (Ex.bits rfl rfl (by simp) (Z := 2147483648 + (((k.2.1 - ((i : Nat) : Int)) + 150) * 8388608)) (orm 31 (by omega) (by omega) (by decide) (by omega) rfl)) (by decide) ?_
                      refine GL.val (v := (.int .u64 (k.1 * 2 ^ i))) (Ex.move rfl) (by decide) ?_
                      refine GL.val (v := (.int .u64 ((k.1 * 2 ^ i) - 8388608))) (Ex.sub' rfl rfl (Z := (k.1 * 2 ^ i) - 8388608) (wu64b (by omega))) (by decide) ?_
                      refine GL.val (v := (.int .u32 ((k.1 * 2 ^ i) - 8388608))) (Ex.conv rfl Try.underlying47 Try.underlying23 (Z := (k.1 * 2 ^ i) - 8388608) (wu32b (by omega))) (by decide) ?_
                      refine GL.val (v := (.int .u32 ((2147483648 + (((k.2.1 - ((i : Nat) : Int)) + 150) * 8388608)) + ((k.1 * 2 ^ i) - 8388608)))) (Ex.bits rfl rfl (by simp) (Z := (2147483648 + (((k.2.1 - ((i : Nat) : Int)) + 150) * 8388608)) + ((k.1 * 2 ^ i) - 8388608)) (orm 23 (by omega) (by omega) (by decide) (by omega) rfl)) (by decide) ?_
                      refine GL.val (v := (.int .u32 ((2147483648 + (((k.2.1 - ((i : Nat) : Int)) + 150) * 8388608)) + ((k.1 * 2 ^ i) - 8388608)))) (Ex.assign rfl) (by decide) ?_
                      refine GL.val (v := (.bool true)) (Ex.assign rfl) (by decide) ?_
                      refine GL.nil ?_
                      refine GE.thenN ?_
                      refine GC.ret ?_
                      refine GC.ret2 rfl (Rv.tmp rfl) (Rv.tmp rfl) (fun wN HN => ?_)
                      exact HN.ret ((2147483648 + (((k.2.1 - ((i : Nat) : Int)) + 150) * 8388608)) + ((k.1 * 2 ^ i) - 8388608), true) (Bt.FP.prog (s := k.1) (x := k.2.1) (j := k.2.2) (i := i) (by omega) hp1 hp3 (by omega) (by omega) hq1 (by omega) (Or.inr ⟨by omega, by omega, by omega, rfl, by unfold Bt.sgn Bt.enc; first | (rw [if_pos (by omega), if_pos (by omega)] <;> omega) | (rw [if_pos (by omega), if_neg (by omega)] <;> omega) | (rw [if_neg (by omega), if_pos (by omega)] <;> omega) | (rw [if_neg (by omega), if_neg (by omega)] <;> omega)⟩)) rfl (List.nil_sublist _) rfl
      · refine GL.val (v := (.bool false)) (Ex.cast (Ex.eql rfl rfl) (congrArg Value.bool (decide_eq_false hq3))) (by decide) ?_
        refine GL.val (v := (.bool false)) (Ex.move rfl) (by decide) ?_
        refine GL.skipG (tj := 19) rfl rfl rfl (by decide) ?_
        refine GL.skipG (tj := 19) rfl rfl rfl (by decide) ?_
        refine GL.skipG (tj := 19) rfl rfl rfl (by decide) ?_
        refine GL.skipU (tj := 22) rfl rfl (by decide) ?_
        refine GL.skipU (tj := 22) rfl rfl (by decide) ?_
        refine GL.skipG (tj := 19) rfl rfl rfl (by decide) ?_
        refine GL.val (v := (.bool false)) (Ex.pickF rfl rfl) (by decide) ?_
        refine GL.nil ?_
        refine GE.thenN ?_
        refine GC.cond rfl (fun hq22 => by cases hq22) (fun _ => ?_)
        refine GC.exit ?_
        refine GE.thenE ?_
        refine GE.thenE ?_
        refine GE.blockE ?_
        refine GE.thenN ?_
        refine GC.seq ?_
        refine GC.block ?_
        refine GC.loop (σ := Nat) (fun i => (i = 0 ∨ (k.1 * 2 ^ i < 16777216 ∧ -149 ≤ k.2.1 - ((i : Nat) : Int))) ∧ k.1 ≤ k.1 * 2 ^ i ∧ (i = 0 → k.1 * 2 ^ i = k.1)) (fun i => [(0, (.int .i64 n)), (6, (.int .u32 2147483648)), (1, (.int .i64 (k.2.1 - ((i : Nat) : Int)))), (7, (.int .u64 (k.1 * 2 ^ i)))]) (fun i => []) (fun i => (8388608 - k.1 * 2 ^ i).toNat) (0) ⟨Or.inl rfl, by simp, by simp⟩ ((sub_cons rfl ((sub_cons rfl ((sub_cons (congrArg (fun z => some (Value.int .i64 z)) (by simp)) ((sub_cons (congrArg (fun z => some (Value.int .u64 z)) (by simp)) ((sub_nil _)))))))))) (List.nil_sublist _) (fun i hp => ?_)
        obtain ⟨hq1, hq2, hq3⟩ := hp
        refine GC.seq ?_
        refine GC.seq ?_
        refine GC.region ?_
        refine GL.val (v := (.int .u64 (k.1 * 2 ^ i))) (Ex.move rfl) (by decide) ?_
        by_cases hq23 : (k.1 * 2 ^ i) < 8388608
        · refine GL.val (v := (.bool true)) (Ex.cast (Ex.lss rfl rfl) (congrArg Value.bool (decide_eq_true hq23))) (by decide) ?_
          refine GL.val (v := (.bool true)) (Ex.move rfl) (by decide) ?_
          refine GL.stepG (tj := 33) rfl rfl (Ex.wp (v := (.int .i64 (k.2.1 - ((i : Nat) : Int)))) (Ex.move rfl) (by decide)) (fun _ _ => ?_)
          refine GL.stepG (tj := 33) rfl rfl (Ex.wp (v := (.bool (decide ((-149) < (k.2.1 - ((i : Nat) : Int)))))) (Ex.gtr rfl rfl) (by decide)) (fun _ _ => ?_)
          refine GL.val (v := (.bool (decide ((-149) < (k.2.1 - ((i : Nat) : Int)))))) (Ex.pickT rfl rfl) (by decide) ?_
          refine GL.nil ?_
          refine GE.thenN ?_
          refine GC.cond rfl (fun hq24 => ?_) (fun hq24 => ?_)
          · replace hq24 := of_decide_eq_true hq24
            refine GC.skip ?_
            refine GE.thenN ?_
            refine GC.block ?_
            refine GC.region ?_
            refine GL.val (v := (.int .u64 (k.1 * 2 ^ i))) (Ex.move rfl) (by decide) ?_
            refine GL.val (v := (.int .u64 (k.1 * 2 ^ (i + 1)))) (Ex.mul rfl rfl (Z := k.1 * 2 ^ (i + 1)) (by rw [wu64b (by omega), Bt.pow_step]; omega)) (by decide) ?_
            refine GL.val (v := (.int .i64 (k.2.1 - ((i : Nat) : Int)))) (Ex.move rfl) (by decide) ?_
            refine GL.val (v := (.int .i64 (k.2.1 - ((i + 1 : Nat) : Int)))) (Ex.sub' rfl rfl (Z := k.2.1 - ((i + 1 : Nat) : Int)) (by rw [w64 (by omega)]; omega)) (by decide) ?_
            refine GL.val (v := (.int .u64 (k.1 * 2 ^ (i + 1)))) (Ex.assign rfl) (by decide) ?_
            refine GL.val (v := (.int .i64 (k.2.1 - ((i + 1 : Nat) : Int)))) (Ex.assign rfl) (by decide) ?_
            refine GL.nil ?_
            refine GE.blockN ?_
            refine GE.thenN ?_
            exact Head.mk (i + 1) ⟨Or.inr ⟨by rw [Bt.pow_step]; omega, by omega⟩, by rw [Bt.pow_step]; omega, by omega⟩ (by rw [Bt.pow_step]; omega) ((sub_cons rfl ((sub_cons rfl ((sub_cons rfl ((sub_cons rfl ((sub_nil _)))))))))) (List.nil_sublist _)
          · replace hq24 := of_decide_eq_false hq24
            refine GC.exit ?_
            refine GE.thenE ?_
            refine GE.thenE ?_
            refine GE.blockE ?_
            refine GE.thenN ?_
            refine GC.seq ?_
            refine GC.block ?_
            refine GC.seq ?_
            refine GC.region ?_
            refine GL.val (v := (.int .u64 (k.1 * 2 ^ i))) (Ex.move rfl) (by decide) ?_
            by_cases hq25 : 16777216 ≤ (k.1 * 2 ^ i)
            · refine GL.val (v := (.bool true)) (Ex.cast (Ex.geq rfl rfl) (congrArg Value.bool (decide_eq_true hq25))) (by decide) ?_
              refine GL.val (v := (.bool true)) (Ex.move rfl) (by decide) ?_
              refine GL.skipG (tj := 44) rfl rfl rfl (by decide) ?_
              refine GL.skipG (tj := 44) rfl rfl rfl (by decide) ?_
              refine GL.val (v := (.bool true)) (Ex.pickT rfl rfl) (by decide) ?_
              refine GL.val (v := (.bool true)) (Ex.move rfl) (by decide) ?_
              refine GL.skipG (tj := 48) rfl rfl rfl (by decide) ?_
              refine GL.skipG (tj := 48) rfl rfl rfl (by decide) ?_
              refine GL.val (v := (.bool true)) (Ex.pickT rfl rfl) (by decide) ?_
              refine GL.val (v := (.bool true)) (Ex.assign rfl) (by decide) ?_
              refine GL.nil ?_
              refine GE.thenN ?_
              refine GC.cond rfl (fun _ => ?_) (fun hq26 => by cases hq26)
              refine GC.seq ?_
              refine GC.region ?_
              refine GL.val (v := (.int .u32 0)) (Ex.assign rfl) (by decide) ?_
              refine GL.val (v := (.bool false)) (Ex.assign rfl) (by decide) ?_
              refine GL.nil ?_
              refine GE.thenN ?_
              refine GC.ret ?_
              refine GE.blockR ?_
              refine GE.thenR ?_
              refine GC.ret2 rfl (Rv.tmp rfl) (Rv.tmp rfl) (fun wN HN => ?_)
              exact HN.ret (0, false) (Bt.FP.prog (s := k.1) (x := k.2.1) (j := k.2.2) (i := i) (by omega) hp1 hp3 (by omega) (by omega) hq1 (by omega) (Or.inl ⟨by omega, rfl, rfl⟩)) rfl (List.nil_sublist _) rfl
            · refine GL.val (v := (.bool false)) (Ex.cast (Ex.geq rfl rfl) (congrArg Value.bool (decide_eq_false hq25))) (by decide) ?_
              refine GL.val (v := (.bool false)) (Ex.move rfl) (by decide) ?_
              refine GL.stepG (tj := 44) rfl rfl (Ex.wp (v := (.int .i64 (k.2.1 - ((i : Nat) : Int)))) (Ex.move rfl) (by decide)) (fun _ _ => ?_)
              by_cases hq27 : (k.2.1 - ((i : Nat) : Int)) < (-149)
              · refine GL.stepG (tj := 44) rfl rfl (Ex.wp (v := (.bool true)) (Ex.cast (Ex.lss rfl rfl) (congrArg Value.bool (decide_eq_true hq27))) (by decide)) (fun _ _ => ?_)
                refine GL.val (v := (.bool true)) (Ex.pickF rfl rfl) (by decide) ?_
                refine GL.val (v := (.bool true)) (Ex.move rfl) (by decide) ?_
                refine GL.skipG (tj := 48) rfl rfl rfl (by decide) ?_
                refine GL.skipG (tj := 48) rfl rfl rfl (by decide) ?_
                refine GL.val (v := (.bool true)) (Ex.pickT rfl rfl) (by decide) ?_
                refine GL.val (v := (.bool true)) (Ex.assign rfl) (by decide) ?_
                refine GL.nil ?_
                refine GE.thenN ?_
                refine GC.cond rfl (fun _ => ?_) (fun hq28 => by cases hq28)
                refine GC.seq ?_
                refine GC.region ?_
                refine GL.val (v := (.int .u32 0)) (Ex.assign rfl) (by decide) ?_
                refine GL.val (v := (.bool false)) (Ex.assign rfl) (by decide) ?_
                refine GL.nil ?_
                refine GE.thenN ?_
                refine GC.ret ?_
                refine GE.blockR ?_
                refine GE.thenR ?_
                refine GC.ret2 rfl (Rv.tmp rfl) (Rv.tmp rfl) (fun wN HN => ?_)
                exact HN.ret (0, false) (Bt.FP.prog (s := k.1) (x := k.2.1) (j := k.2.2) (i := i) (by omega) hp1 hp3 (by omega) (by omega) hq1 (by omega) (Or.inl ⟨by omega, rfl, rfl⟩)) rfl (List.nil_sublist _) rfl
              · refine GL.stepG (tj := 44) rfl rfl (Ex.wp (v := (.bool false)) (Ex.cast (Ex.lss rfl rfl) (congrArg Value.bool (decide_eq_false hq27))) (by decide)) (fun _ _ => ?_)
                refine GL.val (v := (.bool false)) (Ex.pickF rfl rfl) (by decide) ?_
                refine GL.val (v := (.bool false)) (Ex.move rfl) (by decide) ?_
                refine GL.stepG (tj := 48) rfl rfl (Ex.wp (v := (.int .i64 (k.2.1 - ((i : Nat) : Int)))) (Ex.move rfl) (by decide)) (fun _ _ => ?_)
                refine GL.stepG (tj := 48) rfl rfl (Ex.wp (v := (.bool (decide (104 < (k.2.1 - ((i : Nat) : Int)))))) (Ex.gtr rfl rfl) (by decide)) (fun _ _ => ?_)
                refine GL.val (v := (.bool (decide (104 < (k.2.1 - ((i : Nat) : Int)))))) (Ex.pickF rfl rfl) (by decide) ?_
                refine GL.val (v := (.bool (decide (104 < (k.2.1 - ((i : Nat) : Int)))))) (Ex.assign rfl) (by decide) ?_
                refine GL.nil ?_
                refine GE.thenN ?_
                refine GC.cond rfl (fun hq29 => ?_) (fun hq29 => ?_)
                · replace hq29 := of_decide_eq_true hq29
                  refine GC.seq ?_
                  refine GC.region ?_
                  refine GL.val (v := (.int .u32 0)) (Ex.assign rfl) (by decide) ?_
                  refine GL.val (v := (.bool false)) (Ex.assign rfl) (by decide) ?_
                  refine GL.nil ?_
                  refine GE.thenN ?_
                  refine GC.ret ?_
                  refine GE.blockR ?_
                  refine GE.thenR ?_
                  refine GC.ret2 rfl (Rv.tmp rfl) (Rv.tmp rfl) (fun wN HN => ?_)
                  exact HN.ret (0, false) (Bt.FP.prog (s := k.1) (x := k.2.1) (j := k.2.2) (i := i) (by omega) hp1 hp3 (by omega) (by omega) hq1 (by omega) (Or.inl ⟨by omega, rfl, rfl⟩)) rfl (List.nil_sublist _) rfl
                · replace hq29 := of_decide_eq_false hq29
                  refine GC.seq ?_
                  refine GC.region ?_
                  refine GL.val (v := (.int .u64 (k.1 * 2 ^ i))) (Ex.move rfl) (by decide) ?_
                  refine GL.val (v := (.bool (decide ((k.1 * 2 ^ i) < 8388608)))) (Ex.lss rfl rfl) (by decide) ?_
                  refine GL.val (v := (.bool (decide ((k.1 * 2 ^ i) < 8388608)))) (Ex.assign rfl) (by decide) ?_
                  refine GL.nil ?_
                  refine GE.thenN ?_
                  refine GC.cond rfl (fun hq30 => ?_) (fun hq30 => ?_)
                  · replace hq30 := of_decide_eq_true hq30
                    refine GC.seq ?_
                    refine GC.region ?_
                    refine GL.val (v := (.int .u32 2147483648)) (Ex.move rfl) (by decide) ?_
                    refine GL.val (v := (.int .u64 (k.1 * 2 ^ i))) (Ex.move rfl) (by decide) ?_
                    refine GL.val (v := (.int .u32 (k.1 * 2 ^ i))) (Ex.conv rfl Try.underlying47 Try.underlying23 (Z := k.1 * 2 ^ i) (wu32b (by omega))) (by decide) ?_
                    refine GL.val (v := (.int .u32 (2147483648 + (k.1 * 2 ^ i)))) (Ex.bits rfl rfl (by simp) (Z := 2147483648 + (k.1 * 2 ^ i)) (orm 31 (by omega) (by omega) (by decide) (by omega) rfl)) (by decide) ?_
                    refine GL.val (v := (.int .u32 (2147483648 + (k.1 * 2 ^ i)))) (Ex.assign rfl) (by decide) ?_
                    refine GL.val (v := (.bool true)) (Ex.assign rfl) (by decide) ?_
                    refine GL.nil ?_
                    refine GE.thenN ?_
                    refine GC.ret ?_
                    refine GE.blockR ?_
                    refine GE.thenR ?_
                    refine GC.ret2 rfl (Rv.tmp rfl) (Rv.tmp rfl) (fun wN HN => ?_)
                    exact HN.ret (2147483648 + (k.1 * 2 ^ i), true) (Bt.FP.prog (s := k.1) (x := k.2.1) (j := k.2.2) (i := i) (by omega) hp1 hp3 (by omega) (by omega) hq1 (by omega) (Or.inr ⟨by omega, by omega, by omega, rfl, by unfold Bt.sgn Bt.enc; first | (rw [if_pos (by omega), if_pos (by omega)] <;> omega) | (rw [if_pos (by omega), if_neg (by omega)] <;> omega) | (rw [if_neg (by omega), if_pos (by omega)] <;> omega) | (rw [if_neg (by omega), if_neg (by omega)] <;> omega)⟩)) rfl (List.nil_sublist _) rfl
                  · replace hq30 := of_decide_eq_false hq30
                    refine GC.skip ?_
                    refine GE.blockN ?_
                    refine GE.thenN ?_
                    refine GC.seq ?_
                    refine GC.region ?_
                    refine GL.val (v := (.int .u32 2147483648)) (Ex.move rfl) (by decide) ?_
                    refine GL.val (v := (.int .i64 (k.2.1 - ((i : Nat) : Int)))) (Ex.move rfl) (by decide) ?_
                    refine GL.val (v := (.int .i64 ((k.2.1 - ((i : Nat) : Int)) + 150))) (Ex.add rfl rfl (Z := (k.2.1 - ((i : Nat) : Int)) + 150) (w64 (by omega))) (by decide) ?_
                    refine GL.val (v := (.int .u32 ((k.2.1 - ((i : Nat) : Int)) + 150))) (Ex.conv rfl Try.underlying3 Try.underlying23 (Z := (k.2.1 - ((i : Nat) : Int)) + 150) (wu32b (by omega))) (by decide) ?_
                    refine GL.val (v := (.int .u32 (((k.2.1 - ((i : Nat) : Int)) + 150) * 8388608))) (Ex.shl rfl (m := 23) rfl (by decide) (Z := ((k.2.1 - ((i : Nat) : Int)) + 150) * 8388608) (wu32b (by omega))) (by decide) ?_
                    refine GL.val (v := (.int .u32 (2147483648 + (((k.2.1 - ((i : Nat) : Int)) + 150) * 8388608)))) (Ex.bits rfl rfl (by simp) (Z := 2147483648 + (((k.2.1 - ((i : Nat) : Int)) + 150) * 8388608)) (orm 31 (by omega) (by omega) (by decide) (by omega) rfl)) (by decide) ?_
                    refine GL.val (v := (.int .u64 (k.1 * 2 ^ i))) (Ex.move rfl) (by decide) ?_
                    refine GL.val (v := (.int .u64 ((k.1 * 2 ^ i) - 8388608))) (Ex.sub' rfl rfl (Z := (k.1 * 2 ^ i) - 8388608) (wu64b (by omega))) (by decide) ?_
                    refine GL.val (v := (.int .u32 ((k.1 * 2 ^ i) - 8388608))) (Ex.conv rfl Try.underlying47 Try.underlying23 (Z := (k.1 * 2 ^ i) - 8388608) (wu32b (by omega))) (by decide) ?_
                    refine GL.val (v := (.int .u32 ((2147483648 + (((k.2.1 - ((i : Nat) : Int)) + 150) * 8388608)) + ((k.1 * 2 ^ i) - 8388608)))) (Ex.bits rfl rfl (by simp) (Z := (2147483648 + (((k.2.1 - ((i : Nat) : Int)) + 150) * 8388608)) + ((k.1 * 2 ^ i) - 8388608)) (orm 23 (by omega) (by omega) (by decide) (by omega) rfl)) (by decide) ?_
                    refine GL.val (v := (.int .u32 ((2147483648 + (((k.2.1 - ((i : Nat) : Int)) + 150) * 8388608)) + ((k.1 * 2 ^ i) - 8388608)))) (Ex.assign rfl) (by decide) ?_
                    refine GL.val (v := (.bool true)) (Ex.assign rfl) (by decide) ?_
                    refine GL.nil ?_
                    refine GE.thenN ?_
                    refine GC.ret ?_
                    refine GC.ret2 rfl (Rv.tmp rfl) (Rv.tmp rfl) (fun wN HN => ?_)
                    exact HN.ret ((2147483648 + (((k.2.1 - ((i : Nat) : Int)) + 150) * 8388608)) + ((k.1 * 2 ^ i) - 8388608), true) (Bt.FP.prog (s := k.1) (x := k.2.1) (j := k.2.2) (i := i) (by omega) hp1 hp3 (by omega) (by omega) hq1 (by omega) (Or.inr ⟨by omega, by omega, by omega, rfl, by unfold Bt.sgn Bt.enc; first | (rw [if_pos (by omega), if_pos (by omega)] <;> omega) | (rw [if_pos (by omega), if_neg (by omega)] <;> omega) | (rw [if_neg (by omega), if_pos (by omega)] <;> omega) | (rw [if_neg (by omega), if_neg (by omega)] <;> omega)⟩)) rfl (List.nil_sublist _) rfl
        · refine GL.val (v := (.bool false)) (Ex.cast (Ex.lss rfl rfl) (congrArg Value.bool (decide_eq_false hq23))) (by decide) ?_
          refine GL.val (v := (.bool false)) (Ex.move rfl) (by decide) ?_
          refine GL.skipG (tj := 33) rfl rfl rfl (by decide) ?_
          refine GL.skipG (tj := 33) rfl rfl rfl (by decide) ?_
          refine GL.val (v := (.bool false)) (Ex.pickF rfl rfl) (by decide) ?_
          refine GL.nil ?_
          refine GE.thenN ?_
          refine GC.cond rfl (fun hq31 => by cases hq31) (fun _ => ?_)
          refine GC.exit ?_
          refine GE.thenE ?_
          refine GE.thenE ?_
          refine GE.blockE ?_
          refine GE.thenN ?_
          refine GC.seq ?_
          refine GC.block ?_
          refine GC.seq ?_
          refine GC.region ?_
          refine GL.val (v := (.int .u64 (k.1 * 2 ^ i))) (Ex.move rfl) (by decide) ?_
          by_cases hq32 : 16777216 ≤ (k.1 * 2 ^ i)
          · refine GL.val (v := (.bool true)) (Ex.cast (Ex.geq rfl rfl) (congrArg Value.bool (decide_eq_true hq32))) (by decide) ?_
            refine GL.val (v := (.bool true)) (Ex.move rfl) (by decide) ?_
            refine GL.skipG (tj := 44) rfl rfl rfl (by decide) ?_
            refine GL.skipG (tj := 44) rfl rfl rfl (by decide) ?_
            refine GL.val (v := (.bool true)) (Ex.pickT rfl rfl) (by decide) ?_
            refine GL.val (v := (.bool true)) (Ex.move rfl) (by decide) ?_
            refine GL.skipG (tj := 48) rfl rfl rfl (by decide) ?_
            refine GL.skipG (tj := 48) rfl rfl rfl (by decide) ?_
            refine GL.val (v := (.bool true)) (Ex.pickT rfl rfl) (by decide) ?_
            refine GL.val (v := (.bool true)) (Ex.assign rfl) (by decide) ?_
            refine GL.nil ?_
            refine GE.thenN ?_
            refine GC.cond rfl (fun _ => ?_) (fun hq33 => by cases hq33)
            refine GC.seq ?_
            refine GC.region ?_
            refine GL.val (v := (.int .u32 0)) (Ex.assign rfl) (by decide) ?_
            refine GL.val (v := (.bool false)) (Ex.assign rfl) (by decide) ?_
            refine GL.nil ?_
            refine GE.thenN ?_
            refine GC.ret ?_
            refine GE.blockR ?_
            refine GE.thenR ?_
            refine GC.ret2 rfl (Rv.tmp rfl) (Rv.tmp rfl) (fun wN HN => ?_)
            exact HN.ret (0, false) (Bt.FP.prog (s := k.1) (x := k.2.1) (j := k.2.2) (i := i) (by omega) hp1 hp3 (by omega) (by omega) hq1 (by omega) (Or.inl ⟨by omega, rfl, rfl⟩)) rfl (List.nil_sublist _) rfl
          · refine GL.val (v := (.bool false)) (Ex.cast (Ex.geq rfl rfl) (congrArg Value.bool (decide_eq_false hq32))) (by decide) ?_
            refine GL.val (v := (.bool false)) (Ex.move rfl) (by decide) ?_
            refine GL.stepG (tj := 44) rfl rfl (Ex.wp (v := (.int .i64 (k.2.1 - ((i : Nat) : Int)))) (Ex.move rfl) (by decide)) (fun _ _ => ?_)
            by_cases hq34 : (k.2.1 - ((i : Nat) : Int)) < (-149)
            · refine GL.stepG (tj := 44) rfl rfl (Ex.wp (v := (.bool true)) (Ex.cast (Ex.lss rfl rfl) (congrArg Value.bool (decide_eq_true hq34))) (by decide)) (fun _ _ => ?_)
              refine GL.val (v := (.bool true)) (Ex.pickF rfl rfl) (by decide) ?_
              refine GL.val (v := (.bool true)) (Ex.move rfl) (by decide) ?_
              refine GL.skipG (tj := 48) rfl rfl rfl (by decide) ?_
              refine GL.skipG (tj := 48) rfl rfl rfl (by decide) ?_
              refine GL.val (v := (.bool true)) (Ex.pickT rfl rfl) (by decide) ?_
              refine GL.val (v := (.bool true)) (Ex.assign rfl) (by decide) ?_
              refine GL.nil ?_
              refine GE.thenN ?_
              refine GC.cond rfl (fun _ => ?_) (fun hq35 => by cases hq35)
              refine GC.seq ?_
              refine GC.region ?_
              refine GL.val (v := (.int .u32 0)) (Ex.assign rfl) (by decide) ?_
              refine GL.val (v := (.bool false)) (Ex.assign rfl) (by decide) ?_
              refine GL.nil ?_
              refine GE.thenN ?_
              refine GC.ret ?_
              refine GE.blockR ?_
              refine GE.thenR ?_
              refine GC.ret2 rfl (Rv.tmp rfl) (Rv.tmp rfl) (fun wN HN => ?_)
              exact HN.ret (0, false) (Bt.FP.prog (s := k.1) (x := k.2.1) (j := k.2.2) (i := i) (by omega) hp1 hp3 (by omega) (by omega) hq1 (by omega) (Or.inl ⟨by omega, rfl, rfl⟩)) rfl (List.nil_sublist _) rfl
            · refine GL.stepG (tj := 44) rfl rfl (Ex.wp (v := (.bool false)) (Ex.cast (Ex.lss rfl rfl) (congrArg Value.bool (decide_eq_false hq34))) (by decide)) (fun _ _ => ?_)
              refine GL.val (v := (.bool false)) (Ex.pickF rfl rfl) (by decide) ?_
              refine GL.val (v := (.bool false)) (Ex.move rfl) (by decide) ?_
              refine GL.stepG (tj := 48) rfl rfl (Ex.wp (v := (.int .i64 (k.2.1 - ((i : Nat) : Int)))) (Ex.move rfl) (by decide)) (fun _ _ => ?_)
              refine GL.stepG (tj := 48) rfl rfl (Ex.wp (v := (.bool (decide (104 < (k.2.1 - ((i : Nat) : Int)))))) (Ex.gtr rfl rfl) (by decide)) (fun _ _ => ?_)
              refine GL.val (v := (.bool (decide (104 < (k.2.1 - ((i : Nat) : Int)))))) (Ex.pickF rfl rfl) (by decide) ?_
              refine GL.val (v := (.bool (decide (104 < (k.2.1 - ((i : Nat) : Int)))))) (Ex.assign rfl) (by decide) ?_
              refine GL.nil ?_
              refine GE.thenN ?_
              refine GC.cond rfl (fun hq36 => ?_) (fun hq36 => ?_)
              · replace hq36 := of_decide_eq_true hq36
                refine GC.seq ?_
                refine GC.region ?_
                refine GL.val (v := (.int .u32 0)) (Ex.assign rfl) (by decide) ?_
                refine GL.val (v := (.bool false)) (Ex.assign rfl) (by decide) ?_
                refine GL.nil ?_
                refine GE.thenN ?_
                refine GC.ret ?_
                refine GE.blockR ?_
                refine GE.thenR ?_
                refine GC.ret2 rfl (Rv.tmp rfl) (Rv.tmp rfl) (fun wN HN => ?_)
                exact HN.ret (0, false) (Bt.FP.prog (s := k.1) (x := k.2.1) (j := k.2.2) (i := i) (by omega) hp1 hp3 (by omega) (by omega) hq1 (by omega) (Or.inl ⟨by omega, rfl, rfl⟩)) rfl (List.nil_sublist _) rfl
              · replace hq36 := of_decide_eq_false hq36
                refine GC.seq ?_
                refine GC.region ?_
                refine GL.val (v := (.int .u64 (k.1 * 2 ^ i))) (Ex.move rfl) (by decide) ?_
                refine GL.val (v := (.bool (decide ((k.1 * 2 ^ i) < 8388608)))) (Ex.lss rfl rfl) (by decide) ?_
                refine GL.val (v := (.bool (decide ((k.1 * 2 ^ i) < 8388608)))) (Ex.assign rfl) (by decide) ?_
                refine GL.nil ?_
                refine GE.thenN ?_
                refine GC.cond rfl (fun hq37 => ?_) (fun hq37 => ?_)
                · replace hq37 := of_decide_eq_true hq37
                  refine GC.seq ?_
                  refine GC.region ?_
                  refine GL.val (v := (.int .u32 2147483648)) (Ex.move rfl) (by decide) ?_
                  refine GL.val (v := (.int .u64 (k.1 * 2 ^ i))) (Ex.move rfl) (by decide) ?_
                  refine GL.val (v := (.int .u32 (k.1 * 2 ^ i))) (Ex.conv rfl Try.underlying47 Try.underlying23 (Z := k.1 * 2 ^ i) (wu32b (by omega))) (by decide) ?_
                  refine GL.val (v := (.int .u32 (2147483648 + (k.1 * 2 ^ i)))) (Ex.bits rfl rfl (by simp) (Z := 2147483648 + (k.1 * 2 ^ i)) (orm 31 (by omega) (by omega) (by decide) (by omega) rfl)) (by decide) ?_
                  refine GL.val (v := (.int .u32 (2147483648 + (k.1 * 2 ^ i)))) (Ex.assign rfl) (by decide) ?_
                  refine GL.val (v := (.bool true)) (Ex.assign rfl) (by decide) ?_
                  refine GL.nil ?_
                  refine GE.thenN ?_
                  refine GC.ret ?_
                  refine GE.blockR ?_
                  refine GE.thenR ?_
                  refine GC.ret2 rfl (Rv.tmp rfl) (Rv.tmp rfl) (fun wN HN => ?_)
                  exact HN.ret (2147483648 + (k.1 * 2 ^ i), true) (Bt.FP.prog (s := k.1) (x := k.2.1) (j := k.2.2) (i := i) (by omega) hp1 hp3 (by omega) (by omega) hq1 (by omega) (Or.inr ⟨by omega, by omega, by omega, rfl, by unfold Bt.sgn Bt.enc; first | (rw [if_pos (by omega), if_pos (by omega)] <;> omega) | (rw [if_pos (by omega), if_neg (by omega)] <;> omega) | (rw [if_neg (by omega), if_pos (by omega)] <;> omega) | (rw [if_neg (by omega), if_neg (by omega)] <;> omega)⟩)) rfl (List.nil_sublist _) rfl
                · replace hq37 := of_decide_eq_false hq37
                  refine GC.skip ?_
                  refine GE.blockN ?_
                  refine GE.thenN ?_
                  refine GC.seq ?_
                  refine GC.region ?_
                  refine GL.val (v := (.int .u32 2147483648)) (Ex.move rfl) (by decide) ?_
                  refine GL.val (v := (.int .i64 (k.2.1 - ((i : Nat) : Int)))) (Ex.move rfl) (by decide) ?_
                  refine GL.val (v := (.int .i64 ((k.2.1 - ((i : Nat) : Int)) + 150))) (Ex.add rfl rfl (Z := (k.2.1 - ((i : Nat) : Int)) + 150) (w64 (by omega))) (by decide) ?_
                  refine GL.val (v := (.int .u32 ((k.2.1 - ((i : Nat) : Int)) + 150))) (Ex.conv rfl Try.underlying3 Try.underlying23 (Z := (k.2.1 - ((i : Nat) : Int)) + 150) (wu32b (by omega))) (by decide) ?_
                  refine GL.val (v := (.int .u32 (((k.2.1 - ((i : Nat) : Int)) + 150) * 8388608))) (Ex.shl rfl (m := 23) rfl (by decide) (Z := ((k.2.1 - ((i : Nat) : Int)) + 150) * 8388608) (wu32b (by omega))) (by decide) ?_
                  refine GL.val (v := (.int .u32 (2147483648 + (((k.2.1 - ((i : Nat) : Int)) + 150) * 8388608)))) (Ex.bits rfl rfl (by simp) (Z := 2147483648 + (((k.2.1 - ((i : Nat) : Int)) + 150) * 8388608)) (orm 31 (by omega) (by omega) (by decide) (by omega) rfl)) (by decide) ?_
                  refine GL.val (v := (.int .u64 (k.1 * 2 ^ i))) (Ex.move rfl) (by decide) ?_
                  refine GL.val (v := (.int .u64 ((k.1 * 2 ^ i) - 8388608))) (Ex.sub' rfl rfl (Z := (k.1 * 2 ^ i) - 8388608) (wu64b (by omega))) (by decide) ?_
                  refine GL.val (v := (.int .u32 ((k.1 * 2 ^ i) - 8388608))) (Ex.conv rfl Try.underlying47 Try.underlying23 (Z := (k.1 * 2 ^ i) - 8388608) (wu32b (by omega))) (by decide) ?_
                  refine GL.val (v := (.int .u32 ((2147483648 + (((k.2.1 - ((i : Nat) : Int)) + 150) * 8388608)) + ((k.1 * 2 ^ i) - 8388608)))) (Ex.bits rfl rfl (by simp) (Z := (2147483648 + (((k.2.1 - ((i : Nat) : Int)) + 150) * 8388608)) + ((k.1 * 2 ^ i) - 8388608)) (orm 23 (by omega) (by omega) (by decide) (by omega) rfl)) (by decide) ?_
                  refine GL.val (v := (.int .u32 ((2147483648 + (((k.2.1 - ((i : Nat) : Int)) + 150) * 8388608)) + ((k.1 * 2 ^ i) - 8388608)))) (Ex.assign rfl) (by decide) ?_
                  refine GL.val (v := (.bool true)) (Ex.assign rfl) (by decide) ?_
                  refine GL.nil ?_
                  refine GE.thenN ?_
                  refine GC.ret ?_
                  refine GC.ret2 rfl (Rv.tmp rfl) (Rv.tmp rfl) (fun wN HN => ?_)
                  exact HN.ret ((2147483648 + (((k.2.1 - ((i : Nat) : Int)) + 150) * 8388608)) + ((k.1 * 2 ^ i) - 8388608), true) (Bt.FP.prog (s := k.1) (x := k.2.1) (j := k.2.2) (i := i) (by omega) hp1 hp3 (by omega) (by omega) hq1 (by omega) (Or.inr ⟨by omega, by omega, by omega, rfl, by unfold Bt.sgn Bt.enc; first | (rw [if_pos (by omega), if_pos (by omega)] <;> omega) | (rw [if_pos (by omega), if_neg (by omega)] <;> omega) | (rw [if_neg (by omega), if_pos (by omega)] <;> omega) | (rw [if_neg (by omega), if_neg (by omega)] <;> omega)⟩)) rfl (List.nil_sublist _) rfl
    · replace hq2 := of_decide_eq_false hq2
      refine GC.skip ?_
      refine GE.thenN ?_
      refine GC.seq ?_
      refine GC.block ?_
      refine GC.loop (σ := Int × Int × Nat) (fun k => 0 < k.1 ∧ k.1 ≤ 9223372036854775808 ∧ (n.natAbs : Int) = k.1 * 2 ^ k.2.2 ∧ (-9223372036854775808 ≤ k.2.1 ∧ k.2.1 ≤ 9223372036854775807) ∧ (k.2.1 = e + k.2.2 ∨ k.2.1 = e + k.2.2 - 18446744073709551616)) (fun k => [(0, (.int .i64 n)), (6, (.int .u32 0)), (1, (.int .i64 k.2.1)), (7, (.int .u64 k.1))]) (fun k => []) (fun k => k.1.toNat) ((n % 18446744073709551616, e, 0)) ⟨by dsimp only; omega, by dsimp only; omega, by dsimp only; simp; omega, by dsimp only; omega, by dsimp only; omega⟩ ((sub_cons rfl ((sub_cons rfl ((sub_cons rfl ((sub_cons rfl ((sub_nil _)))))))))) (List.nil_sublist _) (fun k hp => ?_)
      obtain ⟨hp1, hp2, hp3, hp4, hp5⟩ := hp; have hj : k.2.2 < 64 := Bt.pow_le 64 hp1 hp3 (by omega)
      refine GC.seq ?_
      refine GC.seq ?_
      refine GC.region ?_
      refine GL.val (v := (.int .u64 k.1)) (Ex.move rfl) (by decide) ?_
      refine GL.val (v := (.int .u64 (k.1 % 2))) (Ex.rem rfl rfl (Z := k.1 % 2) (by omega) (rem64 (by omega) (by omega))) (by decide) ?_
      by_cases hq38 : (k.1 % 2) = 0
      · refine GL.val (v := (.bool true)) (Ex.cast (Ex.eql rfl rfl) (congrArg Value.bool (decide_eq_true hq38))) (by decide) ?_
        refine GL.val (v := (.bool true)) (Ex.move rfl) (by decide) ?_
        refine GL.stepG (tj := 19) rfl rfl (Ex.wp (v := (.int .u64 k.1)) (Ex.move rfl) (by decide)) (fun _ _ => ?_)
        by_cases hq39 : 16777216 ≤ k.1
        · refine GL.stepG (tj := 19) rfl rfl (Ex.wp (v := (.bool true)) (Ex.cast (Ex.geq rfl rfl) (congrArg Value.bool (decide_eq_true hq39))) (by decide)) (fun _ _ => ?_)
          refine GL.stepG (tj := 19) rfl rfl (Ex.wp (v := (.bool true)) (Ex.move rfl) (by decide)) (fun _ _ => ?_)
          refine GL.skipG (tj := 22) rfl rfl rfl (by decide) ?_
          refine GL.skipG (tj := 22) rfl rfl rfl (by decide) ?_
          refine GL.stepG (tj := 19) rfl rfl (Ex.wp (v := (.bool true)) (Ex.pickT rfl rfl) (by decide)) (fun _ _ => ?_)
          refine GL.val (v := (.bool true)) (Ex.pickT rfl rfl) (by decide) ?_
          refine GL.nil ?_
          refine GE.thenN ?_
          refine GC.cond rfl (fun _ => ?_) (fun hq40 => by cases hq40)
          refine GC.skip ?_
          refine GE.thenN ?_
          refine GC.block ?_
          refine GC.region ?_
          refine GL.val (v := (.int .u64 k.1)) (Ex.move rfl) (by decide) ?_
          refine GL.val (v := (.int .u64 (k.1 / 2))) (Ex.quo rfl rfl (Z := k.1 / 2) (by omega) (quoU64 (by omega) (by omega) (by omega))) (by decide) ?_
          refine GL.val (v := (.int .i64 k.2.1)) (Ex.move rfl) (by decide) ?_
          refine GL.val (v := (.int .i64 (Bt.inc k.2.1))) (Ex.add rfl rfl (Z := Bt.inc k.2.1) (Bt.inc_eq hp4)) (by decide) ?_
          refine GL.val (v := (.int .u64 (k.1 / 2))) (Ex.assign rfl) (by decide) ?_
          refine GL.val (v := (.int .i64 (Bt.inc k.2.1))) (Ex.assign rfl) (by decide) ?_
          refine GL.nil ?_
          refine GE.blockN ?_
          refine GE.thenN ?_
          exact Head.mk (k.1 / 2, Bt.inc k.2.1, k.2.2 + 1) (by have hj2 : k.2.2 + 1 < 64 := Bt.pow_le 64 (by omega) (Bt.half_step hp3 (by omega)) (by omega); exact ⟨by dsimp only; omega, by dsimp only; omega, Bt.half_step hp3 (by omega), Bt.inc_or hp4 he.2 (by omega) hp5⟩) (by dsimp only; omega) ((sub_cons rfl ((sub_cons rfl ((sub_cons rfl ((sub_cons rfl ((sub_nil _)))))))))) (List.nil_sublist _)
        · refine GL.stepG (tj := 19) rfl rfl (Ex.wp (v := (.bool false)) (Ex.cast (Ex.geq rfl rfl) (congrArg Value.bool (decide_eq_false hq39))) (by decide)) (fun _ _ => ?_)
          refine GL.stepG (tj := 19) rfl rfl (Ex.wp (v := (.bool false)) (Ex.move rfl) (by decide)) (fun _ _ => ?_)
          refine GL.stepG (tj := 22) rfl rfl (Ex.wp (v := (.int .i64 k.2.1)) (Ex.move rfl) (by decide)) (fun _ _ => ?_)
          refine GL.stepG (tj := 22) rfl rfl (Ex.wp (v := (.bool (decide (k.2.1 < (-149))))) (Ex.lss rfl rfl) (by decide)) (fun _ _ => ?_)
          refine GL.stepG (tj := 19) rfl rfl (Ex.wp (v := (.bool (decide (k.2.1 < (-149))))) (Ex.pickF rfl rfl) (by decide)) (fun _ _ => ?_)
          refine GL.val (v := (.bool (decide (k.2.1 < (-149))))) (Ex.pickT rfl rfl) (by decide) ?_
          refine GL.nil ?_
          refine GE.thenN ?_
          refine GC.cond rfl (fun hq41 => ?_) (fun hq41 => ?_)
          · replace hq41 := of_decide_eq_true hq41
            refine GC.skip ?_
            refine GE.thenN ?_
            refine GC.block ?_
            refine GC.region ?_
            refine GL.val (v := (.int .u64 k.1)) (Ex.move rfl) (by decide) ?_
            refine GL.val (v := (.int .u64 (k.1 / 2))) (Ex.quo rfl rfl (Z := k.1 / 2) (by omega) (quoU64 (by omega) (by omega) (by omega))) (by decide) ?_
            refine GL.val (v := (.int .i64 k.2.1)) (Ex.move rfl) (by decide) ?_
            refine GL.val (v := (.int .i64 (Bt.inc k.2.1))) (Ex.add rfl rfl (Z := Bt.inc k.2.1) (Bt.inc_eq hp4)) (by decide) ?_
            refine GL.val (v := (.int .u64 (k.1 / 2))) (Ex.assign rfl) (by decide) ?_
            refine GL.val (v := (.int .i64 (Bt.inc k.2.1))) (Ex.assign rfl) (by decide) ?_
            refine GL.nil ?_
            refine GE.blockN ?_
            refine GE.thenN ?_
            exact Head.mk (k.1 / 2, Bt.inc k.2.1, k.2.2 + 1) (by have hj2 : k.2.2 + 1 < 64 := Bt.pow_le 64 (by omega) (Bt.half_step hp3 (by omega)) (by omega); exact ⟨by dsimp only; omega, by dsimp only; omega, Bt.half_step hp3 (by omega), Bt.inc_or hp4 he.2 (by omega) hp5⟩) (by dsimp only; omega) ((sub_cons rfl ((sub_cons rfl ((sub_cons rfl ((sub_cons rfl ((sub_nil _)))))))))) (List.nil_sublist _)
          · replace hq41 := of_decide_eq_false hq41
            refine GC.exit ?_
            refine GE.thenE ?_
            refine GE.thenE ?_
            refine GE.blockE ?_
            refine GE.thenN ?_
            refine GC.seq ?_
            refine GC.block ?_
            refine GC.loop (σ := Nat) (fun i => (i = 0 ∨ (k.1 * 2 ^ i < 16777216 ∧ -149 ≤ k.2.1 - ((i : Nat) : Int))) ∧ k.1 ≤ k.1 * 2 ^ i ∧ (i = 0 → k.1 * 2 ^ i = k.1)) (fun i => [(0, (.int .i64 n)), (6, (.int .u32 0)), (1, (.int .i64 (k.2.1 - ((i : Nat) : Int)))), (7, (.int .u64 (k.1 * 2 ^ i)))]) (fun i => []) (fun i => (8388608 - k.1 * 2 ^ i).toNat) (0) ⟨Or.inl rfl, by simp, by simp⟩ ((sub_cons rfl ((sub_cons rfl ((sub_cons (congrArg (fun z => some (Value.int .i64 z)) (by simp)) ((sub_cons (congrArg (fun z => some (Value.int .u64 z)) (by simp)) ((sub_nil _)))))))))) (List.nil_sublist _) (fun i hp => ?_)
            obtain ⟨hq1, hq2, hq3⟩ := hp
            refine GC.seq ?_
            refine GC.seq ?_
            refine GC.region ?_
            refine GL.val (v := (.int .u64 (k.1 * 2 ^ i))) (Ex.move rfl) (by decide) ?_
            by_cases hq42 : (k.1 * 2 ^ i) < 8388608
            · refine GL.val (v := (.bool true)) (Ex.cast (Ex.lss rfl rfl) (congrArg Value.bool (decide_eq_true hq42))) (by decide) ?_
              refine GL.val (v := (.bool true)) (Ex.move rfl) (by decide) ?_
              refine GL.stepG (tj := 33) rfl rfl (Ex.wp (v := (.int .i64 (k.2.1 - ((i : Nat) : Int)))) (Ex.move rfl) (by decide)) (fun _ _ => ?_)
              refine GL.stepG (tj := 33) rfl rfl (Ex.wp (v := (.bool (decide ((-149) < (k.2.1 - ((i : Nat) : Int)))))) (Ex.gtr rfl rfl) (by decide)) (fun _ _ => ?_)
              refine GL.val (v := (.bool (decide ((-149) < (k.2.1 - ((i : Nat) : Int)))))) (Ex.pickT rfl rfl) (by decide) ?_
              refine GL.nil ?_
              refine GE.thenN ?_
              refine GC.cond rfl (fun hq43 => ?_) (fun hq43 => ?_)
              · replace hq43 := of_decide_eq_true hq43
                refine GC.skip ?_
                refine GE.thenN ?_
                refine GC.block ?_
                refine GC.region ?_
                refine GL.val (v := (.int .u64 (k.1 * 2 ^ i))) (Ex.move rfl) (by decide) ?_
                refine GL.val (v := (.int .u64 (k.1 * 2 ^ (i + 1)))) (Ex.mul rfl rfl (Z := k.1 * 2 ^ (i + 1)) (by rw [wu64b (by omega), Bt.pow_step]; omega)) (by decide) ?_
                refine GL.val (v := (.int .i64 (k.2.1 - ((i : Nat) : Int)))) (Ex.move rfl) (by decide) ?_
                refine GL.val (v := (.int .i64 (k.2.1 - ((i + 1 : Nat) : Int)))) (Ex.sub' rfl rfl (Z := k.2.1 - ((i + 1 : Nat) : Int)) (by rw [w64 (by omega)]; omega)) (by decide) ?_
                refine GL.val (v := (.int .u64 (k.1 * 2 ^ (i + 1)))) (Ex.assign rfl) (by decide) ?_
                refine GL.val (v := (.int .i64 (k.2.1 - ((i + 1 : Nat) : Int)))) (Ex.assign rfl) (by decide) ?_
                refine GL.nil ?_
                refine GE.blockN ?_
                refine GE.thenN ?_
                exact Head.mk (i + 1) ⟨Or.inr ⟨by rw [Bt.pow_step]; omega, by omega⟩, by rw [Bt.pow_step]; omega, by omega⟩ (by rw [Bt.pow_step]; omega) ((sub_cons rfl ((sub_cons rfl ((sub_cons rfl ((sub_cons rfl ((sub_nil _)))))))))) (List.nil_sublist _)
              · replace hq43 := of_decide_eq_false hq43
                refine GC.exit ?_
                refine GE.thenE ?_
                refine GE.thenE ?_
                refine GE.blockE ?_
                refine GE.thenN ?_
                refine GC.seq ?_
                refine GC.block ?_
                refine GC.seq ?_
                refine GC.region ?_
                refine GL.val (v := (.int .u64 (k.1 * 2 ^ i))) (Ex.move rfl) (by decide) ?_
                by_cases hq44 : 16777216 ≤ (k.1 * 2 ^ i)
                · refine GL.val (v := (.bool true)) (Ex.cast (Ex.geq rfl rfl) (congrArg Value.bool (decide_eq_true hq44))) (by decide) ?_
                  refine GL.val (v := (.bool true)) (Ex.move rfl) (by decide) ?_
                  refine GL.skipG (tj := 44) rfl rfl rfl (by decide) ?_
                  refine GL.skipG (tj := 44) rfl rfl rfl (by decide) ?_
                  refine GL.val (v := (.bool true)) (Ex.pickT rfl rfl) (by decide) ?_
                  refine GL.val (v := (.bool true)) (Ex.move rfl) (by decide) ?_
                  refine GL.skipG (tj := 48) rfl rfl rfl (by decide) ?_
                  refine GL.skipG (tj := 48) rfl rfl rfl (by decide) ?_
                  refine GL.val (v := (.bool true)) (Ex.pickT rfl rfl) (by decide) ?_
                  refine GL.val (v := (.bool true)) (Ex.assign rfl) (by decide) ?_
                  refine GL.nil ?_
                  refine GE.thenN ?_
                  refine GC.cond rfl (fun _ => ?_) (fun hq45 => by cases hq45)
                  refine GC.seq ?_
                  refine GC.region ?_
                  refine GL.val (v := (.int .u32 0)) (Ex.assign rfl) (by decide) ?_
                  refine GL.val (v := (.bool false)) (Ex.assign rfl) (by decide) ?_
                  refine GL.nil ?_
                  refine GE.thenN ?_
                  refine GC.ret ?_
                  refine GE.blockR ?_
                  refine GE.thenR ?_
                  refine GC.ret2 rfl (Rv.tmp rfl) (Rv.tmp rfl) (fun wN HN => ?_)
                  exact HN.ret (0, false) (Bt.FP.prog (s := k.1) (x := k.2.1) (j := k.2.2) (i := i) (by omega) hp1 hp3 (by omega) (by omega) hq1 (by omega) (Or.inl ⟨by omega, rfl, rfl⟩)) rfl (List.nil_sublist _) rfl
                · refine GL.val (v := (.bool false)) (Ex.cast (Ex.geq rfl rfl) (congrArg Value.bool (decide_eq_false hq44))) (by decide) ?_
                  refine GL.val (v := (.bool false)) (Ex.move rfl) (by decide) ?_
                  refine GL.stepG (tj := 44) rfl rfl (Ex.wp (v := (.int .i64 (k.2.1 - ((i : Nat) : Int)))) (Ex.move rfl) (by decide)) (fun _ _ => ?_)
                  by_cases hq46 : (k.2.1 - ((i : Nat) : Int)) < (-149)
                  · refine GL.stepG (tj := 44) rfl rfl (Ex.wp (v := (.bool true)) (Ex.cast (Ex.lss rfl rfl) (congrArg Value.bool (decide_eq_true hq46))) (by decide)) (fun _ _ => ?_)
                    refine GL.val (v := (.bool true)) (Ex.pickF rfl rfl) (by decide) ?_
                    refine GL.val (v := (.bool true)) (Ex.move rfl) (by decide) ?_
                    refine GL.skipG (tj := 48) rfl rfl rfl (by decide) ?_
                    refine GL.skipG (tj := 48) rfl rfl rfl (by decide) ?_
                    refine GL.val (v := (.bool true)) (Ex.pickT rfl rfl) (by decide) ?_
                    refine GL.val (v := (.bool true)) (Ex.assign rfl) (by decide) ?_
                    refine GL.nil ?_
                    refine GE.thenN ?_
                    refine GC.cond rfl (fun _ => ?_) (fun hq47 => by cases hq47)
                    refine GC.seq ?_
                    refine GC.region ?_
                    refine GL.val (v := (.int .u32 0)) (Ex.assign rfl) (by decide) ?_
                    refine GL.val (v := (.bool false)) (Ex.assign rfl) (by decide) ?_
                    refine GL.nil ?_
                    refine GE.thenN ?_
                    refine GC.ret ?_
                    refine GE.blockR ?_
                    refine GE.thenR ?_
                    refine GC.ret2 rfl (Rv.tmp rfl) (Rv.tmp rfl) (fun wN HN => ?_)
                    exact HN.ret (0, false) (Bt.FP.prog (s := k.1) (x := k.2.1) (j := k.2.2) (i := i) (by omega) hp1 hp3 (by omega) (by omega) hq1 (by omega) (Or.inl ⟨by omega, rfl, rfl⟩)) rfl (List.nil_sublist _) rfl
                  · refine GL.stepG (tj := 44) rfl rfl (Ex.wp (v := (.bool false)) (Ex.cast (Ex.lss rfl rfl) (congrArg Value.bool (decide_eq_false hq46))) (by decide)) (fun _ _ => ?_)
                    refine GL.val (v := (.bool false)) (Ex.pickF rfl rfl) (by decide) ?_
                    refine GL.val (v := (.bool false)) (Ex.move rfl) (by decide) ?_
                    refine GL.stepG (tj := 48) rfl rfl (Ex.wp (v := (.int .i64 (k.2.1 - ((i : Nat) : Int)))) (Ex.move rfl) (by decide)) (fun _ _ => ?_)
                    refine GL.stepG (tj := 48) rfl rfl (Ex.wp (v := (.bool (decide (104 < (k.2.1 - ((i : Nat) : Int)))))) (Ex.gtr rfl rfl) (by decide)) (fun _ _ => ?_)
                    refine GL.val (v := (.bool (decide (104 < (k.2.1 - ((i : Nat) : Int)))))) (Ex.pickF rfl rfl) (by decide) ?_
                    refine GL.val (v := (.bool (decide (104 < (k.2.1 - ((i : Nat) : Int)))))) (Ex.assign rfl) (by decide) ?_
                    refine GL.nil ?_
                    refine GE.thenN ?_
                    refine GC.cond rfl (fun hq48 => ?_) (fun hq48 => ?_)
                    · replace hq48 := of_decide_eq_true hq48
                      refine GC.seq ?_
                      refine GC.region ?_
                      refine GL.val (v := (.int .u32 0)) (Ex.assign rfl) (by decide) ?_
                      refine GL.val (v := (.bool false)) (Ex.assign rfl) (by decide) ?_
                      refine GL.nil ?_
                      refine GE.thenN ?_
                      refine GC.ret ?_
                      refine GE.blockR ?_
                      refine GE.thenR ?_
                      refine GC.ret2 rfl (Rv.tmp rfl) (Rv.tmp rfl) (fun wN HN => ?_)
                      exact HN.ret (0, false) (Bt.FP.prog (s := k.1) (x := k.2.1) (j := k.2.2) (i := i) (by omega) hp1 hp3 (by omega) (by omega) hq1 (by omega) (Or.inl ⟨by omega, rfl, rfl⟩)) rfl (List.nil_sublist _) rfl
                    · replace hq48 := of_decide_eq_false hq48
                      refine GC.seq ?_
                      refine GC.region ?_
                      refine GL.val (v := (.int .u64 (k.1 * 2 ^ i))) (Ex.move rfl) (by decide) ?_
                      refine GL.val (v := (.bool (decide ((k.1 * 2 ^ i) < 8388608)))) (Ex.lss rfl rfl) (by decide) ?_
                      refine GL.val (v := (.bool (decide ((k.1 * 2 ^ i) < 8388608)))) (Ex.assign rfl) (by decide) ?_
                      refine GL.nil ?_
                      refine GE.thenN ?_
                      refine GC.cond rfl (fun hq49 => ?_) (fun hq49 => ?_)
                      · replace hq49 := of_decide_eq_true hq49
                        refine GC.seq ?_
                        refine GC.region ?_
                        refine GL.val (v := (.int .u32 0)) (Ex.move rfl) (by decide) ?_
                        refine GL.val (v := (.int .u64 (k.1 * 2 ^ i))) (Ex.move rfl) (by decide) ?_
                        refine GL.val (v := (.int .u32 (k.1 * 2 ^ i))) (Ex.conv rfl Try.underlying47 Try.underlying23 (Z := k.1 * 2 ^ i) (wu32b (by omega))) (by decide) ?_
                        refine GL.val (v := (.int .u32 (0 + (k.1 * 2 ^ i)))) (Ex.bits rfl rfl (by simp) (Z := 0 + (k.1 * 2 ^ i)) (orm 31 (by omega) (by omega) (by decide) (by omega) rfl)) (by decide) ?_
                        refine GL.val (v := (.int .u32 (0 + (k.1 * 2 ^ i)))) (Ex.assign rfl) (by decide) ?_
                        refine GL.val (v := (.bool true)) (Ex.assign rfl) (by decide) ?_
                        refine GL.nil ?_
                        refine GE.thenN ?_
                        refine GC.ret ?_
                        refine GE.blockR ?_
                        refine GE.thenR ?_
                        refine GC.ret2 rfl (Rv.tmp rfl) (Rv.tmp rfl) (fun wN HN => ?_)
                        exact HN.ret (0 + (k.1 * 2 ^ i), true) (Bt.FP.prog (s := k.1) (x := k.2.1) (j := k.2.2) (i := i) (by omega) hp1 hp3 (by omega) (by omega) hq1 (by omega) (Or.inr ⟨by omega, by omega, by omega, rfl, by unfold Bt.sgn Bt.enc; first | (rw [if_pos (by omega), if_pos (by omega)] <;> omega) | (rw [if_pos (by omega), if_neg (by omega)] <;> omega) | (rw [if_neg (by omega), if_pos (by omega)] <;> omega) | (rw [if_neg (by omega), if_neg (by omega)] <;> omega)⟩)) rfl (List.nil_sublist _) rfl
                      · replace hq49 := of_decide_eq_false hq49
                        refine GC.skip ?_
                        refine GE.blockN ?_
                        refine GE.thenN ?_
                        refine GC.seq ?_
                        refine GC.region ?_
                        refine GL.val (v := (.int .u32 0)) (Ex.move rfl) (by decide) ?_
                        refine GL.val (v := (.int .i64 (k.2.1 - ((i : Nat) : Int)))) (Ex.move rfl) (by decide) ?_
                        refine GL.val (v := (.int .i64 ((k.2.1 - ((i : Nat) : Int)) + 150))) (Ex.add rfl rfl (Z := (k.2.1 - ((i : Nat) : Int)) + 150) (w64 (by omega))) (by decide) ?_
                        refine GL.val (v := (.int .u32 ((k.2.1 - ((i : Nat) : Int)) + 150))) (Ex.conv rfl Try.underlying3 Try.underlying23 (Z := (k.2.1 - ((i : Nat) : Int)) + 150) (wu32b (by omega))) (by decide) ?_
                        refine GL.val (v := (.int .u32 (((k.2.1 - ((i : Nat) : Int)) + 150) * 8388608))) (Ex.shl rfl (m := 23) rfl (by decide) (Z := ((k.2.1 - ((i : Nat) : Int)) + 150) * 8388608) (wu32b (by omega))) (by decide) ?_
                        refine GL.val (v := (.int .u32 (0 + (((k.2.1 - ((i : Nat) : Int)) + 150) * 8388608)))) (Ex.bits rfl rfl (by simp) (Z := 0 + (((k.2.1 - ((i : Nat) : Int)) + 150) * 8388608)) (orm 31 (by omega) (by omega) (by decide) (by omega) rfl)) (by decide) ?_
                        refine GL.val (v := (.int .u64 (k.1 * 2 ^ i))) (Ex.move rfl) (by decide) ?_
                        refine GL.val (v := (.int .u64 ((k.1 * 2 ^ i) - 8388608))) (Ex.sub' rfl rfl (Z := (k.1 * 2 ^ i) - 8388608) (wu64b (by omega))) (by decide) ?_
                        refine GL.val (v := (.int .u32 ((k.1 * 2 ^ i) - 8388608))) (Ex.conv rfl Try.underlying47 Try.underlying23 (Z := (k.1 * 2 ^ i) - 8388608) (wu32b (by omega))) (by decide) ?_
                        refine GL.val (v := (.int .u32 ((0 + (((k.2.1 - ((i : Nat) : Int)) + 150) * 8388608)) + ((k.1 * 2 ^ i) - 8388608)))) (Ex.bits rfl rfl (by simp) (Z := (0 + (((k.2.1 - ((i : Nat) : Int)) + 150) * 8388608)) + ((k.1 * 2 ^ i) - 8388608)) (orm 23 (by omega) (by omega) (by decide) (by omega) rfl)) (by decide) ?_
                        refine GL.val (v := (.int .u32 ((0 + (((k.2.1 - ((i : Nat) : Int)) + 150) * 8388608)) + ((k.1 * 2 ^ i) - 8388608)))) (Ex.assign rfl) (by decide) ?_
                        refine GL.val (v := (.bool true)) (Ex.assign rfl) (by decide) ?_
                        refine GL.nil ?_
                        refine GE.thenN ?_
                        refine GC.ret ?_
                        refine GC.ret2 rfl (Rv.tmp rfl) (Rv.tmp rfl) (fun wN HN => ?_)
                        exact HN.ret ((0 + (((k.2.1 - ((i : Nat) : Int)) + 150) * 8388608)) + ((k.1 * 2 ^ i) - 8388608), true) (Bt.FP.prog (s := k.1) (x := k.2.1) (j := k.2.2) (i := i) (by omega) hp1 hp3 (by omega) (by omega) hq1 (by omega) (Or.inr ⟨by omega, by omega, by omega, rfl, by unfold Bt.sgn Bt.enc; first | (rw [if_pos (by omega), if_pos (by omega)] <;> omega) | (rw [if_pos (by omega), if_neg (by omega)] <;> omega) | (rw [if_neg (by omega), if_pos (by omega)] <;> omega) | (rw [if_neg (by omega), if_neg (by omega)] <;> omega)⟩)) rfl (List.nil_sublist _) rfl
            · refine GL.val (v := (.bool false)) (Ex.cast (Ex.lss rfl rfl) (congrArg Value.bool (decide_eq_false hq42))) (by decide) ?_
              refine GL.val (v := (.bool false)) (Ex.move rfl) (by decide) ?_
              refine GL.skipG (tj := 33) rfl rfl rfl (by decide) ?_
              refine GL.skipG (tj := 33) rfl rfl rfl (by decide) ?_
              refine GL.val (v := (.bool false)) (Ex.pickF rfl rfl) (by decide) ?_
              refine GL.nil ?_
              refine GE.thenN ?_
              refine GC.cond rfl (fun hq50 => by cases hq50) (fun _ => ?_)
              refine GC.exit ?_
              refine GE.thenE ?_
              refine GE.thenE ?_
              refine GE.blockE ?_
              refine GE.thenN ?_
              refine GC.seq ?_
              refine GC.block ?_
              refine GC.seq ?_
              refine GC.region ?_
              refine GL.val (v := (.int .u64 (k.1 * 2 ^ i))) (Ex.move rfl) (by decide) ?_
              by_cases hq51 : 16777216 ≤ (k.1 * 2 ^ i)
              · refine GL.val (v := (.bool true)) (Ex.cast (Ex.geq rfl rfl) (congrArg Value.bool (decide_eq_true hq51))) (by decide) ?_
                refine GL.val (v := (.bool true)) (Ex.move rfl) (by decide) ?_
                refine GL.skipG (tj := 44) rfl rfl rfl (by decide) ?_
                refine GL.skipG (tj := 44) rfl rfl rfl (by decide) ?_
                refine GL.val (v := (.bool true)) (Ex.pickT rfl rfl) (by decide) ?_
                refine GL.val (v := (.bool true)) (Ex.move rfl) (by decide) ?_
                refine GL.skipG (tj := 48) rfl rfl rfl (by decide) ?_
                refine GL.skipG (tj := 48) rfl rfl rfl (by decide) ?_
                refine GL.val (v := (.bool true)) (Ex.pickT rfl rfl) (by decide) ?_
                refine GL.val (v := (.bool true)) (Ex.assign rfl) (by decide) ?_
                refine GL.nil ?_
                refine GE.thenN ?_
                refine GC.cond rfl (fun _ => ?_) (fun hq52 => by cases hq52)
                refine GC.seq ?_
                refine GC.region ?_
                refine GL.val (v := (.int .u32 0)) (Ex.assign rfl) (by decide) ?_
                refine GL.val (v := (.bool false)) (Ex.assign rfl) (by decide) ?_
                refine GL.nil ?_
                refine GE.thenN ?_
                refine GC.ret ?_
                refine GE.blockR ?_
                refine GE.thenR ?_
                refine GC.ret2 rfl (Rv.tmp rfl) (Rv.tmp rfl) (fun wN HN => ?_)
                exact HN.ret (0, false) (Bt.FP.prog (s := k.1) (x := k.2.1) (j := k.2.2) (i := i) (by omega) hp1 hp3 (by omega) (by omega) hq1 (by omega) (Or.inl ⟨by omega, rfl, rfl⟩)) rfl (List.nil_sublist _) rfl
              · refine GL.val (v := (.bool false)) (Ex.cast (Ex.geq rfl rfl) (congrArg Value.bool (decide_eq_false hq51))) (by decide) ?_
                refine GL.val (v := (.bool false)) (Ex.move rfl) (by decide) ?_
                refine GL.stepG (tj := 44) rfl rfl (Ex.wp (v := (.int .i64 (k.2.1 - ((i : Nat) : Int)))) (Ex.move rfl) (by decide)) (fun _ _ => ?_)
                by_cases hq53 : (k.2.1 - ((i : Nat) : Int)) < (-149)
                · refine GL.stepG (tj := 44) rfl rfl (Ex.wp (v := (.bool true)) (Ex.cast (Ex.lss rfl rfl) (congrArg Value.bool (decide_eq_true hq53))) (by decide)) (fun _ _ => ?_)
                  refine GL.val (v := (.bool true)) (Ex.pickF rfl rfl) (by decide) ?_
                  refine GL.val (v := (.bool true)) (Ex.move rfl) (by decide) ?_
                  refine GL.skipG (tj := 48) rfl rfl rfl (by decide) ?_
                  refine GL.skipG (tj := 48) rfl rfl rfl (by decide) ?_
                  refine GL.val (v := (.bool true)) (Ex.pickT rfl rfl) (by decide) ?_
                  refine GL.val (v := (.bool true)) (Ex.assign rfl) (by decide) ?_
                  refine GL.nil ?_
                  refine GE.thenN ?_
                  refine GC.cond rfl (fun _ => ?_) (fun hq54 => by cases hq54)
                  refine GC.seq ?_
                  refine GC.region ?_
                  refine GL.val (v := (.int .u32 0)) (Ex.assign rfl) (by decide) ?_
                  refine GL.val (v := (.bool false)) (Ex.assign rfl) (by decide) ?_
                  refine GL.nil ?_
                  refine GE.thenN ?_
                  refine GC.ret ?_
                  refine GE.blockR ?_
                  refine GE.thenR ?_
                  refine GC.ret2 rfl (Rv.tmp rfl) (Rv.tmp rfl) (fun wN HN => ?_)
                  exact HN.ret (0, false) (Bt.FP.prog (s := k.1) (x := k.2.1) (j := k.2.2) (i := i) (by omega) hp1 hp3 (by omega) (by omega) hq1 (by omega) (Or.inl ⟨by omega, rfl, rfl⟩)) rfl (List.nil_sublist _) rfl
                · refine GL.stepG (tj := 44) rfl rfl (Ex.wp (v := (.bool false)) (Ex.cast (Ex.lss rfl rfl) (congrArg Value.bool (decide_eq_false hq53))) (by decide)) (fun _ _ => ?_)
                  refine GL.val (v := (.bool false)) (Ex.pickF rfl rfl) (by decide) ?_
                  refine GL.val (v := (.bool false)) (Ex.move rfl) (by decide) ?_
                  refine GL.stepG (tj := 48) rfl rfl (Ex.wp (v := (.int .i64 (k.2.1 - ((i : Nat) : Int)))) (Ex.move rfl) (by decide)) (fun _ _ => ?_)
                  refine GL.stepG (tj := 48) rfl rfl (Ex.wp (v := (.bool (decide (104 < (k.2.1 - ((i : Nat) : Int)))))) (Ex.gtr rfl rfl) (by decide)) (fun _ _ => ?_)
                  refine GL.val (v := (.bool (decide (104 < (k.2.1 - ((i : Nat) : Int)))))) (Ex.pickF rfl rfl) (by decide) ?_
                  refine GL.val (v := (.bool (decide (104 < (k.2.1 - ((i : Nat) : Int)))))) (Ex.assign rfl) (by decide) ?_
                  refine GL.nil ?_
                  refine GE.thenN ?_
                  refine GC.cond rfl (fun hq55 => ?_) (fun hq55 => ?_)
                  · replace hq55 := of_decide_eq_true hq55
                    refine GC.seq ?_
                    refine GC.region ?_
                    refine GL.val (v := (.int .u32 0)) (Ex.assign rfl) (by decide) ?_
                    refine GL.val (v := (.bool false)) (Ex.assign rfl) (by decide) ?_
                    refine GL.nil ?_
                    refine GE.thenN ?_
                    refine GC.ret ?_
                    refine GE.blockR ?_
                    refine GE.thenR ?_
                    refine GC.ret2 rfl (Rv.tmp rfl) (Rv.tmp rfl) (fun wN HN => ?_)
                    exact HN.ret (0, false) (Bt.FP.prog (s := k.1) (x := k.2.1) (j := k.2.2) (i := i) (by omega) hp1 hp3 (by omega) (by omega) hq1 (by omega) (Or.inl ⟨by omega, rfl, rfl⟩)) rfl (List.nil_sublist _) rfl
                  · replace hq55 := of_decide_eq_false hq55
                    refine GC.seq ?_
                    refine GC.region ?_
                    refine GL.val (v := (.int .u64 (k.1 * 2 ^ i))) (Ex.move rfl) (by decide) ?_
                    refine GL.val (v := (.bool (decide ((k.1 * 2 ^ i) < 8388608)))) (Ex.lss rfl rfl) (by decide) ?_
                    refine GL.val (v := (.bool (decide ((k.1 * 2 ^ i) < 8388608)))) (Ex.assign rfl) (by decide) ?_
                    refine GL.nil ?_
                    refine GE.thenN ?_
                    refine GC.cond rfl (fun hq56 => ?_) (fun hq56 => ?_)
                    · replace hq56 := of_decide_eq_true hq56
                      refine GC.seq ?_
                      refine GC.region ?_
                      refine GL.val (v := (.int .u32 0)) (Ex.move rfl) (by decide) ?_
                      refine GL.val (v := (.int .u64 (k.1 * 2 ^ i))) (Ex.move rfl) (by decide) ?_
                      refine GL.val (v := (.int .u32 (k.1 * 2 ^ i))) (Ex.conv rfl Try.underlying47 Try.underlying23 (Z := k.1 * 2 ^ i) (wu32b (by omega))) (by decide) ?_
                      refine GL.val (v := (.int .u32 (0 + (k.1 * 2 ^ i)))) (Ex.bits rfl rfl (by simp) (Z := 0 + (k.1 * 2 ^ i)) (orm 31 (by omega) (by omega) (by decide) (by omega) rfl)) (by decide) ?_
                      refine GL.val (v := (.int .u32 (0 + (k.1 * 2 ^ i)))) (Ex.assign rfl) (by decide) ?_
                      refine GL.val (v := (.bool true)) (Ex.assign rfl) (by decide) ?_
                      refine GL.nil ?_
                      refine GE.thenN ?_
                      refine GC.ret ?_
                      refine GE.blockR ?_
                      refine GE.thenR ?_
                      refine GC.ret2 rfl (Rv.tmp rfl) (Rv.tmp rfl) (fun wN HN => ?_)
                      exact HN.ret (0 + (k.1 * 2 ^ i), true) (Bt.FP.prog (s := k.1) (x := k.2.1) (j := k.2.2) (i := i) (by omega) hp1 hp3 (by omega) (by omega) hq1 (by omega) (Or.inr ⟨by omega, by omega, by omega, rfl, by unfold Bt.sgn Bt.enc; first | (rw [if_pos (by omega), if_pos (by omega)] <;> omega) | (rw [if_pos (by omega), if_neg (by omega)] <;> omega) | (rw [if_neg (by omega), if_pos (by omega)] <;> omega) | (rw [if_neg (by omega), if_neg (by omega)] <;> omega)⟩)) rfl (List.nil_sublist _) rfl
                    · replace hq56 := of_decide_eq_false hq56
                      refine GC.skip ?_
                      refine GE.blockN ?_
                      refine GE.thenN ?_
                      refine GC.seq ?_
                      refine GC.region ?_
                      refine GL.val (v := (.int .u32 0)) (Ex.move rfl) (by decide) ?_
                      refine GL.val (v := (.int .i64 (k.2.1 - ((i : Nat) : Int)))) (Ex.move rfl) (by decide) ?_
                      refine GL.val (v := (.int .i64 ((k.2.1 - ((i : Nat) : Int)) + 150))) (Ex.add rfl rfl (Z := (k.2.1 - ((i : Nat) : Int)) + 150) (w64 (by omega))) (by decide) ?_
                      refine GL.val (v := (.int .u32 ((k.2.1 - ((i : Nat) : Int)) + 150))) (Ex.conv rfl Try.underlying3 Try.underlying23 (Z := (k.2.1 - ((i : Nat) : Int)) + 150) (wu32b (by omega))) (by decide) ?_
                      refine GL.val (v := (.int .u32 (((k.2.1 - ((i : Nat) : Int)) + 150) * 8388608))) (Ex.shl rfl (m := 23) rfl (by decide) (Z := ((k.2.1 - ((i : Nat) : Int)) + 150) * 8388608) (wu32b (by omega))) (by decide) ?_
                      refine GL.val (v := (.int .u32 (0 + (((k.2.1 - ((i : Nat) : Int)) + 150) * 8388608)))) (Ex.bits rfl rfl (by simp) (Z := 0 + (((k.2.1 - ((i : Nat) : Int)) + 150) * 8388608)) (orm 31 (by omega) (by omega) (by decide) (by omega) rfl)) (by decide) ?_
                      refine GL.val (v := (.int .u64 (k.1 * 2 ^ i))) (Ex.move rfl) (by decide) ?_
                      refine GL.val (v := (.int .u64 ((k.1 * 2 ^ i) - 8388608))) (Ex.sub' rfl rfl (Z := (k.1 * 2 ^ i) - 8388608) (wu64b (by omega))) (by decide) ?_
                      refine GL.val (v := (.int .u32 ((k.1 * 2 ^ i) - 8388608))) (Ex.conv rfl Try.underlying47 Try.underlying23 (Z := (k.1 * 2 ^ i) - 8388608) (wu32b (by omega))) (by decide) ?_
                      refine GL.val (v := (.int .u32 ((0 + (((k.2.1 - ((i : Nat) : Int)) + 150) * 8388608)) + ((k.1 * 2 ^ i) - 8388608)))) (Ex.bits rfl rfl (by simp) (Z := (0 + (((k.2.1 - ((i : Nat) : Int)) + 150) * 8388608)) + ((k.1 * 2 ^ i) - 8388608)) (orm 23 (by omega) (by omega) (by decide) (by omega) rfl)) (by decide) ?_
                      refine GL.val (v := (.int .u32 ((0 + (((k.2.1 - ((i : Nat) : Int)) + 150) * 8388608)) + ((k.1 * 2 ^ i) - 8388608)))) (Ex.assign rfl) (by decide) ?_
                      refine GL.val (v := (.bool true)) (Ex.assign rfl) (by decide) ?_
                      refine GL.nil ?_
                      refine GE.thenN ?_
                      refine GC.ret ?_
                      refine GC.ret2 rfl (Rv.tmp rfl) (Rv.tmp rfl) (fun wN HN => ?_)
                      exact HN.ret ((0 + (((k.2.1 - ((i : Nat) : Int)) + 150) * 8388608)) + ((k.1 * 2 ^ i) - 8388608), true) (Bt.FP.prog (s := k.1) (x := k.2.1) (j := k.2.2) (i := i) (by omega) hp1 hp3 (by omega) (by omega) hq1 (by omega) (Or.inr ⟨by omega, by omega, by omega, rfl, by unfold Bt.sgn Bt.enc; first | (rw [if_pos (by omega), if_pos (by omega)] <;> omega) | (rw [if_pos (by omega), if_neg (by omega)] <;> omega) | (rw [if_neg (by omega), if_pos (by omega)] <;> omega) | (rw [if_neg (by omega), if_neg (by omega)] <;> omega)⟩)) rfl (List.nil_sublist _) rfl
      · refine GL.val (v := (.bool false)) (Ex.cast (Ex.eql rfl rfl) (congrArg Value.bool (decide_eq_false hq38))) (by decide) ?_
        refine GL.val (v := (.bool false)) (Ex.move rfl) (by decide) ?_
        refine GL.skipG (tj := 19) rfl rfl rfl (by decide) ?_
        refine GL.skipG (tj := 19) rfl rfl rfl (by decide) ?_
        refine GL.skipG (tj := 19) rfl rfl rfl (by decide) ?_
        refine GL.skipU (tj := 22) rfl rfl (by decide) ?_
        refine GL.skipU (tj := 22) rfl rfl (by decide) ?_
        refine GL.skipG (tj := 19) rfl rfl rfl (by decide) ?_
        refine GL.val (v := (.bool false)) (Ex.pickF rfl rfl) (by decide) ?_
        refine GL.nil ?_
        refine GE.thenN ?_
        refine GC.cond rfl (fun hq57 => by cases hq57) (fun _ => ?_)
        refine GC.exit ?_
        refine GE.thenE ?_
        refine GE.thenE ?_
        refine GE.blockE ?_
        refine GE.thenN ?_
        refine GC.seq ?_
        refine GC.block ?_
        refine GC.loop (σ := Nat) (fun i => (i = 0 ∨ (k.1 * 2 ^ i < 16777216 ∧ -149 ≤ k.2.1 - ((i : Nat) : Int))) ∧ k.1 ≤ k.1 * 2 ^ i ∧ (i = 0 → k.1 * 2 ^ i = k.1)) (fun i => [(0, (.int .i64 n)), (6, (.int .u32 0)), (1, (.int .i64 (k.2.1 - ((i : Nat) : Int)))), (7, (.int .u64 (k.1 * 2 ^ i)))]) (fun i => []) (fun i => (8388608 - k.1 * 2 ^ i).toNat) (0) ⟨Or.inl rfl, by simp, by simp⟩ ((sub_cons rfl ((sub_cons rfl ((sub_cons (congrArg (fun z => some (Value.int .i64 z)) (by simp)) ((sub_cons (congrArg (fun z => some (Value.int .u64 z)) (by simp)) ((sub_nil _)))))))))) (List.nil_sublist _) (fun i hp => ?_)
        obtain ⟨hq1, hq2, hq3⟩ := hp
        refine GC.seq ?_
        refine GC.seq ?_
        refine GC.region ?_
        refine GL.val (v := (.int .u64 (k.1 * 2 ^ i))) (Ex.move rfl) (by decide) ?_
        by_cases hq58 : (k.1 * 2 ^ i) < 8388608
        · refine GL.val (v := (.bool true)) (Ex.cast (Ex.lss rfl rfl) (congrArg Value.bool (decide_eq_true hq58))) (by decide) ?_
          refine GL.val (v := (.bool true)) (Ex.move rfl) (by decide) ?_
          refine GL.stepG (tj := 33) rfl rfl (Ex.wp (v := (.int .i64 (k.2.1 - ((i : Nat) : Int)))) (Ex.move rfl) (by decide)) (fun _ _ => ?_)
          refine GL.stepG (tj := 33) rfl rfl (Ex.wp (v := (.bool (decide ((-149) < (k.2.1 - ((i : Nat) : Int)))))) (Ex.gtr rfl rfl) (by decide)) (fun _ _ => ?_)
          refine GL.val (v := (.bool (decide ((-149) < (k.2.1 - ((i : Nat) : Int)))))) (Ex.pickT rfl rfl) (by decide) ?_
          refine GL.nil ?_
          refine GE.thenN ?_
          refine GC.cond rfl (fun hq59 => ?_) (fun hq59 => ?_)
          · replace hq59 := of_decide_eq_true hq59
            refine GC.skip ?_
            refine GE.thenN ?_
            refine GC.block ?_
            refine GC.region ?_
            refine GL.val (v := (.int .u64 (k.1 * 2 ^ i))) (Ex.move rfl) (by decide) ?_
            refine GL.val (v := (.int .u64 (k.1 * 2 ^ (i + 1)))) (Ex.mul rfl rfl (Z := k.1 * 2 ^ (i + 1)) (by rw [wu64b (by omega), Bt.pow_step]; omega)) (by decide) ?_
            refine GL.val (v := (.int .i64 (k.2.1 - ((i : Nat) : Int)))) (Ex.move rfl) (by decide) ?_
            refine GL.val (v := (.int .i64 (k.2.1 - ((i + 1 : Nat) : Int)))) (Ex.sub' rfl rfl (Z := k.2.1 - ((i + 1 : Nat) : Int)) (by rw [w64 (by omega)]; omega)) (by decide) ?_
            refine GL.val (v := (.int .u64 (k.1 * 2 ^ (i + 1)))) (Ex.assign rfl) (by decide) ?_
            refine GL.val (v := (.int .i64 (k.2.1 - ((i + 1 : Nat) : Int)))) (Ex.assign rfl) (by decide) ?_
            refine GL.nil ?_
            refine GE.blockN ?_
            refine GE.thenN ?_
            exact Head.mk (i + 1) ⟨Or.inr ⟨by rw [Bt.pow_step]; omega, by omega⟩, by rw [Bt.pow_step]; omega, by omega⟩ (by rw [Bt.pow_step]; omega) ((sub_cons rfl ((sub_cons rfl ((sub_cons rfl ((sub_cons rfl ((sub_nil _)))))))))) (List.nil_sublist _)
          · replace hq59 := of_decide_eq_false hq59
            refine GC.exit ?_
            refine GE.thenE ?_
            refine GE.thenE ?_
            refine GE.blockE ?_
            refine GE.thenN ?_
            refine GC.seq ?_
            refine GC.block ?_
            refine GC.seq ?_
            refine GC.region ?_
            refine GL.val (v := (.int .u64 (k.1 * 2 ^ i))) (Ex.move rfl) (by decide) ?_
            by_cases hq60 : 16777216 ≤ (k.1 * 2 ^ i)
            · refine GL.val (v := (.bool true)) (Ex.cast (Ex.geq rfl rfl) (congrArg Value.bool (decide_eq_true hq60))) (by decide) ?_
              refine GL.val (v := (.bool true)) (Ex.move rfl) (by decide) ?_
              refine GL.skipG (tj := 44) rfl rfl rfl (by decide) ?_
              refine GL.skipG (tj := 44) rfl rfl rfl (by decide) ?_
              refine GL.val (v := (.bool true)) (Ex.pickT rfl rfl) (by decide) ?_
              refine GL.val (v := (.bool true)) (Ex.move rfl) (by decide) ?_
              refine GL.skipG (tj := 48) rfl rfl rfl (by decide) ?_
              refine GL.skipG (tj := 48) rfl rfl rfl (by decide) ?_
              refine GL.val (v := (.bool true)) (Ex.pickT rfl rfl) (by decide) ?_
              refine GL.val (v := (.bool true)) (Ex.assign rfl) (by decide) ?_
              refine GL.nil ?_
              refine GE.thenN ?_
              refine GC.cond rfl (fun _ => ?_) (fun hq61 => by cases hq61)
              refine GC.seq ?_
              refine GC.region ?_
              refine GL.val (v := (.int .u32 0)) (Ex.assign rfl) (by decide) ?_
              refine GL.val (v := (.bool false)) (Ex.assign rfl) (by decide) ?_
              refine GL.nil ?_
              refine GE.thenN ?_
              refine GC.ret ?_
              refine GE.blockR ?_
              refine GE.thenR ?_
              refine GC.ret2 rfl (Rv.tmp rfl) (Rv.tmp rfl) (fun wN HN => ?_)
              exact HN.ret (0, false) (Bt.FP.prog (s := k.1) (x := k.2.1) (j := k.2.2) (i := i) (by omega) hp1 hp3 (by omega) (by omega) hq1 (by omega) (Or.inl ⟨by omega, rfl, rfl⟩)) rfl (List.nil_sublist _) rfl
            · refine GL.val (v := (.bool false)) (Ex.cast (Ex.geq rfl rfl) (congrArg Value.bool (decide_eq_false hq60))) (by decide) ?_
              refine GL.val (v := (.bool false)) (Ex.move rfl) (by decide) ?_
              refine GL.stepG (tj := 44) rfl rfl (Ex.wp (v := (.int .i64 (k.2.1 - ((i : Nat) : Int)))) (Ex.move rfl) (by decide)) (fun _ _ => ?_)
              by_cases hq62 : (k.2.1 - ((i : Nat) : Int)) < (-149)
              · refine GL.stepG (tj := 44) rfl rfl (Ex.wp (v := (.bool true)) (Ex.cast (Ex.lss rfl rfl) (congrArg Value.bool (decide_eq_true hq62))) (by decide)) (fun _ _ => ?_)
                refine GL.val (v := (.bool true)) (Ex.pickF rfl rfl) (by decide) ?_
                refine GL.val (v := (.bool true)) (Ex.move rfl) (by decide) ?_
                refine GL.skipG (tj := 48) rfl rfl rfl (by decide) ?_
                refine GL.skipG (tj := 48) rfl rfl rfl (by decide) ?_
                refine GL.val (v := (.bool true)) (Ex.pickT rfl rfl) (by decide) ?_
                refine GL.val (v := (.bool true)) (Ex.assign rfl) (by decide) ?_
                refine GL.nil ?_
                refine GE.thenN ?_
                refine GC.cond rfl (fun _ => ?_) (fun hq63 => by cases hq63)
                refine GC.seq ?_
                refine GC.region ?_
                refine GL.val (v := (.int .u32 0)) (Ex.assign rfl) (by decide) ?_
                refine GL.val (v := (.bool false)) (Ex.assign rfl) (by decide) ?_
                refine GL.nil ?_
                refine GE.thenN ?_
                refine GC.ret ?_
                refine GE.blockR ?_
                refine GE.thenR ?_
                refine GC.ret2 rfl (Rv.tmp rfl) (Rv.tmp rfl) (fun wN HN => ?_)
                exact HN.ret (0, false) (Bt.FP.prog (s := k.1) (x := k.2.1) (j := k.2.2) (i := i) (by omega) hp1 hp3 (by omega) (by omega) hq1 (by omega) (Or.inl ⟨by omega, rfl, rfl⟩)) rfl (List.nil_sublist _) rfl
              · refine GL.stepG (tj := 44) rfl rfl (Ex.wp (v := (.bool false)) (Ex.cast (Ex.lss rfl rfl) (congrArg Value.bool (decide_eq_false hq62))) (by decide)) (fun _ _ => ?_)
                refine GL.val (v := (.bool false)) (Ex.pickF rfl rfl) (by decide) ?_
                refine GL.val (v := (.bool false)) (Ex.move rfl) (by decide) ?_
                refine GL.stepG (tj := 48) rfl rfl (Ex.wp (v := (.int .i64 (k.2.1 - ((i : Nat) : Int)))) (Ex.move rfl) (by decide)) (fun _ _ => ?_)
                refine GL.stepG (tj := 48) rfl rfl (Ex.wp (v := (.bool (decide (104 < (k.2.1 - ((i : Nat) : Int)))))) (Ex.gtr rfl rfl) (by decide)) (fun _ _ => ?_)
                refine GL.val (v := (.bool (decide (104 < (k.2.1 - ((i : Nat) : Int)))))) (Ex.pickF rfl rfl) (by decide) ?_
                refine GL.val (v := (.bool (decide (104 < (k.2.1 - ((i : Nat) : Int)))))) (Ex.assign rfl) (by decide) ?_
                refine GL.nil ?_
                refine GE.thenN ?_
                refine GC.cond rfl (fun hq64 => ?_) (fun hq64 => ?_)
                · replace hq64 := of_decide_eq_true hq64
                  refine GC.seq ?_
                  refine GC.region ?_
                  refine GL.val (v := (.int .u32 0)) (Ex.assign rfl) (by decide) ?_
                  refine GL.val (v := (.bool false)) (Ex.assign rfl) (by decide) ?_
                  refine GL.nil ?_
                  refine GE.thenN ?_
                  refine GC.ret ?_
                  refine GE.blockR ?_
                  refine GE.thenR ?_
                  refine GC.ret2 rfl (Rv.tmp rfl) (Rv.tmp rfl) (fun wN HN => ?_)
                  exact HN.ret (0, false) (Bt.FP.prog (s := k.1) (x := k.2.1) (j := k.2.2) (i := i) (by omega) hp1 hp3 (by omega) (by omega) hq1 (by omega) (Or.inl ⟨by omega, rfl, rfl⟩)) rfl (List.nil_sublist _) rfl
                · replace hq64 := of_decide_eq_false hq64
                  refine GC.seq ?_
                  refine GC.region ?_
                  refine GL.val (v := (.int .u64 (k.1 * 2 ^ i))) (Ex.move rfl) (by decide) ?_
                  refine GL.val (v := (.bool (decide ((k.1 * 2 ^ i) < 8388608)))) (Ex.lss rfl rfl) (by decide) ?_
                  refine GL.val (v := (.bool (decide ((k.1 * 2 ^ i) < 8388608)))) (Ex.assign rfl) (by decide) ?_
                  refine GL.nil ?_
                  refine GE.thenN ?_
                  refine GC.cond rfl (fun hq65 => ?_) (fun hq65 => ?_)
                  · replace hq65 := of_decide_eq_true hq65
                    refine GC.seq ?_
                    refine GC.region ?_
                    refine GL.val (v := (.int .u32 0)) (Ex.move rfl) (by decide) ?_
                    refine GL.val (v := (.int .u64 (k.1 * 2 ^ i))) (Ex.move rfl) (by decide) ?_
                    refine GL.val (v := (.int .u32 (k.1 * 2 ^ i))) (Ex.conv rfl Try.underlying47 Try.underlying23 (Z := k.1 * 2 ^ i) (wu32b (by omega))) (by decide) ?_
                    refine GL.val (v := (.int .u32 (0 + (k.1 * 2 ^ i)))) (Ex.bits rfl rfl (by simp) (Z := 0 + (k.1 * 2 ^ i)) (orm 31 (by omega) (by omega) (by decide) (by omega) rfl)) (by decide) ?_
                    refine GL.val (v := (.int .u32 (0 + (k.1 * 2 ^ i)))) (Ex.assign rfl) (by decide) ?_
                    refine GL.val (v := (.bool true)) (Ex.assign rfl) (by decide) ?_
                    refine GL.nil ?_
                    refine GE.thenN ?_
                    refine GC.ret ?_
                    refine GE.blockR ?_
                    refine GE.thenR ?_
                    refine GC.ret2 rfl (Rv.tmp rfl) (Rv.tmp rfl) (fun wN HN => ?_)
                    exact HN.ret (0 + (k.1 * 2 ^ i), true) (Bt.FP.prog (s := k.1) (x := k.2.1) (j := k.2.2) (i := i) (by omega) hp1 hp3 (by omega) (by omega) hq1 (by omega) (Or.inr ⟨by omega, by omega, by omega, rfl, by unfold Bt.sgn Bt.enc; first | (rw [if_pos (by omega), if_pos (by omega)] <;> omega) | (rw [if_pos (by omega), if_neg (by omega)] <;> omega) | (rw [if_neg (by omega), if_pos (by omega)] <;> omega) | (rw [if_neg (by omega), if_neg (by omega)] <;> omega)⟩)) rfl (List.nil_sublist _) rfl
                  · replace hq65 := of_decide_eq_false hq65
                    refine GC.skip ?_
                    refine GE.blockN ?_
                    refine GE.thenN ?_
                    refine GC.seq ?_
                    refine GC.region ?_
                    refine GL.val (v := (.int .u32 0)) (Ex.move rfl) (by decide) ?_
                    refine GL.val (v := (.int .i64 (k.2.1 - ((i : Nat) : Int)))) (Ex.move rfl) (by decide) ?_
                    refine GL.val (v := (.int .i64 ((k.2.1 - ((i : Nat) : Int)) + 150))) (Ex.add rfl rfl (Z := (k.2.1 - ((i : Nat) : Int)) + 150) (w64 (by omega))) (by decide) ?_
                    refine GL.val (v := (.int .u32 ((k.2.1 - ((i : Nat) : Int)) + 150))) (Ex.conv rfl Try.underlying3 Try.underlying23 (Z := (k.2.1 - ((i : Nat) : Int)) + 150) (wu32b (by omega))) (by decide) ?_
                    refine GL.val (v := (.int .u32 (((k.2.1 - ((i : Nat) : Int)) + 150) * 8388608))) (Ex.shl rfl (m := 23) rfl (by decide) (Z := ((k.2.1 - ((i : Nat) : Int)) + 150) * 8388608) (wu32b (by omega))) (by decide) ?_
                    refine GL.val (v := (.int .u32 (0 + (((k.2.1 - ((i : Nat) : Int)) + 150) * 8388608)))) (Ex.bits rfl rfl (by simp) (Z := 0 + (((k.2.1 - ((i : Nat) : Int)) + 150) * 8388608)) (orm 31 (by omega) (by omega) (by decide) (by omega) rfl)) (by decide) ?_
                    refine GL.val (v := (.int .u64 (k.1 * 2 ^ i))) (Ex.move rfl) (by decide) ?_
                    refine GL.val (v := (.int .u64 ((k.1 * 2 ^ i) - 8388608))) (Ex.sub' rfl rfl (Z := (k.1 * 2 ^ i) - 8388608) (wu64b (by omega))) (by decide) ?_
                    refine GL.val (v := (.int .u32 ((k.1 * 2 ^ i) - 8388608))) (Ex.conv rfl Try.underlying47 Try.underlying23 (Z := (k.1 * 2 ^ i) - 8388608) (wu32b (by omega))) (by decide) ?_
                    refine GL.val (v := (.int .u32 ((0 + (((k.2.1 - ((i : Nat) : Int)) + 150) * 8388608)) + ((k.1 * 2 ^ i) - 8388608)))) (Ex.bits rfl rfl (by simp) (Z := (0 + (((k.2.1 - ((i : Nat) : Int)) + 150) * 8388608)) + ((k.1 * 2 ^ i) - 8388608)) (orm 23 (by omega) (by omega) (by decide) (by omega) rfl)) (by decide) ?_
                    refine GL.val (v := (.int .u32 ((0 + (((k.2.1 - ((i : Nat) : Int)) + 150) * 8388608)) + ((k.1 * 2 ^ i) - 8388608)))) (Ex.assign rfl) (by decide) ?_
                    refine GL.val (v := (.bool true)) (Ex.assign rfl) (by decide) ?_
                    refine GL.nil ?_
                    refine GE.thenN ?_
                    refine GC.ret ?_
                    refine GC.ret2 rfl (Rv.tmp rfl) (Rv.tmp rfl) (fun wN HN => ?_)
                    exact HN.ret ((0 + (((k.2.1 - ((i : Nat) : Int)) + 150) * 8388608)) + ((k.1 * 2 ^ i) - 8388608), true) (Bt.FP.prog (s := k.1) (x := k.2.1) (j := k.2.2) (i := i) (by omega) hp1 hp3 (by omega) (by omega) hq1 (by omega) (Or.inr ⟨by omega, by omega, by omega, rfl, by unfold Bt.sgn Bt.enc; first | (rw [if_pos (by omega), if_pos (by omega)] <;> omega) | (rw [if_pos (by omega), if_neg (by omega)] <;> omega) | (rw [if_neg (by omega), if_pos (by omega)] <;> omega) | (rw [if_neg (by omega), if_neg (by omega)] <;> omega)⟩)) rfl (List.nil_sublist _) rfl
        · refine GL.val (v := (.bool false)) (Ex.cast (Ex.lss rfl rfl) (congrArg Value.bool (decide_eq_false hq58))) (by decide) ?_
          refine GL.val (v := (.bool false)) (Ex.move rfl) (by decide) ?_
          refine GL.skipG (tj := 33) rfl rfl rfl (by decide) ?_
          refine GL.skipG (tj := 33) rfl rfl rfl (by decide) ?_
          refine GL.val (v := (.bool false)) (Ex.pickF rfl rfl) (by decide) ?_
          refine GL.nil ?_
          refine GE.thenN ?_
          refine GC.cond rfl (fun hq66 => by cases hq66) (fun _ => ?_)
          refine GC.exit ?_
          refine GE.thenE ?_
          refine GE.thenE ?_
          refine GE.blockE ?_
          refine GE.thenN ?_
          refine GC.seq ?_
          refine GC.block ?_
          refine GC.seq ?_
          refine GC.region ?_
          refine GL.val (v := (.int .u64 (k.1 * 2 ^ i))) (Ex.move rfl) (by decide) ?_
          by_cases hq67 : 16777216 ≤ (k.1 * 2 ^ i)
          · refine GL.val (v := (.bool true)) (Ex.cast (Ex.geq rfl rfl) (congrArg Value.bool (decide_eq_true hq67))) (by decide) ?_
            refine GL.val (v := (.bool true)) (Ex.move rfl) (by decide) ?_
            refine GL.skipG (tj := 44) rfl rfl rfl (by decide) ?_
            refine GL.skipG (tj := 44) rfl rfl rfl (by decide) ?_
            refine GL.val (v := (.bool true)) (Ex.pickT rfl rfl) (by decide) ?_
            refine GL.val (v := (.bool true)) (Ex.move rfl) (by decide) ?_
            refine GL.skipG (tj := 48) rfl rfl rfl (by decide) ?_
            refine GL.skipG (tj := 48) rfl rfl rfl (by decide) ?_
            refine GL.val (v := (.bool true)) (Ex.pickT rfl rfl) (by decide) ?_
            refine GL.val (v := (.bool true)) (Ex.assign rfl) (by decide) ?_
            refine GL.nil ?_
            refine GE.thenN ?_
            refine GC.cond rfl (fun _ => ?_) (fun hq68 => by cases hq68)
            refine GC.seq ?_
            refine GC.region ?_
            refine GL.val (v := (.int .u32 0)) (Ex.assign rfl) (by decide) ?_
            refine GL.val (v := (.bool false)) (Ex.assign rfl) (by decide) ?_
            refine GL.nil ?_
            refine GE.thenN ?_
            refine GC.ret ?_
            refine GE.blockR ?_
            refine GE.thenR ?_
            refine GC.ret2 rfl (Rv.tmp rfl) (Rv.tmp rfl) (fun wN HN => ?_)
            exact HN.ret (0, false) (Bt.FP.prog (s := k.1) (x := k.2.1) (j := k.2.2) (i := i) (by omega) hp1 hp3 (by omega) (by omega) hq1 (by omega) (Or.inl ⟨by omega, rfl, rfl⟩)) rfl (List.nil_sublist _) rfl
          · refine GL.val (v := (.bool false)) (Ex.cast (Ex.geq rfl rfl) (congrArg Value.bool (decide_eq_false hq67))) (by decide) ?_
            refine GL.val (v := (.bool false)) (Ex.move rfl) (by decide) ?_
            refine GL.stepG (tj := 44) rfl rfl (Ex.wp (v := (.int .i64 (k.2.1 - ((i : Nat) : Int)))) (Ex.move rfl) (by decide)) (fun _ _ => ?_)
            by_cases hq69 : (k.2.1 - ((i : Nat) : Int)) < (-149)
            · refine GL.stepG (tj := 44) rfl rfl (Ex.wp (v := (.bool true)) (Ex.cast (Ex.lss rfl rfl) (congrArg Value.bool (decide_eq_true hq69))) (by decide)) (fun _ _ => ?_)
              refine GL.val (v := (.bool true)) (Ex.pickF rfl rfl) (by decide) ?_
              refine GL.val (v := (.bool true)) (Ex.move rfl) (by decide) ?_
              refine GL.skipG (tj := 48) rfl rfl rfl (by decide) ?_
              refine GL.skipG (tj := 48) rfl rfl rfl (by decide) ?_
              refine GL.val (v := (.bool true)) (Ex.pickT rfl rfl) (by decide) ?_
              refine GL.val (v := (.bool true)) (Ex.assign rfl) (by decide) ?_
              refine GL.nil ?_
              refine GE.thenN ?_
              refine GC.cond rfl (fun _ => ?_) (fun hq70 => by cases hq70)
              refine GC.seq ?_
              refine GC.region ?_
              refine GL.val (v := (.int .u32 0)) (Ex.assign rfl) (by decide) ?_
              refine GL.val (v := (.bool false)) (Ex.assign rfl) (by decide) ?_
              refine GL.nil ?_
              refine GE.thenN ?_
              refine GC.ret ?_
              refine GE.blockR ?_
              refine GE.thenR ?_
              refine GC.ret2 rfl (Rv.tmp rfl) (Rv.tmp rfl) (fun wN HN => ?_)
              exact HN.ret (0, false) (Bt.FP.prog (s := k.1) (x := k.2.1) (j := k.2.2) (i := i) (by omega) hp1 hp3 (by omega) (by omega) hq1 (by omega) (Or.inl ⟨by omega, rfl, rfl⟩)) rfl (List.nil_sublist _) rfl
            · refine GL.stepG (tj := 44) rfl rfl (Ex.wp (v := (.bool false)) (Ex.cast (Ex.lss rfl rfl) (congrArg Value.bool (decide_eq_false hq69))) (by decide)) (fun _ _ => ?_)
              refine GL.val (v := (.bool false)) (Ex.pickF rfl rfl) (by decide) ?_
              refine GL.val (v := (.bool false)) (Ex.move rfl) (by decide) ?_
              refine GL.stepG (tj := 48) rfl rfl (Ex.wp (v := (.int .i64 (k.2.1 - ((i : Nat) : Int)))) (Ex.move rfl) (by decide)) (fun _ _ => ?_)
              refine GL.stepG (tj := 48) rfl rfl (Ex.wp (v := (.bool (decide (104 < (k.2.1 - ((i : Nat) : Int)))))) (Ex.gtr rfl rfl) (by decide)) (fun _ _ => ?_)
              refine GL.val (v := (.bool (decide (104 < (k.2.1 - ((i : Nat) : Int)))))) (Ex.pickF rfl rfl) (by decide) ?_
              refine GL.val (v := (.bool (decide (104 < (k.2.1 - ((i : Nat) : Int)))))) (Ex.assign rfl) (by decide) ?_
              refine GL.nil ?_
              refine GE.thenN ?_
              refine GC.cond rfl (fun hq71 => ?_) (fun hq71 => ?_)
              · replace hq71 := of_decide_eq_true hq71
                refine GC.seq ?_
                refine GC.region ?_
                refine GL.val (v := (.int .u32 0)) (Ex.assign rfl) (by decide) ?_
                refine GL.val (v := (.bool false)) (Ex.assign rfl) (by decide) ?_
                refine GL.nil ?_
                refine GE.thenN ?_
                refine GC.ret ?_
                refine GE.blockR ?_
                refine GE.thenR ?_
                refine GC.ret2 rfl (Rv.tmp rfl) (Rv.tmp rfl) (fun wN HN => ?_)
                exact HN.ret (0, false) (Bt.FP.prog (s := k.1) (x := k.2.1) (j := k.2.2) (i := i) (by omega) hp1 hp3 (by omega) (by omega) hq1 (by omega) (Or.inl ⟨by omega, rfl, rfl⟩)) rfl (List.nil_sublist _) rfl
              · replace hq71 := of_decide_eq_false hq71
                refine GC.seq ?_
                refine GC.region ?_
                refine GL.val (v := (.int .u64 (k.1 * 2 ^ i))) (Ex.move rfl) (by decide) ?_
                refine GL.val (v := (.bool (decide ((k.1 * 2 ^ i) < 8388608)))) (Ex.lss rfl rfl) (by decide) ?_
                refine GL.val (v := (.bool (decide ((k.1 * 2 ^ i) < 8388608)))) (Ex.assign rfl) (by decide) ?_
                refine GL.nil ?_
                refine GE.thenN ?_
                refine GC.cond rfl (fun hq72 => ?_) (fun hq72 => ?_)
                · replace hq72 := of_decide_eq_true hq72
                  refine GC.seq ?_
                  refine GC.region ?_
                  refine GL.val (v := (.int .u32 0)) (Ex.move rfl) (by decide) ?_
                  refine GL.val (v := (.int .u64 (k.1 * 2 ^ i))) (Ex.move rfl) (by decide) ?_
                  refine GL.val (v := (.int .u32 (k.1 * 2 ^ i))) (Ex.conv rfl Try.underlying47 Try.underlying23 (Z := k.1 * 2 ^ i) (wu32b (by omega))) (by decide) ?_
                  refine GL.val (v := (.int .u32 (0 + (k.1 * 2 ^ i)))) (Ex.bits rfl rfl (by simp) (Z := 0 + (k.1 * 2 ^ i)) (orm 31 (by omega) (by omega) (by decide) (by omega) rfl)) (by decide) ?_
                  refine GL.val (v := (.int .u32 (0 + (k.1 * 2 ^ i)))) (Ex.assign rfl) (by decide) ?_
                  refine GL.val (v := (.bool true)) (Ex.assign rfl) (by decide) ?_
                  refine GL.nil ?_
                  refine GE.thenN ?_
                  refine GC.ret ?_
                  refine GE.blockR ?_
                  refine GE.thenR ?_
                  refine GC.ret2 rfl (Rv.tmp rfl) (Rv.tmp rfl) (fun wN HN => ?_)
                  exact HN.ret (0 + (k.1 * 2 ^ i), true) (Bt.FP.prog (s := k.1) (x := k.2.1) (j := k.2.2) (i := i) (by omega) hp1 hp3 (by omega) (by omega) hq1 (by omega) (Or.inr ⟨by omega, by omega, by omega, rfl, by unfold Bt.sgn Bt.enc; first | (rw [if_pos (by omega), if_pos (by omega)] <;> omega) | (rw [if_pos (by omega), if_neg (by omega)] <;> omega) | (rw [if_neg (by omega), if_pos (by omega)] <;> omega) | (rw [if_neg (by omega), if_neg (by omega)] <;> omega)⟩)) rfl (List.nil_sublist _) rfl
                · replace hq72 := of_decide_eq_false hq72
                  refine GC.skip ?_
                  refine GE.blockN ?_
                  refine GE.thenN ?_
                  refine GC.seq ?_
                  refine GC.region ?_
                  refine GL.val (v := (.int .u32 0)) (Ex.move rfl) (by decide) ?_
                  refine GL.val (v := (.int .i64 (k.2.1 - ((i : Nat) : Int)))) (Ex.move rfl) (by decide) ?_
                  refine GL.val (v := (.int .i64 ((k.2.1 - ((i : Nat) : Int)) + 150))) (Ex.add rfl rfl (Z := (k.2.1 - ((i : Nat) : Int)) + 150) (w64 (by omega))) (by decide) ?_
                  refine GL.val (v := (.int .u32 ((k.2.1 - ((i : Nat) : Int)) + 150))) (Ex.conv rfl Try.underlying3 Try.underlying23 (Z := (k.2.1 - ((i : Nat) : Int)) + 150) (wu32b (by omega))) (by decide) ?_
                  refine GL.val (v := (.int .u32 (((k.2.1 - ((i : Nat) : Int)) + 150) * 8388608))) (Ex.shl rfl (m := 23) rfl (by decide) (Z := ((k.2.1 - ((i : Nat) : Int)) + 150) * 8388608) (wu32b (by omega))) (by decide) ?_
                  refine GL.val (v := (.int .u32 (0 + (((k.2.1 - ((i : Nat) : Int)) + 150) * 8388608)))) (Ex.bits rfl rfl (by simp) (Z := 0 + (((k.2.1 - ((i : Nat) : Int)) + 150) * 8388608)) (orm 31 (by omega) (by omega) (by decide) (by omega) rfl)) (by decide) ?_
                  refine GL.val (v := (.int .u64 (k.1 * 2 ^ i))) (Ex.move rfl) (by decide) ?_
                  refine GL.val (v := (.int .u64 ((k.1 * 2 ^ i) - 8388608))) (Ex.sub' rfl rfl (Z := (k.1 * 2 ^ i) - 8388608) (wu64b (by omega))) (by decide) ?_
                  refine GL.val (v := (.int .u32 ((k.1 * 2 ^ i) - 8388608))) (Ex.conv rfl Try.underlying47 Try.underlying23 (Z := (k.1 * 2 ^ i) - 8388608) (wu32b (by omega))) (by decide) ?_
                  refine GL.val (v := (.int .u32 ((0 + (((k.2.1 - ((i : Nat) : Int)) + 150) * 8388608)) + ((k.1 * 2 ^ i) - 8388608)))) (Ex.bits rfl rfl (by simp) (Z := (0 + (((k.2.1 - ((i : Nat) : Int)) + 150) * 8388608)) + ((k.1 * 2 ^ i) - 8388608)) (orm 23 (by omega) (by omega) (by decide) (by omega) rfl)) (by decide) ?_
                  refine GL.val (v := (.int .u32 ((0 + (((k.2.1 - ((i : Nat) : Int)) + 150) * 8388608)) + ((k.1 * 2 ^ i) - 8388608)))) (Ex.assign rfl) (by decide) ?_
                  refine GL.val (v := (.bool true)) (Ex.assign rfl) (by decide) ?_
                  refine GL.nil ?_
                  refine GE.thenN ?_
                  refine GC.ret ?_
                  refine GC.ret2 rfl (Rv.tmp rfl) (Rv.tmp rfl) (fun wN HN => ?_)
                  exact HN.ret ((0 + (((k.2.1 - ((i : Nat) : Int)) + 150) * 8388608)) + ((k.1 * 2 ^ i) - 8388608), true) (Bt.FP.prog (s := k.1) (x := k.2.1) (j := k.2.2) (i := i) (by omega) hp1 hp3 (by omega) (by omega) hq1 (by omega) (Or.inr ⟨by omega, by omega, by omega, rfl, by unfold Bt.sgn Bt.enc; first | (rw [if_pos (by omega), if_pos (by omega)] <;> omega) | (rw [if_pos (by omega), if_neg (by omega)] <;> omega) | (rw [if_neg (by omega), if_pos (by omega)] <;> omega) | (rw [if_neg (by omega), if_neg (by omega)] <;> omega)⟩)) rfl (List.nil_sublist _) rfl

set_option maxRecDepth 100000 in
set_option maxHeartbeats 1000000 in
theorem fp_r (n e : Int) (w : World) (hn : -9223372036854775808 ≤ n ∧ n ≤ 9223372036854775807) (he : -9223372036854775808 ≤ e ∧ e ≤ 9223372036854775807) :
    Calls Try.prog 14 #[(.int .i64 n), (.int .i64 e)] w (Ret w (fun x : Int × Bool => Bt.FP n e x.1 x.2) (fun x => .tuple #[.int .u32 x.1, .bool x.2]) (fun _ => [])) := by
  refine enter (M := None) (L := []) (n := 65) (l := [(0, (.int .i64 n)), (1, (.int .i64 e))]) Try.func14 rfl rfl (Args.cons rfl (Args.cons rfl (Args.nil _))) (Hp.start _ _) ?_
  refine GC.seq ?_
  refine GC.region ?_
  refine GL.val (v := (.int .u32 0)) (Ex.assign rfl) (by decide) ?_
  refine GL.val (v := (.bool false)) (Ex.assign rfl) (by decide) ?_
  refine GL.nil ?_
  refine GE.thenN ?_
  refine GC.seq ?_
  refine GC.seq ?_
  refine GC.region ?_
  refine GL.val (v := (.int .i64 n)) (Ex.move rfl) (by decide) ?_
  refine GL.val (v := (.bool (decide (n = 0)))) (Ex.eql rfl rfl) (by decide) ?_
  refine GL.nil ?_
  refine GE.thenN ?_
  refine GC.cond rfl (fun hq1 => ?_) (fun hq1 => ?_)
  · replace hq1 := of_decide_eq_true hq1
    refine GC.seq ?_
    refine GC.region ?_
    refine GL.val (v := (.int .u32 0)) (Ex.assign rfl) (by decide) ?_
    refine GL.val (v := (.bool true)) (Ex.assign rfl) (by decide) ?_
    refine GL.nil ?_
    refine GE.thenN ?_
    refine GC.ret ?_
    refine GE.thenR ?_
    refine GC.ret2 rfl (Rv.tmp rfl) (Rv.tmp rfl) (fun wN HN => ?_)
    exact HN.ret (0, true) (Or.inl ⟨by omega, rfl, rfl⟩) rfl (List.nil_sublist _) rfl
  · replace hq1 := of_decide_eq_false hq1
    refine GC.skip ?_
    refine GE.thenN ?_
    refine GC.seq ?_
    refine GC.region ?_
    refine GL.val (v := (.int .i64 0)) (Ex.assign rfl) (by decide) ?_
    refine GL.nil ?_
    refine GE.thenN ?_
    refine GC.seq ?_
    refine GC.seq ?_
    refine GC.region ?_
    refine GL.val (v := (.int .i64 n)) (Ex.move rfl) (by decide) ?_
    refine GL.val (v := (.bool (decide (n < 0)))) (Ex.lss rfl rfl) (by decide) ?_
    refine GL.nil ?_
    refine GE.thenN ?_
    refine GC.cond rfl (fun hq2 => ?_) (fun hq2 => ?_)
    · replace hq2 := of_decide_eq_true hq2
      refine GC.region ?_
      refine GL.val (v := (.int .i64 2147483648)) (Ex.assign rfl) (by decide) ?_
      refine GL.nil ?_
      refine GE.thenN ?_
      refine GC.seq ?_
      refine GC.block ?_
      refine GC.loop (σ := Int × Nat) (fun k => k.1 ≠ 0 ∧ (-9223372036854775808 ≤ k.1 ∧ k.1 ≤ 9223372036854775807) ∧ (n.natAbs : Int) = (k.1.natAbs : Int) * 2 ^ k.2 ∧ (k.1 < 0 ↔ n < 0) ∧ e + ((k.2 : Nat) : Int) ≤ 9223372036854775807) (fun k => [(0, (.int .i64 k.1)), (1, (.int .i64 (e + ((k.2 : Nat) : Int)))), (6, (.int .i64 2147483648))]) (fun k => []) (fun k => k.1.natAbs) ((n, 0)) ⟨by dsimp only; omega, by dsimp only; omega, by simp, Iff.rfl, by dsimp only; omega⟩ ((sub_cons rfl ((sub_cons (congrArg (fun z => some (Value.int .i64 z)) (by simp)) ((sub_cons rfl ((sub_nil _)))))))) (List.nil_sublist _) (fun k hp => ?_)
      obtain ⟨hp1, hp2, hp3, hp4, hp5⟩ := hp
      refine GC.seq ?_
      refine GC.seq ?_
      refine GC.region ?_
      refine GL.val (v := (.int .i64 k.1)) (Ex.move rfl) (by decide) ?_
      refine GL.val (v := (.int .i64 (k.1.tmod 2))) (Ex.rem rfl rfl (Z := k.1.tmod 2) (by decide) rfl) (by decide) ?_
      refine GL.val (v := (.bool (decide ((k.1.tmod 2) = 0)))) (Ex.eql rfl rfl) (by decide) ?_
      refine GL.nil ?_
      refine GE.thenN ?_
      refine GC.cond rfl (fun hq3 => ?_) (fun hq3 => ?_)
      · replace hq3 := of_decide_eq_true hq3
        have h2 := (tmod2 _).1 hq3
        refine GC.skip ?_
        refine GE.thenN ?_
        refine GC.block ?_
        refine GC.seq ?_
        refine GC.region ?_
        refine GL.val (v := (.int .i64 k.1)) (Ex.move rfl) (by decide) ?_
        refine GL.val (v := (.int .i64 (k.1 / 2))) (Ex.quo rfl rfl (Z := k.1 / 2) (by decide) (by rw [tdiv2 h2]; exact w64 (by omega))) (by decide) ?_
        refine GL.val (v := (.int .i64 (k.1 / 2))) (Ex.assign rfl) (by decide) ?_
        refine GL.nil ?_
        refine GE.thenN ?_
        refine GC.seq ?_
        refine GC.seq ?_
        refine GC.region ?_
        refine GL.val (v := (.int .i64 (e + ((k.2 : Nat) : Int)))) (Ex.move rfl) (by decide) ?_
        refine GL.val (v := (.bool (decide ((e + ((k.2 : Nat) : Int)) = 9223372036854775807)))) (Ex.eql rfl rfl) (by decide) ?_
        refine GL.nil ?_
        refine GE.thenN ?_
        refine GC.cond rfl (fun hq4 => ?_) (fun hq4 => ?_)
        · replace hq4 := of_decide_eq_true hq4
          refine GC.seq ?_
          refine GC.region ?_
          refine GL.val (v := (.int .u32 0)) (Ex.assign rfl) (by decide) ?_
          refine GL.val (v := (.bool false)) (Ex.assign rfl) (by decide) ?_
          refine GL.nil ?_
          refine GE.thenN ?_
          refine GC.ret ?_
          refine GE.thenR ?_
          refine GE.blockR ?_
          refine GE.thenR ?_
          refine GE.blockR ?_
          refine GE.thenR ?_
          refine GC.ret2 rfl (Rv.tmp rfl) (Rv.tmp rfl) (fun wN HN => ?_)
          exact HN.ret (0, false) (Bt.FP.ref_bad (s := (k.1.natAbs : Int)) (j := k.2) (by omega) (by omega) hp3 (by omega)) rfl (List.nil_sublist _) rfl
        · replace hq4 := of_decide_eq_false hq4
          refine GC.skip ?_
          refine GE.thenN ?_
          refine GC.region ?_
          refine GL.val (v := (.int .i64 (e + ((k.2 : Nat) : Int)))) (Ex.move rfl) (by decide) ?_
          refine GL.val (v := (.int .i64 (e + ((k.2 + 1 : Nat) : Int)))) (Ex.add rfl rfl (Z := e + ((k.2 + 1 : Nat) : Int)) (by rw [w64 (by omega)]; omega)) (by decide) ?_
          refine GL.val (v := (.int .i64 (e + ((k.2 + 1 : Nat) : Int)))) (Ex.assign rfl) (by decide) ?_
          refine GL.nil ?_
          refine GE.blockN ?_
          refine GE.thenN ?_
          exact Head.mk (k.1 / 2, k.2 + 1) ⟨by dsimp only; omega, by dsimp only; omega, by dsimp only; have := Bt.half_step hp3 (by omega); rw [this]; congr 1; omega, by dsimp only; omega, by dsimp only; omega⟩ (by dsimp only; omega) ((sub_cons rfl ((sub_cons rfl ((sub_cons rfl ((sub_nil _)))))))) (List.nil_sublist _)
      · replace hq3 := of_decide_eq_false hq3
        have h2 := mt (tmod2 _).2 hq3
        refine GC.exit ?_
        refine GE.thenE ?_
        refine GE.thenE ?_
        refine GE.blockE ?_
        refine GE.thenN ?_
        refine GC.seq ?_
        refine GC.seq ?_
        refine GC.region ?_
        refine GL.val (v := (.int .i64 k.1)) (Ex.move rfl) (by decide) ?_
        refine GL.val (v := (.bool (decide (k.1 < 0)))) (Ex.lss rfl rfl) (by decide) ?_
        refine GL.nil ?_
        refine GE.thenN ?_
        refine GC.cond rfl (fun hq5 => ?_) (fun hq5 => ?_)
        · replace hq5 := of_decide_eq_true hq5
          refine GC.region ?_
          refine GL.val (v := (.int .i64 k.1)) (Ex.move rfl) (by decide) ?_
          refine GL.val (v := (.int .i64 (-k.1))) (Ex.neg rfl (Z := -k.1) (by rw [w64 (by omega)]; omega)) (by decide) ?_
          refine GL.val (v := (.int .i64 (-k.1))) (Ex.assign rfl) (by decide) ?_
          refine GL.nil ?_
          refine GE.thenN ?_
          refine GC.seq ?_
          refine GC.seq ?_
          refine GC.region ?_
          refine GL.val (v := (.int .i64 (-k.1))) (Ex.move rfl) (by decide) ?_
          by_cases hq6 : (-k.1) < 0
          · refine GL.val (v := (.bool true)) (Ex.cast (Ex.lss rfl rfl) (congrArg Value.bool (decide_eq_true hq6))) (by decide) ?_
            refine GL.val (v := (.bool true)) (Ex.move rfl) (by decide) ?_
            refine GL.skipG (tj := 26) rfl rfl rfl (by decide) ?_
            refine GL.skipG (tj := 26) rfl rfl rfl (by decide) ?_
            refine GL.val (v := (.bool true)) (Ex.pickT rfl rfl) (by decide) ?_
            refine GL.val (v := (.bool true)) (Ex.move rfl) (by decide) ?_
            refine GL.skipG (tj := 30) rfl rfl rfl (by decide) ?_
            refine GL.skipG (tj := 30) rfl rfl rfl (by decide) ?_
            refine GL.val (v := (.bool true)) (Ex.pickT rfl rfl) (by decide) ?_
            refine GL.val (v := (.bool true)) (Ex.move rfl) (by decide) ?_
            refine GL.skipG (tj := 34) rfl rfl rfl (by decide) ?_
            refine GL.skipG (tj := 34) rfl rfl rfl (by decide) ?_
            refine GL.val (v := (.bool true)) (Ex.pickT rfl rfl) (by decide) ?_
            refine GL.nil ?_
            refine GE.thenN ?_
            refine GC.cond rfl (fun _ => ?_) (fun hq7 => by cases hq7)
            refine GC.seq ?_
            refine GC.region ?_
            refine GL.val (v := (.int .u32 0)) (Ex.assign rfl) (by decide) ?_
            refine GL.val (v := (.bool false)) (Ex.assign rfl) (by decide) ?_
            refine GL.nil ?_
            refine GE.thenN ?_
            refine GC.ret ?_
            refine GE.thenR ?_
            refine GC.ret2 rfl (Rv.tmp rfl) (Rv.tmp rfl) (fun wN HN => ?_)
            exact HN.ret (0, false) (Bt.FP.ref_bad (s := (k.1.natAbs : Int)) (j := k.2) (by omega) (by omega) hp3 (by omega)) rfl (List.nil_sublist _) rfl
          · refine GL.val (v := (.bool false)) (Ex.cast (Ex.lss rfl rfl) (congrArg Value.bool (decide_eq_false hq6))) (by decide) ?_
            refine GL.val (v := (.bool false)) (Ex.move rfl) (by decide) ?_
            refine GL.stepG (tj := 26) rfl rfl (Ex.wp (v := (.int .i64 (-k.1))) (Ex.move rfl) (by decide)) (fun _ _ => ?_)
            by_cases hq8 : 16777216 ≤ (-k.1)
            · refine GL.stepG (tj := 26) rfl rfl (Ex.wp (v := (.bool true)) (Ex.cast (Ex.geq rfl rfl) (congrArg Value.bool (decide_eq_true hq8))) (by decide)) (fun _ _ => ?_)
              refine GL.val (v := (.bool true)) (Ex.pickF rfl rfl) (by decide) ?_
              refine GL.val (v := (.bool true)) (Ex.move rfl) (by decide) ?_
              refine GL.skipG (tj := 30) rfl rfl rfl (by decide) ?_
              refine GL.skipG (tj := 30) rfl rfl rfl (by decide) ?_
              refine GL.val (v := (.bool true)) (Ex.pickT rfl rfl) (by decide) ?_
              refine GL.val (v := (.bool true)) (Ex.move rfl) (by decide) ?_
              refine GL.skipG (tj := 34) rfl rfl rfl (by decide) ?_
              refine GL.skipG (tj := 34) rfl rfl rfl (by decide) ?_
              refine GL.val (v := (.bool true)) (Ex.pickT rfl rfl) (by decide) ?_
              refine GL.nil ?_
              refine GE.thenN ?_
              refine GC.cond rfl (fun _ => ?_) (fun hq9 => by cases hq9)
              refine GC.seq ?_
              refine GC.region ?_
              refine GL.val (v := (.int .u32 0)) (Ex.assign rfl) (by decide) ?_
              refine GL.val (v := (.bool false)) (Ex.assign rfl) (by decide) ?_
              refine GL.nil ?_
              refine GE.thenN ?_
              refine GC.ret ?_
              refine GE.thenR ?_
              refine GC.ret2 rfl (Rv.tmp rfl) (Rv.tmp rfl) (fun wN HN => ?_)
              exact HN.ret (0, false) (Bt.FP.ref_bad (s := (k.1.natAbs : Int)) (j := k.2) (by omega) (by omega) hp3 (by omega)) rfl (List.nil_sublist _) rfl
            · refine GL.stepG (tj := 26) rfl rfl (Ex.wp (v := (.bool false)) (Ex.cast (Ex.geq rfl rfl) (congrArg Value.bool (decide_eq_false hq8))) (by decide)) (fun _ _ => ?_)
              refine GL.val (v := (.bool false)) (Ex.pickF rfl rfl) (by decide) ?_
              refine GL.val (v := (.bool false)) (Ex.move rfl) (by decide) ?_
              refine GL.stepG (tj := 30) rfl rfl (Ex.wp (v := (.int .i64 (e + ((k.2 : Nat) : Int)))) (Ex.move rfl) (by decide)) (fun _ _ => ?_)
              by_cases hq10 : (e + ((k.2 : Nat) : Int)) < (-149)
              · refine GL.stepG (tj := 30) rfl rfl (Ex.wp (v := (.bool true)) (Ex.cast (Ex.lss rfl rfl) (congrArg Value.bool (decide_eq_true hq10))) (by decide)) (fun _ _ => ?_)
                refine GL.val (v := (.bool true)) (Ex.pickF rfl rfl) (by decide) ?_
                refine GL.val (v := (.bool true)) (Ex.move rfl) (by decide) ?_
                refine GL.skipG (tj := 34) rfl rfl rfl (by decide) ?_
                refine GL.skipG (tj := 34) rfl rfl rfl (by decide) ?_
                refine GL.val (v := (.bool true)) (Ex.pickT rfl rfl) (by decide) ?_
                refine GL.nil ?_
                refine GE.thenN ?_
                refine GC.cond rfl (fun _ => ?_) (fun hq11 => by cases hq11)
                refine GC.seq ?_
                refine GC.region ?_
                refine GL.val (v := (.int .u32 0)) (Ex.assign rfl) (by decide) ?_
                refine GL.val (v := (.bool false)) (Ex.assign rfl) (by decide) ?_
                refine GL.nil ?_
                refine GE.thenN ?_
                refine GC.ret ?_
                refine GE.thenR ?_
                refine GC.ret2 rfl (Rv.tmp rfl) (Rv.tmp rfl) (fun wN HN => ?_)
                exact HN.ret (0, false) (Bt.FP.ref_bad (s := (k.1.natAbs : Int)) (j := k.2) (by omega) (by omega) hp3 (by omega)) rfl (List.nil_sublist _) rfl
              · refine GL.stepG (tj := 30) rfl rfl (Ex.wp (v := (.bool false)) (Ex.cast (Ex.lss rfl rfl) (congrArg Value.bool (decide_eq_false hq10))) (by decide)) (fun _ _ => ?_)
                refine GL.val (v := (.bool false)) (Ex.pickF rfl rfl) (by decide) ?_
                refine GL.val (v := (.bool false)) (Ex.move rfl) (by decide) ?_
                refine GL.stepG (tj := 34) rfl rfl (Ex.wp (v := (.int .i64 (e + ((k.2 : Nat) : Int)))) (Ex.move rfl) (by decide)) (fun _ _ => ?_)
                refine GL.stepG (tj := 34) rfl rfl (Ex.wp (v := (.bool (decide (127 < (e + ((k.2 : Nat) : Int)))))) (Ex.gtr rfl rfl) (by decide)) (fun _ _ => ?_)
                refine GL.val (v := (.bool (decide (127 < (e + ((k.2 : Nat) : Int)))))) (Ex.pickF rfl rfl) (by decide) ?_
                refine GL.nil ?_
                refine GE.thenN ?_
                refine GC.cond rfl (fun hq12 => ?_) (fun hq12 => ?_)
                · replace hq12 := of_decide_eq_true hq12
                  refine GC.seq ?_
                  refine GC.region ?_
                  refine GL.val (v := (.int .u32 0)) (Ex.assign rfl) (by decide) ?_
                  refine GL.val (v := (.bool false)) (Ex.assign rfl) (by decide) ?_
                  refine GL.nil ?_
                  refine GE.thenN ?_
                  refine GC.ret ?_
                  refine GE.thenR ?_
                  refine GC.ret2 rfl (Rv.tmp rfl) (Rv.tmp rfl) (fun wN HN => ?_)
                  exact HN.ret (0, false) (Bt.FP.ref_bad (s := (k.1.natAbs : Int)) (j := k.2) (by omega) (by omega) hp3 (by omega)) rfl (List.nil_sublist _) rfl
                · replace hq12 := of_decide_eq_false hq12
                  refine GC.skip ?_
                  refine GE.thenN ?_
                  refine GC.seq ?_
                  refine GC.block ?_
                  refine GC.loop (σ := Nat) (fun i => (-k.1) ≤ (-k.1) * 2 ^ i ∧ (-k.1) * 2 ^ i < 16777216 ∧ -149 ≤ e + ((k.2 : Nat) : Int) - ((i : Nat) : Int)) (fun i => [(0, (.int .i64 ((-k.1) * 2 ^ i))), (1, (.int .i64 (e + ((k.2 : Nat) : Int) - ((i : Nat) : Int)))), (6, (.int .i64 2147483648))]) (fun i => []) (fun i => (8388608 - (-k.1) * 2 ^ i).toNat) (0) ⟨by simp, by simp; omega, by simp; omega⟩ ((sub_cons (congrArg (fun z => some (Value.int .i64 z)) (by simp)) ((sub_cons (congrArg (fun z => some (Value.int .i64 z)) (by simp)) ((sub_cons rfl ((sub_nil _)))))))) (List.nil_sublist _) (fun i hp => ?_)
                  obtain ⟨hq1, hq2, hq3⟩ := hp
                  refine GC.seq ?_
                  refine GC.seq ?_
                  refine GC.region ?_
                  refine GL.val (v := (.int .i64 ((-k.1) * 2 ^ i))) (Ex.move rfl) (by decide) ?_
                  by_cases hq13 : ((-k.1) * 2 ^ i) < 8388608
                  · refine GL.val (v := (.bool true)) (Ex.cast (Ex.lss rfl rfl) (congrArg Value.bool (decide_eq_true hq13))) (by decide) ?_
                    refine GL.val (v := (.bool true)) (Ex.move rfl) (by decide) ?_
                    refine GL.stepG (tj := 40) rfl rfl (Ex.wp (v := (.int .i64 (e + ((k.2 : Nat) : Int) - ((i : Nat) : Int)))) (Ex.move rfl) (by decide)) (fun _ _ => ?_)
                    refine GL.stepG (tj := 40) rfl rfl (Ex.wp (v := (.bool (decide ((-149) < (e + ((k.2 : Nat) : Int) - ((i : Nat) : Int)))))) (Ex.gtr rfl rfl) (by decide)) (fun _ _ => ?_)
                    refine GL.val (v := (.bool (decide ((-149) < (e + ((k.2 : Nat) : Int) - ((i : Nat) : Int)))))) (Ex.pickT rfl rfl) (by decide) ?_
                    refine GL.nil ?_
                    refine GE.thenN ?_
                    refine GC.cond rfl (fun hq14 => ?_) (fun hq14 => ?_)
                    · replace hq14 := of_decide_eq_true hq14
                      refine GC.skip ?_
                      refine GE.thenN ?_
                      refine GC.block ?_
                      refine GC.seq ?_
                      refine GC.region ?_
                      refine GL.val (v := (.int .i64 ((-k.1) * 2 ^ i))) (Ex.move rfl) (by decide) ?_
                      refine GL.val (v := (.int .i64 ((-k.1) * 2 ^ (i + 1)))) (Ex.mul rfl rfl (Z := (-k.1) * 2 ^ (i + 1)) (by rw [w64 (by omega), Bt.pow_step])) (by decide) ?_
                      refine GL.val (v := (.int .i64 ((-k.1) * 2 ^ (i + 1)))) (Ex.assign rfl) (by decide) ?_
                      refine GL.nil ?_
                      refine GE.thenN ?_
                      refine GC.region ?_
                      refine GL.val (v := (.int .i64 (e + ((k.2 : Nat) : Int) - ((i : Nat) : Int)))) (Ex.move rfl) (by decide) ?_
                      refine GL.val (v := (.int .i64 (e + ((k.2 : Nat) : Int) - ((i + 1 : Nat) : Int)))) (Ex.sub' rfl rfl (Z := e + ((k.2 : Nat) : Int) - ((i + 1 : Nat) : Int)) (by rw [w64 (by omega)]; omega)) (by decide) ?_
                      refine GL.val (v := (.int .i64 (e + ((k.2 : Nat) : Int) - ((i + 1 : Nat) : Int)))) (Ex.assign rfl) (by decide) ?_
                      refine GL.nil ?_
                      refine GE.blockN ?_
                      refine GE.thenN ?_
                      exact Head.mk (i + 1) ⟨by rw [Bt.pow_step]; omega, by rw [Bt.pow_step]; omega, by omega⟩ (by rw [Bt.pow_step]; omega) ((sub_cons rfl ((sub_cons rfl ((sub_cons rfl ((sub_nil _)))))))) (List.nil_sublist _)
                    · replace hq14 := of_decide_eq_false hq14
                      refine GC.exit ?_
                      refine GE.thenE ?_
                      refine GE.thenE ?_
                      refine GE.blockE ?_
                      refine GE.thenN ?_
                      refine GC.seq ?_
                      refine GC.seq ?_
                      refine GC.region ?_
                      refine GL.val (v := (.int .i64 (e + ((k.2 : Nat) : Int) - ((i : Nat) : Int)))) (Ex.move rfl) (by decide) ?_
                      refine GL.val (v := (.bool (decide (104 < (e + ((k.2 : Nat) : Int) - ((i : Nat) : Int)))))) (Ex.gtr rfl rfl) (by decide) ?_
                      refine GL.nil ?_
                      refine GE.thenN ?_
                      refine GC.cond rfl (fun hq15 => ?_) (fun hq15 => ?_)
                      · replace hq15 := of_decide_eq_true hq15
                        refine GC.seq ?_
                        refine GC.region ?_
                        refine GL.val (v := (.int .u32 0)) (Ex.assign rfl) (by decide) ?_
                        refine GL.val (v := (.bool false)) (Ex.assign rfl) (by decide) ?_
                        refine GL.nil ?_
                        refine GE.thenN ?_
                        refine GC.ret ?_
                        refine GE.thenR ?_
                        refine GC.ret2 rfl (Rv.tmp rfl) (Rv.tmp rfl) (fun wN HN => ?_)
                        exact HN.ret (0, false) (Bt.FP.ref (s := -k.1) (j := k.2) (i := i) (by omega) (by omega) (by rw [hp3]; congr 1; omega) (by omega) (by omega) (by omega) (by omega) (by omega) (Or.inl ⟨by omega, rfl, rfl⟩)) rfl (List.nil_sublist _) rfl
                      · replace hq15 := of_decide_eq_false hq15
                        refine GC.skip ?_
                        refine GE.thenN ?_
                        refine GC.seq ?_
                        refine GC.seq ?_
                        refine GC.region ?_
                        refine GL.val (v := (.int .i64 ((-k.1) * 2 ^ i))) (Ex.move rfl) (by decide) ?_
                        refine GL.val (v := (.bool (decide (((-k.1) * 2 ^ i) < 8388608)))) (Ex.lss rfl rfl) (by decide) ?_
                        refine GL.nil ?_
                        refine GE.thenN ?_
                        refine GC.cond rfl (fun hq16 => ?_) (fun hq16 => ?_)
                        · replace hq16 := of_decide_eq_true hq16
                          refine GC.seq ?_
                          refine GC.region ?_
                          refine GL.val (v := (.int .i64 2147483648)) (Ex.move rfl) (by decide) ?_
                          refine GL.val (v := (.int .i64 ((-k.1) * 2 ^ i))) (Ex.move rfl) (by decide) ?_
                          refine GL.val (v := (.int .i64 (2147483648 + ((-k.1) * 2 ^ i)))) (Ex.add rfl rfl (Z := 2147483648 + ((-k.1) * 2 ^ i)) (w64 (by omega))) (by decide) ?_
                          refine GL.val (v := (.int .u32 (2147483648 + ((-k.1) * 2 ^ i)))) (Ex.conv rfl Try.underlying3 Try.underlying23 (Z := 2147483648 + ((-k.1) * 2 ^ i)) (wu32b (by omega))) (by decide) ?_
                          refine GL.val (v := (.int .u32 (2147483648 + ((-k.1) * 2 ^ i)))) (Ex.assign rfl) (by decide) ?_
                          refine GL.val (v := (.bool true)) (Ex.assign rfl) (by decide) ?_
                          refine GL.nil ?_
                          refine GE.thenN ?_
                          refine GC.ret ?_
                          refine GE.thenR ?_
                          refine GC.ret2 rfl (Rv.tmp rfl) (Rv.tmp rfl) (fun wN HN => ?_)
                          exact HN.ret (2147483648 + ((-k.1) * 2 ^ i), true) (Bt.FP.ref (s := -k.1) (j := k.2) (i := i) (by omega) (by omega) (by rw [hp3]; congr 1; omega) (by omega) (by omega) (by omega) (by omega) (by omega) (Or.inr ⟨by omega, rfl, by unfold Bt.sgn Bt.enc; first | (rw [if_pos (by omega), if_pos (by omega)] <;> omega) | (rw [if_pos (by omega), if_neg (by omega)] <;> omega) | (rw [if_neg (by omega), if_pos (by omega)] <;> omega) | (rw [if_neg (by omega), if_neg (by omega)] <;> omega)⟩)) rfl (List.nil_sublist _) rfl
                        · replace hq16 := of_decide_eq_false hq16
                          refine GC.skip ?_
                          refine GE.thenN ?_
                          refine GC.seq ?_
                          refine GC.region ?_
                          refine GL.val (v := (.int .i64 2147483648)) (Ex.move rfl) (by decide) ?_
                          refine GL.val (v := (.int .i64 (e + ((k.2 : Nat) : Int) - ((i : Nat) : Int)))) (Ex.move rfl) (by decide) ?_
                          refine GL.val (v := (.int .i64 ((e + ((k.2 : Nat) : Int) - ((i : Nat) : Int)) + 150))) (Ex.add rfl rfl (Z := (e + ((k.2 : Nat) : Int) - ((i : Nat) : Int)) + 150) (w64 (by omega))) (by decide) ?_
                          refine GL.val (v := (.int .i64 (((e + ((k.2 : Nat) : Int) - ((i : Nat) : Int)) + 150) * 8388608))) (Ex.shl rfl (m := 23) rfl (by decide) (Z := ((e + ((k.2 : Nat) : Int) - ((i : Nat) : Int)) + 150) * 8388608) (w64 (by omega))) (by decide) ?_
                          refine GL.val (v := (.int .i64 (2147483648 + (((e + ((k.2 : Nat) : Int) - ((i : Nat) : Int)) + 150) * 8388608)))) (Ex.add rfl rfl (Z := 2147483648 + (((e + ((k.2 : Nat) : Int) - ((i : Nat) : Int)) + 150) * 8388608)) (w64 (by omega))) (by decide) ?_
                          refine GL.val (v := (.int .i64 ((-k.1) * 2 ^ i))) (Ex.move rfl) (by decide) ?_
                          refine GL.val (v := (.int .i64 ((2147483648 + (((e + ((k.2 : Nat) : Int) - ((i : Nat) : Int)) + 150) * 8388608)) + ((-k.1) * 2 ^ i)))) (Ex.add rfl rfl (Z := (2147483648 + (((e + ((k.2 : Nat) : Int) - ((i : Nat) : Int)) + 150) * 8388608)) + ((-k.1) * 2 ^ i)) (w64 (by omega))) (by decide) ?_
                          refine GL.val (v := (.int .i64 (((2147483648 + (((e + ((k.2 : Nat) : Int) - ((i : Nat) : Int)) + 150) * 8388608)) + ((-k.1) * 2 ^ i)) - 8388608))) (Ex.sub' rfl rfl (Z := ((2147483648 + (((e + ((k.2 : Nat) : Int) - ((i : Nat) : Int)) + 150) * 8388608)) + ((-k.1) * 2 ^ i)) - 8388608) (w64 (by omega))) (by decide) ?_
                          refine GL.val (v := (.int .u32 (((2147483648 + (((e + ((k.2 : Nat) : Int) - ((i : Nat) : Int)) + 150) * 8388608)) + ((-k.1) * 2 ^ i)) - 8388608))) (Ex.conv rfl Try.underlying3 Try.underlying23 (Z := ((2147483648 + (((e + ((k.2 : Nat) : Int) - ((i : Nat) : Int)) + 150) * 8388608)) + ((-k.1) * 2 ^ i)) - 8388608) (wu32b (by omega))) (by decide) ?_
                          refine GL.val (v := (.int .u32 (((2147483648 + (((e + ((k.2 : Nat) : Int) - ((i : Nat) : Int)) + 150) * 8388608)) + ((-k.1) * 2 ^ i)) - 8388608))) (Ex.assign rfl) (by decide) ?_
                          refine GL.val (v := (.bool true)) (Ex.assign rfl) (by decide) ?_
                          refine GL.nil ?_
                          refine GE.thenN ?_
                          refine GC.ret ?_
                          refine GC.ret2 rfl (Rv.tmp rfl) (Rv.tmp rfl) (fun wN HN => ?_)
                          exact HN.ret (((2147483648 + (((e + ((k.2 : Nat) : Int) - ((i : Nat) : Int)) + 150) * 8388608)) + ((-k.1) * 2 ^ i)) - 8388608, true) (Bt.FP.ref (s := -k.1) (j := k.2) (i := i) (by omega) (by omega) (by rw [hp3]; congr 1; omega) (by omega) (by omega) (by omega) (by omega) (by omega) (Or.inr ⟨by omega, rfl, by unfold Bt.sgn Bt.enc; first | (rw [if_pos (by omega), if_pos (by omega)] <;> omega) | (rw [if_pos (by omega), if_neg (by omega)] <;> omega) | (rw [if_neg (by omega), if_pos (by omega)] <;> omega) | (rw [if_neg (by omega), if_neg (by omega)] <;> omega)⟩)) rfl (List.nil_sublist _) rfl
                  · refine GL.val (v := (.bool false)) (Ex.cast (Ex.lss rfl rfl) (congrArg Value.bool (decide_eq_false hq13))) (by decide) ?_
                    refine GL.val (v := (.bool false)) (Ex.move rfl) (by decide) ?_
                    refine GL.skipG (tj := 40) rfl rfl rfl (by decide) ?_
                    refine GL.skipG (tj := 40) rfl rfl rfl (by decide) ?_
                    refine GL.val (v := (.bool false)) (Ex.pickF rfl rfl) (by decide) ?_
                    refine GL.nil ?_
                    refine GE.thenN ?_
                    refine GC.cond rfl (fun hq17 => by cases hq17) (fun _ => ?_)
                    refine GC.exit ?_
                    refine GE.thenE ?_
                    refine GE.thenE ?_
                    refine GE.blockE ?_
                    refine GE.thenN ?_
                    refine GC.seq ?_
                    refine GC.seq ?_
                    refine GC.region ?_
                    refine GL.val (v := (.int .i64 (e + ((k.2 : Nat) : Int) - ((i : Nat) : Int)))) (Ex.move rfl) (by decide) ?_
                    refine GL.val (v := (.bool (decide (104 < (e + ((k.2 : Nat) : Int) - ((i : Nat) : Int)))))) (Ex.gtr rfl rfl) (by decide) ?_
                    refine GL.nil ?_
                    refine GE.thenN ?_
                    refine GC.cond rfl (fun hq18 => ?_) (fun hq18 => ?_)
                    · replace hq18 := of_decide_eq_true hq18
                      refine GC.seq ?_
                      refine GC.region ?_
                      refine GL.val (v := (.int .u32 0)) (Ex.assign rfl) (by decide) ?_
                      refine GL.val (v := (.bool false)) (Ex.assign rfl) (by decide) ?_
                      refine GL.nil ?_
                      refine GE.thenN ?_
                      refine GC.ret ?_
                      refine GE.thenR ?_
                      refine GC.ret2 rfl (Rv.tmp rfl) (Rv.tmp rfl) (fun wN HN => ?_)
                      exact HN.ret (0, false) (Bt.FP.ref (s := -k.1) (j := k.2) (i := i) (by omega) (by omega) (by rw [hp3]; congr 1; omega) (by omega) (by omega) (by omega) (by omega) (by omega) (Or.inl ⟨by omega, rfl, rfl⟩)) rfl (List.nil_sublist _) rfl
                    · replace hq18 := of_decide_eq_false hq18
                      refine GC.skip ?_
                      refine GE.thenN ?_
                      refine GC.seq ?_
                      refine GC.seq ?_
                      refine GC.region ?_
                      refine GL.val (v := (.int .i64 ((-k.1) * 2 ^ i))) (Ex.move rfl) (by decide) ?_
                      refine GL.val (v := (.bool (decide (((-k.1) * 2 ^ i) < 8388608)))) (Ex.lss rfl rfl) (by decide) ?_
                      refine GL.nil ?_
                      refine GE.thenN ?_
                      refine GC.cond rfl (fun hq19 => ?_) (fun hq19 => ?_)
                      · replace hq19 := of_decide_eq_true hq19
                        refine GC.seq ?_
                        refine GC.region ?_
                        refine GL.val (v := (.int .i64 2147483648)) (Ex.move rfl) (by decide) ?_
                        refine GL.val (v := (.int .i64 ((-k.1) * 2 ^ i))) (Ex.move rfl) (by decide) ?_
                        refine GL.val (v := (.int .i64 (2147483648 + ((-k.1) * 2 ^ i)))) (Ex.add rfl rfl (Z := 2147483648 + ((-k.1) * 2 ^ i)) (w64 (by omega))) (by decide) ?_
                        refine GL.val (v := (.int .u32 (2147483648 + ((-k.1) * 2 ^ i)))) (Ex.conv rfl Try.underlying3 Try.underlying23 (Z := 2147483648 + ((-k.1) * 2 ^ i)) (wu32b (by omega))) (by decide) ?_
                        refine GL.val (v := (.int .u32 (2147483648 + ((-k.1) * 2 ^ i)))) (Ex.assign rfl) (by decide) ?_
                        refine GL.val (v := (.bool true)) (Ex.assign rfl) (by decide) ?_
                        refine GL.nil ?_
                        refine GE.thenN ?_
                        refine GC.ret ?_
                        refine GE.thenR ?_
                        refine GC.ret2 rfl (Rv.tmp rfl) (Rv.tmp rfl) (fun wN HN => ?_)
                        exact HN.ret (2147483648 + ((-k.1) * 2 ^ i), true) (Bt.FP.ref (s := -k.1) (j := k.2) (i := i) (by omega) (by omega) (by rw [hp3]; congr 1; omega) (by omega) (by omega) (by omega) (by omega) (by omega) (Or.inr ⟨by omega, rfl, by unfold Bt.sgn Bt.enc; first | (rw [if_pos (by omega), if_pos (by omega)] <;> omega) | (rw [if_pos (by omega), if_neg (by omega)] <;> omega) | (rw [if_neg (by omega), if_pos (by omega)] <;> omega) | (rw [if_neg (by omega), if_neg (by omega)] <;> omega)⟩)) rfl (List.nil_sublist _) rfl
                      · replace hq19 := of_decide_eq_false hq19
                        refine GC.skip ?_
                        refine GE.thenN ?_
                        refine GC.seq ?_
                        refine GC.region ?_
                        refine GL.val (v := (.int .i64 2147483648)) (Ex.move rfl) (by decide) ?_
                        refine GL.val (v := (.int .i64 (e + ((k.2 : Nat) : Int) - ((i : Nat) : Int)))) (Ex.move rfl) (by decide) ?_
                        refine GL.val (v := (.int .i64 ((e + ((k.2 : Nat) : Int) - ((i : Nat) : Int)) + 150))) (Ex.add rfl rfl (Z := (e + ((k.2 : Nat) : Int) - ((i : Nat) : Int)) + 150) (w64 (by omega))) (by decide) ?_
                        refine GL.val (v := (.int .i64 (((e + ((k.2 : Nat) : Int) - ((i : Nat) : Int)) + 150) * 8388608))) (Ex.shl rfl (m := 23) rfl (by decide) (Z := ((e + ((k.2 : Nat) : Int) - ((i : Nat) : Int)) + 150) * 8388608) (w64 (by omega))) (by decide) ?_
                        refine GL.val (v := (.int .i64 (2147483648 + (((e + ((k.2 : Nat) : Int) - ((i : Nat) : Int)) + 150) * 8388608)))) (Ex.add rfl rfl (Z := 2147483648 + (((e + ((k.2 : Nat) : Int) - ((i : Nat) : Int)) + 150) * 8388608)) (w64 (by omega))) (by decide) ?_
                        refine GL.val (v := (.int .i64 ((-k.1) * 2 ^ i))) (Ex.move rfl) (by decide) ?_
                        refine GL.val (v := (.int .i64 ((2147483648 + (((e + ((k.2 : Nat) : Int) - ((i : Nat) : Int)) + 150) * 8388608)) + ((-k.1) * 2 ^ i)))) (Ex.add rfl rfl (Z := (2147483648 + (((e + ((k.2 : Nat) : Int) - ((i : Nat) : Int)) + 150) * 8388608)) + ((-k.1) * 2 ^ i)) (w64 (by omega))) (by decide) ?_
                        refine GL.val (v := (.int .i64 (((2147483648 + (((e + ((k.2 : Nat) : Int) - ((i : Nat) : Int)) + 150) * 8388608)) + ((-k.1) * 2 ^ i)) - 8388608))) (Ex.sub' rfl rfl (Z := ((2147483648 + (((e + ((k.2 : Nat) : Int) - ((i : Nat) : Int)) + 150) * 8388608)) + ((-k.1) * 2 ^ i)) - 8388608) (w64 (by omega))) (by decide) ?_
                        refine GL.val (v := (.int .u32 (((2147483648 + (((e + ((k.2 : Nat) : Int) - ((i : Nat) : Int)) + 150) * 8388608)) + ((-k.1) * 2 ^ i)) - 8388608))) (Ex.conv rfl Try.underlying3 Try.underlying23 (Z := ((2147483648 + (((e + ((k.2 : Nat) : Int) - ((i : Nat) : Int)) + 150) * 8388608)) + ((-k.1) * 2 ^ i)) - 8388608) (wu32b (by omega))) (by decide) ?_
                        refine GL.val (v := (.int .u32 (((2147483648 + (((e + ((k.2 : Nat) : Int) - ((i : Nat) : Int)) + 150) * 8388608)) + ((-k.1) * 2 ^ i)) - 8388608))) (Ex.assign rfl) (by decide) ?_
                        refine GL.val (v := (.bool true)) (Ex.assign rfl) (by decide) ?_
                        refine GL.nil ?_
                        refine GE.thenN ?_
                        refine GC.ret ?_
                        refine GC.ret2 rfl (Rv.tmp rfl) (Rv.tmp rfl) (fun wN HN => ?_)
                        exact HN.ret (((2147483648 + (((e + ((k.2 : Nat) : Int) - ((i : Nat) : Int)) + 150) * 8388608)) + ((-k.1) * 2 ^ i)) - 8388608, true) (Bt.FP.ref (s := -k.1) (j := k.2) (i := i) (by omega) (by omega) (by rw [hp3]; congr 1; omega) (by omega) (by omega) (by omega) (by omega) (by omega) (Or.inr ⟨by omega, rfl, by unfold Bt.sgn Bt.enc; first | (rw [if_pos (by omega), if_pos (by omega)] <;> omega) | (rw [if_pos (by omega), if_neg (by omega)] <;> omega) | (rw [if_neg (by omega), if_pos (by omega)] <;> omega) | (rw [if_neg (by omega), if_neg (by omega)] <;> omega)⟩)) rfl (List.nil_sublist _) rfl
        · replace hq5 := of_decide_eq_false hq5
          refine GC.skip ?_
          refine GE.thenN ?_
          refine GC.seq ?_
          refine GC.seq ?_
          refine GC.region ?_
          refine GL.val (v := (.int .i64 k.1)) (Ex.move rfl) (by decide) ?_
          by_cases hq20 : k.1 < 0
          · refine GL.val (v := (.bool true)) (Ex.cast (Ex.lss rfl rfl) (congrArg Value.bool (decide_eq_true hq20))) (by decide) ?_
            refine GL.val (v := (.bool true)) (Ex.move rfl) (by decide) ?_
            refine GL.skipG (tj := 26) rfl rfl rfl (by decide) ?_
            refine GL.skipG (tj := 26) rfl rfl rfl (by decide) ?_
            refine GL.val (v := (.bool true)) (Ex.pickT rfl rfl) (by decide) ?_
            refine GL.val (v := (.bool true)) (Ex.move rfl) (by decide) ?_
            refine GL.skipG (tj := 30) rfl rfl rfl (by decide) ?_
            refine GL.skipG (tj := 30) rfl rfl rfl (by decide) ?_
            refine GL.val (v := (.bool true)) (Ex.pickT rfl rfl) (by decide) ?_
            refine GL.val (v := (.bool true)) (Ex.move rfl) (by decide) ?_
            refine GL.skipG (tj := 34) rfl rfl rfl (by decide) ?_
            refine GL.skipG (tj := 34) rfl rfl rfl (by decide) ?_
            refine GL.val (v := (.bool true)) (Ex.pickT rfl rfl) (by decide) ?_
            refine GL.nil ?_
            refine GE.thenN ?_
            refine GC.cond rfl (fun _ => ?_) (fun hq21 => by cases hq21)
            refine GC.seq ?_
            refine GC.region ?_
            refine GL.val (v := (.int .u32 0)) (Ex.assign rfl) (by decide) ?_
            refine GL.val (v := (.bool false)) (Ex.assign rfl) (by decide) ?_
            refine GL.nil ?_
            refine GE.thenN ?_
            refine GC.ret ?_
            refine GE.thenR ?_
            refine GC.ret2 rfl (Rv.tmp rfl) (Rv.tmp rfl) (fun wN HN => ?_)
            exact HN.ret (0, false) (Bt.FP.ref_bad (s := (k.1.natAbs : Int)) (j := k.2) (by omega) (by omega) hp3 (by omega)) rfl (List.nil_sublist _) rfl
          · refine GL.val (v := (.bool false)) (Ex.cast (Ex.lss rfl rfl) (congrArg Value.bool (decide_eq_false hq20))) (by decide) ?_
            refine GL.val (v := (.bool false)) (Ex.move rfl) (by decide) ?_
            refine GL.stepG (tj := 26) rfl rfl (Ex.wp (v := (.int .i64 k.1)) (Ex.move rfl) (by decide)) (fun _ _ => ?_)
            by_cases hq22 : 16777216 ≤ k.1
            · refine GL.stepG (tj := 26) rfl rfl (Ex.wp (v := (.bool true)) (Ex.cast (Ex.geq rfl rfl) (congrArg Value.bool (decide_eq_true hq22))) (by decide)) (fun _ _ => ?_)
              refine GL.val (v := (.bool true)) (Ex.pickF rfl rfl) (by decide) ?_
              refine GL.val (v := (.bool true)) (Ex.move rfl) (by decide) ?_
              refine GL.skipG (tj := 30) rfl rfl rfl (by decide) ?_
              refine GL.skipG (tj := 30) rfl rfl rfl (by decide) ?_
              refine GL.val (v := (.bool true)) (Ex.pickT rfl rfl) (by decide) ?_
              refine GL.val (v := (.bool true)) (Ex.move rfl) (by decide) ?_
              refine GL.skipG (tj := 34) rfl rfl rfl (by decide) ?_
              refine GL.skipG (tj := 34) rfl rfl rfl (by decide) ?_
              refine GL.val (v := (.bool true)) (Ex.pickT rfl rfl) (by decide) ?_
              refine GL.nil ?_
              refine GE.thenN ?_
              refine GC.cond rfl (fun _ => ?_) (fun hq23 => by cases hq23)
              refine GC.seq ?_
              refine GC.region ?_
              refine GL.val (v := (.int .u32 0)) (Ex.assign rfl) (by decide) ?_
              refine GL.val (v := (.bool false)) (Ex.assign rfl) (by decide) ?_
              refine GL.nil ?_
              refine GE.thenN ?_
              refine GC.ret ?_
              refine GE.thenR ?_
              refine GC.ret2 rfl (Rv.tmp rfl) (Rv.tmp rfl) (fun wN HN => ?_)
              exact HN.ret (0, false) (Bt.FP.ref_bad (s := (k.1.natAbs : Int)) (j := k.2) (by omega) (by omega) hp3 (by omega)) rfl (List.nil_sublist _) rfl
            · refine GL.stepG (tj := 26) rfl rfl (Ex.wp (v := (.bool false)) (Ex.cast (Ex.geq rfl rfl) (congrArg Value.bool (decide_eq_false hq22))) (by decide)) (fun _ _ => ?_)
              refine GL.val (v := (.bool false)) (Ex.pickF rfl rfl) (by decide) ?_
              refine GL.val (v := (.bool false)) (Ex.move rfl) (by decide) ?_
              refine GL.stepG (tj := 30) rfl rfl (Ex.wp (v := (.int .i64 (e + ((k.2 : Nat) : Int)))) (Ex.move rfl) (by decide)) (fun _ _ => ?_)
              by_cases hq24 : (e + ((k.2 : Nat) : Int)) < (-149)
              · refine GL.stepG (tj := 30) rfl rfl (Ex.wp (v := (.bool true)) (Ex.cast (Ex.lss rfl rfl) (congrArg Value.bool (decide_eq_true hq24))) (by decide)) (fun _ _ => ?_)
                refine GL.val (v := (.bool true)) (Ex.pickF rfl rfl) (by decide) ?_
                refine GL.val (v := (.bool true)) (Ex.move rfl) (by decide) ?_
                refine GL.skipG (tj := 34) rfl rfl rfl (by decide) ?_
                refine GL.skipG (tj := 34) rfl rfl rfl (by decide) ?_
                refine GL.val (v := (.bool true)) (Ex.pickT rfl rfl) (by decide) ?_
                refine GL.nil ?_
                refine GE.thenN ?_
                refine GC.cond rfl (fun _ => ?_) (fun hq25 => by cases hq25)
                refine GC.seq ?_
                refine GC.region ?_
                refine GL.val (v := (.int .u32 0)) (Ex.assign rfl) (by decide) ?_
                refine GL.val (v := (.bool false)) (Ex.assign rfl) (by decide) ?_
                refine GL.nil ?_
                refine GE.thenN ?_
                refine GC.ret ?_
                refine GE.thenR ?_
                refine GC.ret2 rfl (Rv.tmp rfl) (Rv.tmp rfl) (fun wN HN => ?_)
                exact HN.ret (0, false) (Bt.FP.ref_bad (s := (k.1.natAbs : Int)) (j := k.2) (by omega) (by omega) hp3 (by omega)) rfl (List.nil_sublist _) rfl
              · refine GL.stepG (tj := 30) rfl rfl (Ex.wp (v := (.bool false)) (Ex.cast (Ex.lss rfl rfl) (congrArg Value.bool (decide_eq_false hq24))) (by decide)) (fun _ _ => ?_)
                refine GL.val (v := (.bool false)) (Ex.pickF rfl rfl) (by decide) ?_
                refine GL.val (v := (.bool false)) (Ex.move rfl) (by decide) ?_
                refine GL.stepG (tj := 34) rfl rfl (Ex.wp (v := (.int .i64 (e + ((k.2 : Nat) : Int)))) (Ex.move rfl) (by decide)) (fun _ _ => ?_)
                refine GL.stepG (tj := 34) rfl rfl (Ex.wp (v := (.bool (decide (127 < (e + ((k.2 : Nat) : Int)))))) (Ex.gtr rfl rfl) (by decide)) (fun _ _ => ?_)
                refine GL.val (v := (.bool (decide (127 < (e + ((k.2 : Nat) : Int)))))) (Ex.pickF rfl rfl) (by decide) ?_
                refine GL.nil ?_
                refine GE.thenN ?_
                refine GC.cond rfl (fun hq26 => ?_) (fun hq26 => ?_)
                · replace hq26 := of_decide_eq_true hq26
                  refine GC.seq ?_
                  refine GC.region ?_
                  refine GL.val (v := (.int .u32 0)) (Ex.assign rfl) (by decide) ?_
                  refine GL.val (v := (.bool false)) (Ex.assign rfl) (by decide) ?_
                  refine GL.nil ?_
                  refine GE.thenN ?_
                  refine GC.ret ?_
                  refine GE.thenR ?_
                  refine GC.ret2 rfl (Rv.tmp rfl) (Rv.tmp rfl) (fun wN HN => ?_)
                  exact HN.ret (0, false) (Bt.FP.ref_bad (s := (k.1.natAbs : Int)) (j := k.2) (by omega) (by omega) hp3 (by omega)) rfl (List.nil_sublist _) rfl
                · replace hq26 := of_decide_eq_false hq26
                  refine GC.skip ?_
                  refine GE.thenN ?_
                  refine GC.seq ?_
                  refine GC.block ?_
                  refine GC.loop (σ := Nat) (fun i => k.1 ≤ k.1 * 2 ^ i ∧ k.1 * 2 ^ i < 16777216 ∧ -149 ≤ e + ((k.2 : Nat) : Int) - ((i : Nat) : Int)) (fun i => [(0, (.int .i64 (k.1 * 2 ^ i))), (1, (.int .i64 (e + ((k.2 : Nat) : Int) - ((i : Nat) : Int)))), (6, (.int .i64 2147483648))]) (fun i => []) (fun i => (8388608 - k.1 * 2 ^ i).toNat) (0) ⟨by simp, by simp; omega, by simp; omega⟩ ((sub_cons (congrArg (fun z => some (Value.int .i64 z)) (by simp)) ((sub_cons (congrArg (fun z => some (Value.int .i64 z)) (by simp)) ((sub_cons rfl ((sub_nil _)))))))) (List.nil_sublist _) (fun i hp => ?_)
                  obtain ⟨hq1, hq2, hq3⟩ := hp
                  refine GC.seq ?_
                  refine GC.seq ?_
                  refine GC.region ?_
                  refine GL.val (v := (.int .i64 (k.1 * 2 ^ i))) (Ex.move rfl) (by decide) ?_
                  by_cases hq27 : (k.1 * 2 ^ i) < 8388608
                  · refine GL.val (v := (.bool true)) (Ex.cast (Ex.lss rfl rfl) (congrArg Value.bool (decide_eq_true hq27))) (by decide) ?_
                    refine GL.val (v := (.bool true)) (Ex.move rfl) (by decide) ?_
                    refine GL.stepG (tj := 40) rfl rfl (Ex.wp (v := (.int .i64 (e + ((k.2 : Nat) : Int) - ((i : Nat) : Int)))) (Ex.move rfl) (by decide)) (fun _ _ => ?_)
                    refine GL.stepG (tj := 40) rfl rfl (Ex.wp (v := (.bool (decide ((-149) < (e + ((k.2 : Nat) : Int) - ((i : Nat) : Int)))))) (Ex.gtr rfl rfl) (by decide)) (fun _ _ => ?_)
                    refine GL.val (v := (.bool (decide ((-149) < (e + ((k.2 : Nat) : Int) - ((i : Nat) : Int)))))) (Ex.pickT rfl rfl) (by decide) ?_
                    refine GL.nil ?_
                    refine GE.thenN ?_
                    refine GC.cond rfl (fun hq28 => ?_) (fun hq28 => ?_)
                    · replace hq28 := of_decide_eq_true hq28
                      refine GC.skip ?_
                      refine GE.thenN ?_
                      refine GC.block ?_
                      refine GC.seq ?_
                      refine GC.region ?_
                      refine GL.val (v := (.int .i64 (k.1 * 2 ^ i))) (Ex.move rfl) (by decide) ?_
                      refine GL.val (v := (.int .i64 (k.1 * 2 ^ (i + 1)))) (Ex.mul rfl rfl (Z := k.1 * 2 ^ (i + 1)) (by rw [w64 (by omega), Bt.pow_step])) (by decide) ?_
                      refine GL.val (v := (.int .i64 (k.1 * 2 ^ (i + 1)))) (Ex.assign rfl) (by decide) ?_
                      refine GL.nil ?_
                      refine GE.thenN ?_
                      refine GC.region ?_
                      refine GL.val (v := (.int .i64 (e + ((k.2 : Nat) : Int) - ((i : Nat) : Int)))) (Ex.move rfl) (by decide) ?_
                      refine GL.val (v := (.int .i64 (e + ((k.2 : Nat) : Int) - ((i + 1 : Nat) : Int)))) (Ex.sub' rfl rfl (Z := e + ((k.2 : Nat) : Int) - ((i + 1 : Nat) : Int)) (by rw [w64 (by omega)]; omega)) (by decide) ?_
                      refine GL.val (v := (.int .i64 (e + ((k.2 : Nat) : Int) - ((i + 1 : Nat) : Int)))) (Ex.assign rfl) (by decide) ?_
                      refine GL.nil ?_
                      refine GE.blockN ?_
                      refine GE.thenN ?_
                      exact Head.mk (i + 1) ⟨by rw [Bt.pow_step]; omega, by rw [Bt.pow_step]; omega, by omega⟩ (by rw [Bt.pow_step]; omega) ((sub_cons rfl ((sub_cons rfl ((sub_cons rfl ((sub_nil _)))))))) (List.nil_sublist _)
                    · replace hq28 := of_decide_eq_false hq28
                      refine GC.exit ?_
                      refine GE.thenE ?_
                      refine GE.thenE ?_
                      refine GE.blockE ?_
                      refine GE.thenN ?_
                      refine GC.seq ?_
                      refine GC.seq ?_
                      refine GC.region ?_
                      refine GL.val (v := (.int .i64 (e + ((k.2 : Nat) : Int) - ((i : Nat) : Int)))) (Ex.move rfl) (by decide) ?_
                      refine GL.val (v := (.bool (decide (104 < (e + ((k.2 : Nat) : Int) - ((i : Nat) : Int)))))) (Ex.gtr rfl rfl) (by decide) ?_
                      refine GL.nil ?_
                      refine GE.thenN ?_
                      refine GC.cond rfl (fun hq29 => ?_) (fun hq29 => ?_)
                      · replace hq29 := of_decide_eq_true hq29
                        refine GC.seq ?_
                        refine GC.region ?_
                        refine GL.val (v := (.int .u32 0)) (Ex.assign rfl) (by decide) ?_
                        refine GL.val (v := (.bool false)) (Ex.assign rfl) (by decide) ?_
                        refine GL.nil ?_
                        refine GE.thenN ?_
                        refine GC.ret ?_
                        refine GE.thenR ?_
                        refine GC.ret2 rfl (Rv.tmp rfl) (Rv.tmp rfl) (fun wN HN => ?_)
                        exact HN.ret (0, false) (Bt.FP.ref (s := k.1) (j := k.2) (i := i) (by omega) (by omega) (by rw [hp3]; congr 1; omega) (by omega) (by omega) (by omega) (by omega) (by omega) (Or.inl ⟨by omega, rfl, rfl⟩)) rfl (List.nil_sublist _) rfl
                      · replace hq29 := of_decide_eq_false hq29
                        refine GC.skip ?_
                        refine GE.thenN ?_
                        refine GC.seq ?_
                        refine GC.seq ?_
                        refine GC.region ?_
                        refine GL.val (v := (.int .i64 (k.1 * 2 ^ i))) (Ex.move rfl) (by decide) ?_
                        refine GL.val (v := (.bool (decide ((k.1 * 2 ^ i) < 8388608)))) (Ex.lss rfl rfl) (by decide) ?_
                        refine GL.nil ?_
                        refine GE.thenN ?_
                        refine GC.cond rfl (fun hq30 => ?_) (fun hq30 => ?_)
                        · replace hq30 := of_decide_eq_true hq30
                          refine GC.seq ?_
                          refine GC.region ?_
                          refine GL.val (v := (.int .i64 2147483648)) (Ex.move rfl) (by decide) ?_
                          refine GL.val (v := (.int .i64 (k.1 * 2 ^ i))) (Ex.move rfl) (by decide) ?_
                          refine GL.val (v := (.int .i64 (2147483648 + (k.1 * 2 ^ i)))) (Ex.add rfl rfl (Z := 2147483648 + (k.1 * 2 ^ i)) (w64 (by omega))) (by decide) ?_
                          refine GL.val (v := (.int .u32 (2147483648 + (k.1 * 2 ^ i)))) (Ex.conv rfl Try.underlying3 Try.underlying23 (Z := 2147483648 + (k.1 * 2 ^ i)) (wu32b (by omega))) (by decide) ?_
                          refine GL.val (v := (.int .u32 (2147483648 + (k.1 * 2 ^ i)))) (Ex.assign rfl) (by decide) ?_
                          refine GL.val (v := (.bool true)) (Ex.assign rfl) (by decide) ?_
                          refine GL.nil ?_
                          refine GE.thenN ?_
                          refine GC.ret ?_
                          refine GE.thenR ?_
                          refine GC.ret2 rfl (Rv.tmp rfl) (Rv.tmp rfl) (fun wN HN => ?_)
                          exact HN.ret (2147483648 + (k.1 * 2 ^ i), true) (Bt.FP.ref (s := k.1) (j := k.2) (i := i) (by omega) (by omega) (by rw [hp3]; congr 1; omega) (by omega) (by omega) (by omega) (by omega) (by omega) (Or.inr ⟨by omega, rfl, by unfold Bt.sgn Bt.enc; first | (rw [if_pos (by omega), if_pos (by omega)] <;> omega) | (rw [if_pos (by omega), if_neg (by omega)] <;> omega) | (rw [if_neg (by omega), if_pos (by omega)] <;> omega) | (rw [if_neg (by omega), if_neg (by omega)] <;> omega)⟩)) rfl (List.nil_sublist _) rfl
                        · replace hq30 := of_decide_eq_false hq30
                          refine GC.skip ?_
                          refine GE.thenN ?_
                          refine GC.seq ?_
                          refine GC.region ?_
                          refine GL.val (v := (.int .i64 2147483648)) (Ex.move rfl) (by decide) ?_
                          refine GL.val (v := (.int .i64 (e + ((k.2 : Nat) : Int) - ((i : Nat) : Int)))) (Ex.move rfl) (by decide) ?_
                          refine GL.val (v := (.int .i64 ((e + ((k.2 : Nat) : Int) - ((i : Nat) : Int)) + 150))) (Ex.add rfl rfl (Z := (e + ((k.2 : Nat) : Int) - ((i : Nat) : Int)) + 150) (w64 (by omega))) (by decide) ?_
                          refine GL.val (v := (.int .i64 (((e + ((k.2 : Nat) : Int) - ((i : Nat) : Int)) + 150) * 8388608))) (Ex.shl rfl (m := 23) rfl (by decide) (Z := ((e + ((k.2 : Nat) : Int) - ((i : Nat) : Int)) + 150) * 8388608) (w64 (by omega))) (by decide) ?_
                          refine GL.val (v := (.int .i64 (2147483648 + (((e + ((k.2 : Nat) : Int) - ((i : Nat) : Int)) + 150) * 8388608)))) (Ex.add rfl rfl (Z := 2147483648 + (((e + ((k.2 : Nat) : Int) - ((i : Nat) : Int)) + 150) * 8388608)) (w64 (by omega))) (by decide) ?_
                          refine GL.val (v := (.int .i64 (k.1 * 2 ^ i))) (Ex.move rfl) (by decide) ?_
                          refine GL.val (v := (.int .i64 ((2147483648 + (((e + ((k.2 : Nat) : Int) - ((i : Nat) : Int)) + 150) * 8388608)) + (k.1 * 2 ^ i)))) (Ex.add rfl rfl (Z := (2147483648 + (((e + ((k.2 : Nat) : Int) - ((i : Nat) : Int)) + 150) * 8388608)) + (k.1 * 2 ^ i)) (w64 (by omega))) (by decide) ?_
                          refine GL.val (v := (.int .i64 (((2147483648 + (((e + ((k.2 : Nat) : Int) - ((i : Nat) : Int)) + 150) * 8388608)) + (k.1 * 2 ^ i)) - 8388608))) (Ex.sub' rfl rfl (Z := ((2147483648 + (((e + ((k.2 : Nat) : Int) - ((i : Nat) : Int)) + 150) * 8388608)) + (k.1 * 2 ^ i)) - 8388608) (w64 (by omega))) (by decide) ?_
                          refine GL.val (v := (.int .u32 (((2147483648 + (((e + ((k.2 : Nat) : Int) - ((i : Nat) : Int)) + 150) * 8388608)) + (k.1 * 2 ^ i)) - 8388608))) (Ex.conv rfl Try.underlying3 Try.underlying23 (Z := ((2147483648 + (((e + ((k.2 : Nat) : Int) - ((i : Nat) : Int)) + 150) * 8388608)) + (k.1 * 2 ^ i)) - 8388608) (wu32b (by omega))) (by decide) ?_
                          refine GL.val (v := (.int .u32 (((2147483648 + (((e + ((k.2 : Nat) : Int) - ((i : Nat) : Int)) + 150) * 8388608)) + (k.1 * 2 ^ i)) - 8388608))) (Ex.assign rfl) (by decide) ?_
                          refine GL.val (v := (.bool true)) (Ex.assign rfl) (by decide) ?_
                          refine GL.nil ?_
                          refine GE.thenN ?_
                          refine GC.ret ?_
                          refine GC.ret2 rfl (Rv.tmp rfl) (Rv.tmp rfl) (fun wN HN => ?_)
                          exact HN.ret (((2147483648 + (((e + ((k.2 : Nat) : Int) - ((i : Nat) : Int)) + 150) * 8388608)) + (k.1 * 2 ^ i)) - 8388608, true) (Bt.FP.ref (s := k.1) (j := k.2) (i := i) (by omega) (by omega) (by rw [hp3]; congr 1; omega) (by omega) (by omega) (by omega) (by omega) (by omega) (Or.inr ⟨by omega, rfl, by unfold Bt.sgn Bt.enc; first | (rw [if_pos (by omega), if_pos (by omega)] <;> omega) | (rw [if_pos (by omega), if_neg (by omega)] <;> omega) | (rw [if_neg (by omega), if_pos (by omega)] <;> omega) | (rw [if_neg (by omega), if_neg (by omega)] <;> omega)⟩)) rfl (List.nil_sublist _) rfl
                  · refine GL.val (v := (.bool false)) (Ex.cast (Ex.lss rfl rfl) (congrArg Value.bool (decide_eq_false hq27))) (by decide) ?_
                    refine GL.val (v := (.bool false)) (Ex.move rfl) (by decide) ?_
                    refine GL.skipG (tj := 40) rfl rfl rfl (by decide) ?_
                    refine GL.skipG (tj := 40) rfl rfl rfl (by decide) ?_
                    refine GL.val (v := (.bool false)) (Ex.pickF rfl rfl) (by decide) ?_
                    refine GL.nil ?_
                    refine GE.thenN ?_
                    refine GC.cond rfl (fun hq31 => by cases hq31) (fun _ => ?_)
                    refine GC.exit ?_
                    refine GE.thenE ?_
                    refine GE.thenE ?_
                    refine GE.blockE ?_
                    refine GE.thenN ?_
                    refine GC.seq ?_
                    refine GC.seq ?_
                    refine GC.region ?_
                    refine GL.val (v := (.int .i64 (e + ((k.2 : Nat) : Int) - ((i : Nat) : Int)))) (Ex.move rfl) (by decide) ?_
                    refine GL.val (v := (.bool (decide (104 < (e + ((k.2 : Nat) : Int) - ((i : Nat) : Int)))))) (Ex.gtr rfl rfl) (by decide) ?_
                    refine GL.nil ?_
                    refine GE.thenN ?_
                    refine GC.cond rfl (fun hq32 => ?_) (fun hq32 => ?_)
                    · replace hq32 := of_decide_eq_true hq32
                      refine GC.seq ?_
                      refine GC.region ?_
                      refine GL.val (v := (.int .u32 0)) (Ex.assign rfl) (by decide) ?_
                      refine GL.val (v := (.bool false)) (Ex.assign rfl) (by decide) ?_
                      refine GL.nil ?_
                      refine GE.thenN ?_
                      refine GC.ret ?_
                      refine GE.thenR ?_
                      refine GC.ret2 rfl (Rv.tmp rfl) (Rv.tmp rfl) (fun wN HN => ?_)
                      exact HN.ret (0, false) (Bt.FP.ref (s := k.1) (j := k.2) (i := i) (by omega) (by omega) (by rw [hp3]; congr 1; omega) (by omega) (by omega) (by omega) (by omega) (by omega) (Or.inl ⟨by omega, rfl, rfl⟩)) rfl (List.nil_sublist _) rfl
                    · replace hq32 := of_decide_eq_false hq32
                      refine GC.skip ?_
                      refine GE.thenN ?_
                      refine GC.seq ?_
                      refine GC.seq ?_
                      refine GC.region ?_
                      refine GL.val (v := (.int .i64 (k.1 * 2 ^ i))) (Ex.move rfl) (by decide) ?_
                      refine GL.val (v := (.bool (decide ((k.1 * 2 ^ i) < 8388608)))) (Ex.lss rfl rfl) (by decide) ?_
                      refine GL.nil ?_
                      refine GE.thenN ?_
                      refine GC.cond rfl (fun hq33 => ?_) (fun hq33 => ?_)
                      · replace hq33 := of_decide_eq_true hq33
                        refine GC.seq ?_
                        refine GC.region ?_
                        refine GL.val (v := (.int .i64 2147483648)) (Ex.move rfl) (by decide) ?_
                        refine GL.val (v := (.int .i64 (k.1 * 2 ^ i))) (Ex.move rfl) (by decide) ?_
                        refine GL.val (v := (.int .i64 (2147483648 + (k.1 * 2 ^ i)))) (Ex.add rfl rfl (Z := 2147483648 + (k.1 * 2 ^ i)) (w64 (by omega))) (by decide) ?_
                        refine GL.val (v := (.int .u32 (2147483648 + (k.1 * 2 ^ i)))) (Ex.conv rfl Try.underlying3 Try.underlying23 (Z := 2147483648 + (k.1 * 2 ^ i)) (wu32b (by omega))) (by decide) ?_
                        refine GL.val (v := (.int .u32 (2147483648 + (k.1 * 2 ^ i)))) (Ex.assign rfl) (by decide) ?_
                        refine GL.val (v := (.bool true)) (Ex.assign rfl) (by decide) ?_
                        refine GL.nil ?_
                        refine GE.thenN ?_
                        refine GC.ret ?_
                        refine GE.thenR ?_
                        refine GC.ret2 rfl (Rv.tmp rfl) (Rv.tmp rfl) (fun wN HN => ?_)
                        exact HN.ret (2147483648 + (k.1 * 2 ^ i), true) (Bt.FP.ref (s := k.1) (j := k.2) (i := i) (by omega) (by omega) (by rw [hp3]; congr 1; omega) (by omega) (by omega) (by omega) (by omega) (by omega) (Or.inr ⟨by omega, rfl, by unfold Bt.sgn Bt.enc; first | (rw [if_pos (by omega), if_pos (by omega)] <;> omega) | (rw [if_pos (by omega), if_neg (by omega)] <;> omega) | (rw [if_neg (by omega), if_pos (by omega)] <;> omega) | (rw [if_neg (by omega), if_neg (by omega)] <;> omega)⟩)) rfl (List.nil_sublist _) rfl
                      · replace hq33 := of_decide_eq_false hq33
                        refine GC.skip ?_
                        refine GE.thenN ?_
                        refine GC.seq ?_
                        refine GC.region ?_
                        refine GL.val (v := (.int .i64 2147483648)) (Ex.move rfl) (by decide) ?_
                        refine GL.val (v := (.int .i64 (e + ((k.2 : Nat) : Int) - ((i : Nat) : Int)))) (Ex.move rfl) (by decide) ?_
                        refine GL.val (v := (.int .i64 ((e + ((k.2 : Nat) : Int) - ((i : Nat) : Int)) + 150))) (Ex.add rfl rfl (Z := (e + ((k.2 : Nat) : Int) - ((i : Nat) : Int)) + 150) (w64 (by omega))) (by decide) ?_
                        refine GL.val (v := (.int .i64 (((e + ((k.2 : Nat) : Int) - ((i : Nat) : Int)) + 150) * 8388608))) (Ex.shl rfl (m := 23) rfl (by decide) (Z := ((e + ((k.2 : Nat) : Int) - ((i : Nat) : Int)) + 150) * 8388608) (w64 (by omega))) (by decide) ?_
                        refine GL.val (v := (.int .i64 (2147483648 + (((e + ((k.2 : Nat) : Int) - ((i : Nat) : Int)) + 150) * 8388608)))) (Ex.add rfl rfl (Z := 2147483648 + (((e + ((k.2 : Nat) : Int) - ((i : Nat) : Int)) + 150) * 8388608)) (w64 (by omega))) (by decide) ?_
                        refine GL.val (v := (.int .i64 (k.1 * 2 ^ i))) (Ex.move rfl) (by decide) ?_
                        refine GL.val (v := (.int .i64 ((2147483648 + (((e + ((k.2 : Nat) : Int) - ((i : Nat) : Int)) + 150) * 8388608)) + (k.1 * 2 ^ i)))) (Ex.add rfl rfl (Z := (2147483648 + (((e + ((k.2 : Nat) : Int) - ((i : Nat) : Int)) + 150) * 8388608)) + (k.1 * 2 ^ i)) (w64 (by omega))) (by decide) ?_
                        refine GL.val (v := (.int .i64 (((2147483648 + (((e + ((k.2 : Nat) : Int) - ((i : Nat) : Int)) + 150) * 8388608)) + (k.1 * 2 ^ i)) - 8388608))) (Ex.sub' rfl rfl (Z := ((2147483648 + (((e + ((k.2 : Nat) : Int) - ((i : Nat) : Int)) + 150) * 8388608)) + (k.1 * 2 ^ i)) - 8388608) (w64 (by omega))) (by decide) ?_
                        refine GL.val (v := (.int .u32 (((2147483648 + (((e + ((k.2 : Nat) : Int) - ((i : Nat) : Int)) + 150) * 8388608)) + (k.1 * 2 ^ i)) - 8388608))) (Ex.conv rfl Try.underlying3 Try.underlying23 (Z := ((2147483648 + (((e + ((k.2 : Nat) : Int) - ((i : Nat) : Int)) + 150) * 8388608)) + (k.1 * 2 ^ i)) - 8388608) (wu32b (by omega))) (by decide) ?_
                        refine GL.val (v := (.int .u32 (((2147483648 + (((e + ((k.2 : Nat) : Int) - ((i : Nat) : Int)) + 150) * 8388608)) + (k.1 * 2 ^ i)) - 8388608))) (Ex.assign rfl) (by decide) ?_
                        refine GL.val (v := (.bool true)) (Ex.assign rfl) (by decide) ?_
                        refine GL.nil ?_
                        refine GE.thenN ?_
                        refine GC.ret ?_
                        refine GC.ret2 rfl (Rv.tmp rfl) (Rv.tmp rfl) (fun wN HN => ?_)
                        exact HN.ret (((2147483648 + (((e + ((k.2 : Nat) : Int) - ((i : Nat) : Int)) + 150) * 8388608)) + (k.1 * 2 ^ i)) - 8388608, true) (Bt.FP.ref (s := k.1) (j := k.2) (i := i) (by omega) (by omega) (by rw [hp3]; congr 1; omega) (by omega) (by omega) (by omega) (by omega) (by omega) (Or.inr ⟨by omega, rfl, by unfold Bt.sgn Bt.enc; first | (rw [if_pos (by omega), if_pos (by omega)] <;> omega) | (rw [if_pos (by omega), if_neg (by omega)] <;> omega) | (rw [if_neg (by omega), if_pos (by omega)] <;> omega) | (rw [if_neg (by omega), if_neg (by omega)] <;> omega)⟩)) rfl (List.nil_sublist _) rfl
    · replace hq2 := of_decide_eq_false hq2
      refine GC.skip ?_
      refine GE.thenN ?_
      refine GC.seq ?_
      refine GC.block ?_
      refine GC.loop (σ := Int × Nat) (fun k => k.1 ≠ 0 ∧ (-9223372036854775808 ≤ k.1 ∧ k.1 ≤ 9223372036854775807) ∧ (n.natAbs : Int) = (k.1.natAbs : Int) * 2 ^ k.2 ∧ (k.1 < 0 ↔ n < 0) ∧ e + ((k.2 : Nat) : Int) ≤ 9223372036854775807) (fun k => [(0, (.int .i64 k.1)), (1, (.int .i64 (e + ((k.2 : Nat) : Int)))), (6, (.int .i64 0))]) (fun k => []) (fun k => k.1.natAbs) ((n, 0)) ⟨by dsimp only; omega, by dsimp only; omega, by simp, Iff.rfl, by dsimp only; omega⟩ ((sub_cons rfl ((sub_cons (congrArg (fun z => some (Value.int .i64 z)) (by simp)) ((sub_cons rfl ((sub_nil _)))))))) (List.nil_sublist _) (fun k hp => ?_)
      obtain ⟨hp1, hp2, hp3, hp4, hp5⟩ := hp
      refine GC.seq ?_
      refine GC.seq ?_
      refine GC.region ?_
      refine GL.val (v := (.int .i64 k.1)) (Ex.move rfl) (by decide) ?_
      refine GL.val (v := (.int .i64 (k.1.tmod 2))) (Ex.rem rfl rfl (Z := k.1.tmod 2) (by decide) rfl) (by decide) ?_
      refine GL.val (v := (.bool (decide ((k.1.tmod 2) = 0)))) (Ex.eql rfl rfl) (by decide) ?_
      refine GL.nil ?_
      refine GE.thenN ?_
      refine GC.cond rfl (fun hq34 => ?_) (fun hq34 => ?_)
      · replace hq34 := of_decide_eq_true hq34
        have h2 := (tmod2 _).1 hq34
        refine GC.skip ?_
        refine GE.thenN ?_
        refine GC.block ?_
        refine GC.seq ?_
        refine GC.region ?_
        refine GL.val (v := (.int .i64 k.1)) (Ex.move rfl) (by decide) ?_
        refine GL.val (v := (.int .i64 (k.1 / 2))) (Ex.quo rfl rfl (Z := k.1 / 2) (by decide) (by rw [tdiv2 h2]; exact w64 (by omega))) (by decide) ?_
        refine GL.val (v := (.int .i64 (k.1 / 2))) (Ex.assign rfl) (by decide) ?_
        refine GL.nil ?_
        refine GE.thenN ?_
        refine GC.seq ?_
        refine GC.seq ?_
        refine GC.region ?_
        refine GL.val (v := (.int .i64 (e + ((k.2 : Nat) : Int)))) (Ex.move rfl) (by decide) ?_
        refine GL.val (v := (.bool (decide ((e + ((k.2 : Nat) : Int)) = 9223372036854775807)))) (Ex.eql rfl rfl) (by decide) ?_
        refine GL.nil ?_
        refine GE.thenN ?_
        refine GC.cond rfl (fun hq35 => ?_) (fun hq35 => ?_)
        · replace hq35 := of_decide_eq_true hq35
          refine GC.seq ?_
          refine GC.region ?_
          refine GL.val (v := (.int .u32 0)) (Ex.assign rfl) (by decide) ?_
          refine GL.val (v := (.bool false)) (Ex.assign rfl) (by decide) ?_
          refine GL.nil ?_
          refine GE.thenN ?_
          refine GC.ret ?_
          refine GE.thenR ?_
          refine GE.blockR ?_
          refine GE.thenR ?_
          refine GE.blockR ?_
          refine GE.thenR ?_
          refine GC.ret2 rfl (Rv.tmp rfl) (Rv.tmp rfl) (fun wN HN => ?_)
          exact HN.ret (0, false) (Bt.FP.ref_bad (s := (k.1.natAbs : Int)) (j := k.2) (by omega) (by omega) hp3 (by omega)) rfl (List.nil_sublist _) rfl
        · replace hq35 := of_decide_eq_false hq35
          refine GC.skip ?_
          refine GE.thenN ?_
          refine GC.region ?_
          refine GL.val (v := (.int .i64 (e + ((k.2 : Nat) : Int)))) (Ex.move rfl) (by decide) ?_
          refine GL.val (v := (.int .i64 (e + ((k.2 + 1 : Nat) : Int)))) (Ex.add rfl rfl (Z := e + ((k.2 + 1 : Nat) : Int)) (by rw [w64 (by omega)]; omega)) (by decide) ?_
          refine GL.val (v := (.int .i64 (e + ((k.2 + 1 : Nat) : Int)))) (Ex.assign rfl) (by decide) ?_
          refine GL.nil ?_
          refine GE.blockN ?_
          refine GE.thenN ?_
          exact Head.mk (k.1 / 2, k.2 + 1) ⟨by dsimp only; omega, by dsimp only; omega, by dsimp only; have := Bt.half_step hp3 (by omega); rw [this]; congr 1; omega, by dsimp only; omega, by dsimp only; omega⟩ (by dsimp only; omega) ((sub_cons rfl ((sub_cons rfl ((sub_cons rfl ((sub_nil _)))))))) (List.nil_sublist _)
      · replace hq34 := of_decide_eq_false hq34
        have h2 := mt (tmod2 _).2 hq34
        refine GC.exit ?_
        refine GE.thenE ?_
        refine GE.thenE ?_
        refine GE.blockE ?_
        refine GE.thenN ?_
        refine GC.seq ?_
        refine GC.seq ?_
        refine GC.region ?_
        refine GL.val (v := (.int .i64 k.1)) (Ex.move rfl) (by decide) ?_
        refine GL.val (v := (.bool (decide (k.1 < 0)))) (Ex.lss rfl rfl) (by decide) ?_
        refine GL.nil ?_
        refine GE.thenN ?_
        refine GC.cond rfl (fun hq36 => ?_) (fun hq36 => ?_)
        · replace hq36 := of_decide_eq_true hq36
          refine GC.region ?_
          refine GL.val (v := (.int .i64 k.1)) (Ex.move rfl) (by decide) ?_
          refine GL.val (v := (.int .i64 (-k.1))) (Ex.neg rfl (Z := -k.1) (by rw [w64 (by omega)]; omega)) (by decide) ?_
          refine GL.val (v := (.int .i64 (-k.1))) (Ex.assign rfl) (by decide) ?_
          refine GL.nil ?_
          refine GE.thenN ?_
          refine GC.seq ?_
          refine GC.seq ?_
          refine GC.region ?_
          refine GL.val (v := (.int .i64 (-k.1))) (Ex.move rfl) (by decide) ?_
          by_cases hq37 : (-k.1) < 0
          · refine GL.val (v := (.bool true)) (Ex.cast (Ex.lss rfl rfl) (congrArg Value.bool (decide_eq_true hq37))) (by decide) ?_
            refine GL.val (v := (.bool true)) (Ex.move rfl) (by decide) ?_
            refine GL.skipG (tj := 26) rfl rfl rfl (by decide) ?_
            refine GL.skipG (tj := 26) rfl rfl rfl (by decide) ?_
            refine GL.val (v := (.bool true)) (Ex.pickT rfl rfl) (by decide) ?_
            refine GL.val (v := (.bool true)) (Ex.move rfl) (by decide) ?_
            refine GL.skipG (tj := 30) rfl rfl rfl (by decide) ?_
            refine GL.skipG (tj := 30) rfl rfl rfl (by decide) ?_
            refine GL.val (v := (.bool true)) (Ex.pickT rfl rfl) (by decide) ?_
            refine GL.val (v := (.bool true)) (Ex.move rfl) (by decide) ?_
            refine GL.skipG (tj := 34) rfl rfl rfl (by decide) ?_
            refine GL.skipG (tj := 34) rfl rfl rfl (by decide) ?_
            refine GL.val (v := (.bool true)) (Ex.pickT rfl rfl) (by decide) ?_
            refine GL.nil ?_
            refine GE.thenN ?_
            refine GC.cond rfl (fun _ => ?_) (fun hq38 => by cases hq38)
            refine GC.seq ?_
            refine GC.region ?_
            refine GL.val (v := (.int .u32 0)) (Ex.assign rfl) (by decide) ?_
            refine GL.val (v := (.bool false)) (Ex.assign rfl) (by decide) ?_
            refine GL.nil ?_
            refine GE.thenN ?_
            refine GC.ret ?_
            refine GE.thenR ?_
            refine GC.ret2 rfl (Rv.tmp rfl) (Rv.tmp rfl) (fun wN HN => ?_)
            exact HN.ret (0, false) (Bt.FP.ref_bad (s := (k.1.natAbs : Int)) (j := k.2) (by omega) (by omega) hp3 (by omega)) rfl (List.nil_sublist _) rfl
          · refine GL.val (v := (.bool false)) (Ex.cast (Ex.lss rfl rfl) (congrArg Value.bool (decide_eq_false hq37))) (by decide) ?_
            refine GL.val (v := (.bool false)) (Ex.move rfl) (by decide) ?_
            refine GL.stepG (tj := 26) rfl rfl (Ex.wp (v := (.int .i64 (-k.1))) (Ex.move rfl) (by decide)) (fun _ _ => ?_)
            by_cases hq39 : 16777216 ≤ (-k.1)
            · refine GL.stepG (tj := 26) rfl rfl (Ex.wp (v := (.bool true)) (Ex.cast (Ex.geq rfl rfl) (congrArg Value.bool (decide_eq_true hq39))) (by decide)) (fun _ _ => ?_)
              refine GL.val (v := (.bool true)) (Ex.pickF rfl rfl) (by decide) ?_
              refine GL.val (v := (.bool true)) (Ex.move rfl) (by decide) ?_
              refine GL.skipG (tj := 30) rfl rfl rfl (by decide) ?_
              refine GL.skipG (tj := 30) rfl rfl rfl (by decide) ?_
              refine GL.val (v := (.bool true)) (Ex.pickT rfl rfl) (by decide) ?_
              refine GL.val (v := (.bool true)) (Ex.move rfl) (by decide) ?_
              refine GL.skipG (tj := 34) rfl rfl rfl (by decide) ?_
              refine GL.skipG (tj := 34) rfl rfl rfl (by decide) ?_
              refine GL.val (v := (.bool true)) (Ex.pickT rfl rfl) (by decide) ?_
              refine GL.nil ?_
              refine GE.thenN ?_
              refine GC.cond rfl (fun _ => ?_) (fun hq40 => by cases hq40)
              refine GC.seq ?_
              refine GC.region ?_
              refine GL.val (v := (.int .u32 0)) (Ex.assign rfl) (by decide) ?_
              refine GL.val (v := (.bool false)) (Ex.assign rfl) (by decide) ?_
              refine GL.nil ?_
              refine GE.thenN ?_
              refine GC.ret ?_
              refine GE.thenR ?_
              refine GC.ret2 rfl (Rv.tmp rfl) (Rv.tmp rfl) (fun wN HN => ?_)
              exact HN.ret (0, false) (Bt.FP.ref_bad (s := (k.1.natAbs : Int)) (j := k.2) (by omega) (by omega) hp3 (by omega)) rfl (List.nil_sublist _) rfl
            · refine GL.stepG (tj := 26) rfl rfl (Ex.wp (v := (.bool false)) (Ex.cast (Ex.geq rfl rfl) (congrArg Value.bool (decide_eq_false hq39))) (by decide)) (fun _ _ => ?_)
              refine GL.val (v := (.bool false)) (Ex.pickF rfl rfl) (by decide) ?_
              refine GL.val (v := (.bool false)) (Ex.move rfl) (by decide) ?_
              refine GL.stepG (tj := 30) rfl rfl (Ex.wp (v := (.int .i64 (e + ((k.2 : Nat) : Int)))) (Ex.move rfl) (by decide)) (fun _ _ => ?_)
              by_cases hq41 : (e + ((k.2 : Nat) : Int)) < (-149)
              · refine GL.stepG (tj := 30) rfl rfl (Ex.wp (v := (.bool true)) (Ex.cast (Ex.lss rfl rfl) (congrArg Value.bool (decide_eq_true hq41))) (by decide)) (fun _ _ => ?_)
                refine GL.val (v := (.bool true)) (Ex.pickF rfl rfl) (by decide) ?_
                refine GL.val (v := (.bool true)) (Ex.move rfl) (by decide) ?_
                refine GL.skipG (tj := 34) rfl rfl rfl (by decide) ?_
                refine GL.skipG (tj := 34) rfl rfl rfl (by decide) ?_
                refine GL.val (v := (.bool true)) (Ex.pickT rfl rfl) (by decide) ?_
                refine GL.nil ?_
                refine GE.thenN ?_
                refine GC.cond rfl (fun _ => ?_) (fun hq42 => by cases hq42)
                refine GC.seq ?_
                refine GC.region ?_
                refine GL.val (v := (.int .u32 0)) (Ex.assign rfl) (by decide) ?_
                refine GL.val (v := (.bool false)) (Ex.assign rfl) (by decide) ?_
                refine GL.nil ?_
                refine GE.thenN ?_
                refine GC.ret ?_
                refine GE.thenR ?_
                refine GC.ret2 rfl (Rv.tmp rfl) (Rv.tmp rfl) (fun wN HN => ?_)
                exact HN.ret (0, false) (Bt.FP.ref_bad (s := (k.1.natAbs : Int)) (j := k.2) (by omega) (by omega) hp3 (by omega)) rfl (List.nil_sublist _) rfl
              · refine GL.stepG (tj := 30) rfl rfl (Ex.wp (v := (.bool false)) (Ex.cast (Ex.lss rfl rfl) (congrArg Value.bool (decide_eq_false hq41))) (by decide)) (fun _ _ => ?_)
                refine GL.val (v := (.bool false)) (Ex.pickF rfl rfl) (by decide) ?_
                refine GL.val (v := (.bool false)) (Ex.move rfl) (by decide) ?_
                refine GL.stepG (tj := 34) rfl rfl (Ex.wp (v := (.int .i64 (e + ((k.2 : Nat) : Int)))) (Ex.move rfl) (by decide)) (fun _ _ => ?_)
                refine GL.stepG (tj := 34) rfl rfl (Ex.wp (v := (.bool (decide (127 < (e + ((k.2 : Nat) : Int)))))) (Ex.gtr rfl rfl) (by decide)) (fun _ _ => ?_)
                refine GL.val (v := (.bool (decide (127 < (e + ((k.2 : Nat) : Int)))))) (Ex.pickF rfl rfl) (by decide) ?_
                refine GL.nil ?_
                refine GE.thenN ?_
                refine GC.cond rfl (fun hq43 => ?_) (fun hq43 => ?_)
                · replace hq43 := of_decide_eq_true hq43
                  refine GC.seq ?_
                  refine GC.region ?_
                  refine GL.val (v := (.int .u32 0)) (Ex.assign rfl) (by decide) ?_
                  refine GL.val (v := (.bool false)) (Ex.assign rfl) (by decide) ?_
                  refine GL.nil ?_
                  refine GE.thenN ?_
                  refine GC.ret ?_
                  refine GE.thenR ?_
                  refine GC.ret2 rfl (Rv.tmp rfl) (Rv.tmp rfl) (fun wN HN => ?_)
                  exact HN.ret (0, false) (Bt.FP.ref_bad (s := (k.1.natAbs : Int)) (j := k.2) (by omega) (by omega) hp3 (by omega)) rfl (List.nil_sublist _) rfl
                · replace hq43 := of_decide_eq_false hq43
                  refine GC.skip ?_
                  refine GE.thenN ?_
                  refine GC.seq ?_
                  refine GC.block ?_
                  refine GC.loop (σ := Nat) (fun i => (-k.1) ≤ (-k.1) * 2 ^ i ∧ (-k.1) * 2 ^ i < 16777216 ∧ -149 ≤ e + ((k.2 : Nat) : Int) - ((i : Nat) : Int)) (fun i => [(0, (.int .i64 ((-k.1) * 2 ^ i))), (1, (.int .i64 (e + ((k.2 : Nat) : Int) - ((i : Nat) : Int)))), (6, (.int .i64 0))]) (fun i => []) (fun i => (8388608 - (-k.1) * 2 ^ i).toNat) (0) ⟨by simp, by simp; omega, by simp; omega⟩ ((sub_cons (congrArg (fun z => some (Value.int .i64 z)) (by simp)) ((sub_cons (congrArg (fun z => some (Value.int .i64 z)) (by simp)) ((sub_cons rfl ((sub_nil _)))))))) (List.nil_sublist _) (fun i hp => ?_)
                  obtain ⟨hq1, hq2, hq3⟩ := hp
                  refine GC.seq ?_
                  refine GC.seq ?_
                  refine GC.region ?_
                  refine GL.val (v := (.int .i64 ((-k.1) * 2 ^ i))) (Ex.move rfl) (by decide) ?_
                  by_cases hq44 : ((-k.1) * 2 ^ i) < 8388608
                  · refine GL.val (v := (.bool true)) (Ex.cast (Ex.lss rfl rfl) (congrArg Value.bool (decide_eq_true hq44))) (by decide) ?_
                    refine GL.val (v := (.bool true)) (Ex.move rfl) (by decide) ?_
                    refine GL.stepG (tj := 40) rfl rfl (Ex.wp (v := (.int .i64 (e + ((k.2 : Nat) : Int) - ((i : Nat) : Int)))) (Ex.move rfl) (by decide)) (fun _ _ => ?_)
                    refine GL.stepG (tj := 40) rfl rfl (Ex.wp (v := (.bool (decide ((-149) < (e + ((k.2 : Nat) : Int) - ((i : Nat) : Int)))))) (Ex.gtr rfl rfl) (by decide)) (fun _ _ => ?_)
                    refine GL.val (v := (.bool (decide ((-149) < (e + ((k.2 : Nat) : Int) - ((i : Nat) : Int)))))) (Ex.pickT rfl rfl) (by decide) ?_
                    refine GL.nil ?_
                    refine GE.thenN ?_
                    refine GC.cond rfl (fun hq45 => ?_) (fun hq45 => ?_)
                    · replace hq45 := of_decide_eq_true hq45
                      refine GC.skip ?_
                      refine GE.thenN ?_
                      refine GC.block ?_
                      refine GC.seq ?_
                      refine GC.region ?_
                      refine GL.val (v := (.int .i64 ((-k.1) * 2 ^ i))) (Ex.move rfl) (by decide) ?_
                      refine GL.val (v := (.int .i64 ((-k.1) * 2 ^ (i + 1)))) (Ex.mul rfl rfl (Z := (-k.1) * 2 ^ (i + 1)) (by rw [w64 (by omega), Bt.pow_step])) (by decide) ?_
                      refine GL.val (v := (.int .i64 ((-k.1) * 2 ^ (i + 1)))) (Ex.assign rfl) (by decide) ?_
                      refine GL.nil ?_
                      refine GE.thenN ?_
                      refine GC.region ?_
                      refine GL.val (v := (.int .i64 (e + ((k.2 : Nat) : Int) - ((i : Nat) : Int)))) (Ex.move rfl) (by decide) ?_
                      refine GL.val (v := (.int .i64 (e + ((k.2 : Nat) : Int) - ((i + 1 : Nat) : Int)))) (Ex.sub' rfl rfl (Z := e + ((k.2 : Nat) : Int) - ((i + 1 : Nat) : Int)) (by rw [w64 (by omega)]; omega)) (by decide) ?_
                      refine GL.val (v := (.int .i64 (e + ((k.2 : Nat) : Int) - ((i + 1 : Nat) : Int)))) (Ex.assign rfl) (by decide) ?_
                      refine GL.nil ?_
                      refine GE.blockN ?_
                      refine GE.thenN ?_
                      exact Head.mk (i + 1) ⟨by rw [Bt.pow_step]; omega, by rw [Bt.pow_step]; omega, by omega⟩ (by rw [Bt.pow_step]; omega) ((sub_cons rfl ((sub_cons rfl ((sub_cons rfl ((sub_nil _)))))))) (List.nil_sublist _)
                    · replace hq45 := of_decide_eq_false hq45
                      refine GC.exit ?_
                      refine GE.thenE ?_
                      refine GE.thenE ?_
                      refine GE.blockE ?_
                      refine GE.thenN ?_
                      refine GC.seq ?_
                      refine GC.seq ?_
                      refine GC.region ?_
                      refine GL.val (v := (.int .i64 (e + ((k.2 : Nat) : Int) - ((i : Nat) : Int)))) (Ex.move rfl) (by decide) ?_
                      refine GL.val (v := (.bool (decide (104 < (e + ((k.2 : Nat) : Int) - ((i : Nat) : Int)))))) (Ex.gtr rfl rfl) (by decide) ?_
                      refine GL.nil ?_
                      refine GE.thenN ?_
                      refine GC.cond rfl (fun hq46 => ?_) (fun hq46 => ?_)
                      · replace hq46 := of_decide_eq_true hq46
                        refine GC.seq ?_
                        refine GC.region ?_
                        refine GL.val (v := (.int .u32 0)) (Ex.assign rfl) (by decide) ?_
                        refine GL.val (v := (.bool false)) (Ex.assign rfl) (by decide) ?_
                        refine GL.nil ?_
                        refine GE.thenN ?_
                        refine GC.ret ?_
                        refine GE.thenR ?_
                        refine GC.ret2 rfl (Rv.tmp rfl) (Rv.tmp rfl) (fun wN HN => ?_)
                        exact HN.ret (0, false) (Bt.FP.ref (s := -k.1) (j := k.2) (i := i) (by omega) (by omega) (by rw [hp3]; congr 1; omega) (by omega) (by omega) (by omega) (by omega) (by omega) (Or.inl ⟨by omega, rfl, rfl⟩)) rfl (List.nil_sublist _) rfl
                      · replace hq46 := of_decide_eq_false hq46
                        refine GC.skip ?_
                        refine GE.thenN ?_
                        refine GC.seq ?_
                        refine GC.seq ?_
                        refine GC.region ?_
                        refine GL.val (v := (.int .i64 ((-k.1) * 2 ^ i))) (Ex.move rfl) (by decide) ?_
                        refine GL.val (v := (.bool (decide (((-k.1) * 2 ^ i) < 8388608)))) (Ex.lss rfl rfl) (by decide) ?_
                        refine GL.nil ?_
                        refine GE.thenN ?_
                        refine GC.cond rfl (fun hq47 => ?_) (fun hq47 => ?_)
                        · replace hq47 := of_decide_eq_true hq47
                          refine GC.seq ?_
                          refine GC.region ?_
                          refine GL.val (v := (.int .i64 0)) (Ex.move rfl) (by decide) ?_
                          refine GL.val (v := (.int .i64 ((-k.1) * 2 ^ i))) (Ex.move rfl) (by decide) ?_
                          refine GL.val (v := (.int .i64 (0 + ((-k.1) * 2 ^ i)))) (Ex.add rfl rfl (Z := 0 + ((-k.1) * 2 ^ i)) (w64 (by omega))) (by decide) ?_
                          refine GL.val (v := (.int .u32 (0 + ((-k.1) * 2 ^ i)))) (Ex.conv rfl Try.underlying3 Try.underlying23 (Z := 0 + ((-k.1) * 2 ^ i)) (wu32b (by omega))) (by decide) ?_
                          refine GL.val (v := (.int .u32 (0 + ((-k.1) * 2 ^ i)))) (Ex.assign rfl) (by decide) ?_
                          refine GL.val (v := (.bool true)) (Ex.assign rfl) (by decide) ?_
                          refine GL.nil ?_
                          refine GE.thenN ?_
                          refine GC.ret ?_
                          refine GE.thenR ?_
                          refine GC.ret2 rfl (Rv.tmp rfl) (Rv.tmp rfl) (fun wN HN => ?_)
                          exact HN.ret (0 + ((-k.1) * 2 ^ i), true) (Bt.FP.ref (s := -k.1) (j := k.2) (i := i) (by omega) (by omega) (by rw [hp3]; congr 1; omega) (by omega) (by omega) (by omega) (by omega) (by omega) (Or.inr ⟨by omega, rfl, by unfold Bt.sgn Bt.enc; first | (rw [if_pos (by omega), if_pos (by omega)] <;> omega) | (rw [if_pos (by omega), if_neg (by omega)] <;> omega) | (rw [if_neg (by omega), if_pos (by omega)] <;> omega) | (rw [if_neg (by omega), if_neg (by omega)] <;> omega)⟩)) rfl (List.nil_sublist _) rfl
                        · replace hq47 := of_decide_eq_false hq47
                          refine GC.skip ?_
                          refine GE.thenN ?_
                          refine GC.seq ?_
                          refine GC.region ?_
                          refine GL.val (v := (.int .i64 0)) (Ex.move rfl) (by decide) ?_
                          refine GL.val (v := (.int .i64 (e + ((k.2 : Nat) : Int) - ((i : Nat) : Int)))) (Ex.move rfl) (by decide) ?_
                          refine GL.val (v := (.int .i64 ((e + ((k.2 : Nat) : Int) - ((i : Nat) : Int)) + 150))) (Ex.add rfl rfl (Z := (e + ((k.2 : Nat) : Int) - ((i : Nat) : Int)) + 150) (w64 (by omega))) (by decide) ?_
                          refine GL.val (v := (.int .i64 (((e + ((k.2 : Nat) : Int) - ((i : Nat) : Int)) + 150) * 8388608))) (Ex.shl rfl (m := 23) rfl (by decide) (Z := ((e + ((k.2 : Nat) : Int) - ((i : Nat) : Int)) + 150) * 8388608) (w64 (by omega))) (by decide) ?_
                          refine GL.val (v := (.int .i64 (0 + (((e + ((k.2 : Nat) : Int) - ((i : Nat) : Int)) + 150) * 8388608)))) (Ex.add rfl rfl (Z := 0 + (((e + ((k.2 : Nat) : Int) - ((i : Nat) : Int)) + 150) * 8388608)) (w64 (by omega))) (by decide) ?_
                          refine GL.val (v := (.int .i64 ((-k.1) * 2 ^ i))) (Ex.move rfl) (by decide) ?_
                          refine GL.val (v := (.int .i64 ((0 + (((e + ((k.2 : Nat) : Int) - ((i : Nat) : Int)) + 150) * 8388608)) + ((-k.1) * 2 ^ i)))) (Ex.add rfl rfl (Z := (0 + (((e + ((k.2 : Nat) : Int) - ((i : Nat) : Int)) + 150) * 8388608)) + ((-k.1) * 2 ^ i)) (w64 (by omega))) (by decide) ?_
                          refine GL.val (v := (.int .i64 (((0 + (((e + ((k.2 : Nat) : Int) - ((i : Nat) : Int)) + 150) * 8388608)) + ((-k.1) * 2 ^ i)) - 8388608))) (Ex.sub' rfl rfl (Z := ((0 + (((e + ((k.2 : Nat) : Int) - ((i : Nat) : Int)) + 150) * 8388608)) + ((-k.1) * 2 ^ i)) - 8388608) (w64 (by omega))) (by decide) ?_
                          refine GL.val (v := (.int .u32 (((0 + (((e + ((k.2 : Nat) : Int) - ((i : Nat) : Int)) + 150) * 8388608)) + ((-k.1) * 2 ^ i)) - 8388608))) (Ex.conv rfl Try.underlying3 Try.underlying23 (Z := ((0 + (((e + ((k.2 : Nat) : Int) - ((i : Nat) : Int)) + 150) * 8388608)) + ((-k.1) * 2 ^ i)) - 8388608) (wu32b (by omega))) (by decide) ?_
                          refine GL.val (v := (.int .u32 (((0 + (((e + ((k.2 : Nat) : Int) - ((i : Nat) : Int)) + 150) * 8388608)) + ((-k.1) * 2 ^ i)) - 8388608))) (Ex.assign rfl) (by decide) ?_
                          refine GL.val (v := (.bool true)) (Ex.assign rfl) (by decide) ?_
                          refine GL.nil ?_
                          refine GE.thenN ?_
                          refine GC.ret ?_
                          refine GC.ret2 rfl (Rv.tmp rfl) (Rv.tmp rfl) (fun wN HN => ?_)
                          exact HN.ret (((0 + (((e + ((k.2 : Nat) : Int) - ((i : Nat) : Int)) + 150) * 8388608)) + ((-k.1) * 2 ^ i)) - 8388608, true) (Bt.FP.ref (s := -k.1) (j := k.2) (i := i) (by omega) (by omega) (by rw [hp3]; congr 1; omega) (by omega) (by omega) (by omega) (by omega) (by omega) (Or.inr ⟨by omega, rfl, by unfold Bt.sgn Bt.enc; first | (rw [if_pos (by omega), if_pos (by omega)] <;> omega) | (rw [if_pos (by omega), if_neg (by omega)] <;> omega) | (rw [if_neg (by omega), if_pos (by omega)] <;> omega) | (rw [if_neg (by omega), if_neg (by omega)] <;> omega)⟩)) rfl (List.nil_sublist _) rfl
                  · refine GL.val (v := (.bool false)) (Ex.cast (Ex.lss rfl rfl) (congrArg Value.bool (decide_eq_false hq44))) (by decide) ?_
                    refine GL.val (v := (.bool false)) (Ex.move rfl) (by decide) ?_
                    refine GL.skipG (tj := 40) rfl rfl rfl (by decide) ?_
                    refine GL.skipG (tj := 40) rfl rfl rfl (by decide) ?_
                    refine GL.val (v := (.bool false)) (Ex.pickF rfl rfl) (by decide) ?_
                    refine GL.nil ?_
                    refine GE.thenN ?_
                    refine GC.cond rfl (fun hq48 => by cases hq48) (fun _ => ?_)
                    refine GC.exit ?_
                    refine GE.thenE ?_
                    refine GE.thenE ?_
                    refine GE.blockE ?_
                    refine GE.thenN ?_
                    refine GC.seq ?_
                    refine GC.seq ?_
                    refine GC.region ?_
                    refine GL.val (v := (.int .i64 (e + ((k.2 : Nat) : Int) - ((i : Nat) : Int)))) (Ex.move rfl) (by decide) ?_
                    refine GL.val (v := (.bool (decide (104 < (e + ((k.2 : Nat) : Int) - ((i : Nat) : Int)))))) (Ex.gtr rfl rfl) (by decide) ?_
                    refine GL.nil ?_
                    refine GE.thenN ?_
                    refine GC.cond rfl (fun hq49 => ?_) (fun hq49 => ?_)
                    · replace hq49 := of_decide_eq_true hq49
                      refine GC.seq ?_
                      refine GC.region ?_
                      refine GL.val (v := (.int .u32 0)) (Ex.assign rfl) (by decide) ?_
                      refine GL.val (v := (.bool false)) (Ex.assign rfl) (by decide) ?_
                      refine GL.nil ?_
                      refine GE.thenN ?_
                      refine GC.ret ?_
                      refine GE.thenR ?_
                      refine GC.ret2 rfl (Rv.tmp rfl) (Rv.tmp rfl) (fun wN HN => ?_)
                      exact HN.ret (0, false) (Bt.FP.ref (s := -k.1) (j := k.2) (i := i) (by omega) (by omega) (by rw [hp3]; congr 1; omega) (by omega) (by omega) (by omega) (by omega) (by omega) (Or.inl ⟨by omega, rfl, rfl⟩)) rfl (List.nil_sublist _) rfl
                    · replace hq49 := of_decide_eq_false hq49
                      refine GC.skip ?_
                      refine GE.thenN ?_
                      refine GC.seq ?_
                      refine GC.seq ?_
                      refine GC.region ?_
                      refine GL.val (v := (.int .i64 ((-k.1) * 2 ^ i))) (Ex.move rfl) (by decide) ?_
                      refine GL.val (v := (.bool (decide (((-k.1) * 2 ^ i) < 8388608)))) (Ex.lss rfl rfl) (by decide) ?_
                      refine GL.nil ?_
                      refine GE.thenN ?_
                      refine GC.cond rfl (fun hq50 => ?_) (fun hq50 => ?_)
                      · replace hq50 := of_decide_eq_true hq50
                        refine GC.seq ?_
                        refine GC.region ?_
                        refine GL.val (v := (.int .i64 0)) (Ex.move rfl) (by decide) ?_
                        refine GL.val (v := (.int .i64 ((-k.1) * 2 ^ i))) (Ex.move rfl) (by decide) ?_
                        refine GL.val (v := (.int .i64 (0 + ((-k.1) * 2 ^ i)))) (Ex.add rfl rfl (Z := 0 + ((-k.1) * 2 ^ i)) (w64 (by omega))) (by decide) ?_
                        refine GL.val (v := (.int .u32 (0 + ((-k.1) * 2 ^ i)))) (Ex.conv rfl Try.underlying3 Try.underlying23 (Z := 0 + ((-k.1) * 2 ^ i)) (wu32b (by omega))) (by decide) ?_
                        refine GL.val (v := (.int .u32 (0 + ((-k.1) * 2 ^ i)))) (Ex.assign rfl) (by decide) ?_
                        refine GL.val (v := (.bool true)) (Ex.assign rfl) (by decide) ?_
                        refine GL.nil ?_
                        refine GE.thenN ?_
                        refine GC.ret ?_
                        refine GE.thenR ?_
                        refine GC.ret2 rfl (Rv.tmp rfl) (Rv.tmp rfl) (fun wN HN => ?_)
                        exact HN.ret (0 + ((-k.1) * 2 ^ i), true) (Bt.FP.ref (s := -k.1) (j := k.2) (i := i) (by omega) (by omega) (by rw [hp3]; congr 1; omega) (by omega) (by omega) (by omega) (by omega) (by omega) (Or.inr ⟨by omega, rfl, by unfold Bt.sgn Bt.enc; first | (rw [if_pos (by omega), if_pos (by omega)] <;> omega) | (rw [if_pos (by omega), if_neg (by omega)] <;> omega) | (rw [if_neg (by omega), if_pos (by omega)] <;> omega) | (rw [if_neg (by omega), if_neg (by omega)] <;> omega)⟩)) rfl (List.nil_sublist _) rfl
                      · replace hq50 := of_decide_eq_false hq50
                        refine GC.skip ?_
                        refine GE.thenN ?_
                        refine GC.seq ?_
                        refine GC.region ?_
                        refine GL.val (v := (.int .i64 0)) (Ex.move rfl) (by decide) ?_
                        refine GL.val (v := (.int .i64 (e + ((k.2 : Nat) : Int) - ((i : Nat) : Int)))) (Ex.move rfl) (by decide) ?_
                        refine GL.val (v := (.int .i64 ((e + ((k.2 : Nat) : Int) - ((i : Nat) : Int)) + 150))) (Ex.add rfl rfl (Z := (e + ((k.2 : Nat) : Int) - ((i : Nat) : Int)) + 150) (w64 (by omega))) (by decide) ?_
                        refine GL.val (v := (.int .i64 (((e + ((k.2 : Nat) : Int) - ((i : Nat) : Int)) + 150) * 8388608))) (Ex.shl rfl (m := 23) rfl (by decide) (Z := ((e + ((k.2 : Nat) : Int) - ((i : Nat) : Int)) + 150) * 8388608) (w64 (by omega))) (by decide) ?_
                        refine GL.val (v := (.int .i64 (0 + (((e + ((k.2 : Nat) : Int) - ((i : Nat) : Int)) + 150) * 8388608)))) (Ex.add rfl rfl (Z := 0 + (((e + ((k.2 : Nat) : Int) - ((i : Nat) : Int)) + 150) * 8388608)) (w64 (by omega))) (by decide) ?_
                        refine GL.val (v := (.int .i64 ((-k.1) * 2 ^ i))) (Ex.move rfl) (by decide) ?_
                        refine GL.val (v := (.int .i64 ((0 + (((e + ((k.2 : Nat) : Int) - ((i : Nat) : Int)) + 150) * 8388608)) + ((-k.1) * 2 ^ i)))) (Ex.add rfl rfl (Z := (0 + (((e + ((k.2 : Nat) : Int) - ((i : Nat) : Int)) + 150) * 8388608)) + ((-k.1) * 2 ^ i)) (w64 (by omega))) (by decide) ?_
                        refine GL.val (v := (.int .i64 (((0 + (((e + ((k.2 : Nat) : Int) - ((i : Nat) : Int)) + 150) * 8388608)) + ((-k.1) * 2 ^ i)) - 8388608))) (Ex.sub' rfl rfl (Z := ((0 + (((e + ((k.2 : Nat) : Int) - ((i : Nat) : Int)) + 150) * 8388608)) + ((-k.1) * 2 ^ i)) - 8388608) (w64 (by omega))) (by decide) ?_
                        refine GL.val (v := (.int .u32 (((0 + (((e + ((k.2 : Nat) : Int) - ((i : Nat) : Int)) + 150) * 8388608)) + ((-k.1) * 2 ^ i)) - 8388608))) (Ex.conv rfl Try.underlying3 Try.underlying23 (Z := ((0 + (((e + ((k.2 : Nat) : Int) - ((i : Nat) : Int)) + 150) * 8388608)) + ((-k.1) * 2 ^ i)) - 8388608) (wu32b (by omega))) (by decide) ?_
                        refine GL.val (v := (.int .u32 (((0 + (((e + ((k.2 : Nat) : Int) - ((i : Nat) : Int)) + 150) * 8388608)) + ((-k.1) * 2 ^ i)) - 8388608))) (Ex.assign rfl) (by decide) ?_
                        refine GL.val (v := (.bool true)) (Ex.assign rfl) (by decide) ?_
                        refine GL.nil ?_
                        refine GE.thenN ?_
                        refine GC.ret ?_
                        refine GC.ret2 rfl (Rv.tmp rfl) (Rv.tmp rfl) (fun wN HN => ?_)
                        exact HN.ret (((0 + (((e + ((k.2 : Nat) : Int) - ((i : Nat) : Int)) + 150) * 8388608)) + ((-k.1) * 2 ^ i)) - 8388608, true) (Bt.FP.ref (s := -k.1) (j := k.2) (i := i) (by omega) (by omega) (by rw [hp3]; congr 1; omega) (by omega) (by omega) (by omega) (by omega) (by omega) (Or.inr ⟨by omega, rfl, by unfold Bt.sgn Bt.enc; first | (rw [if_pos (by omega), if_pos (by omega)] <;> omega) | (rw [if_pos (by omega), if_neg (by omega)] <;> omega) | (rw [if_neg (by omega), if_pos (by omega)] <;> omega) | (rw [if_neg (by omega), if_neg (by omega)] <;> omega)⟩)) rfl (List.nil_sublist _) rfl
        · replace hq36 := of_decide_eq_false hq36
          refine GC.skip ?_
          refine GE.thenN ?_
          refine GC.seq ?_
          refine GC.seq ?_
          refine GC.region ?_
          refine GL.val (v := (.int .i64 k.1)) (Ex.move rfl) (by decide) ?_
          by_cases hq51 : k.1 < 0
          · refine GL.val (v := (.bool true)) (Ex.cast (Ex.lss rfl rfl) (congrArg Value.bool (decide_eq_true hq51))) (by decide) ?_
            refine GL.val (v := (.bool true)) (Ex.move rfl) (by decide) ?_
            refine GL.skipG (tj := 26) rfl rfl rfl (by decide) ?_
            refine GL.skipG (tj := 26) rfl rfl rfl (by decide) ?_
            refine GL.val (v := (.bool true)) (Ex.pickT rfl rfl) (by decide) ?_
            refine GL.val (v := (.bool true)) (Ex.move rfl) (by decide) ?_
            refine GL.skipG (tj := 30) rfl rfl rfl (by decide) ?_
            refine GL.skipG (tj := 30) rfl rfl rfl (by decide) ?_
            refine GL.val (v := (.bool true)) (Ex.pickT rfl rfl) (by decide) ?_
            refine GL.val (v := (.bool true)) (Ex.move rfl) (by decide) ?_
            refine GL.skipG (tj := 34) rfl rfl rfl (by decide) ?_
            refine GL.skipG (tj := 34) rfl rfl rfl (by decide) ?_
            refine GL.val (v := (.bool true)) (Ex.pickT rfl rfl) (by decide) ?_
            refine GL.nil ?_
            refine GE.thenN ?_
            refine GC.cond rfl (fun _ => ?_) (fun hq52 => by cases hq52)
            refine GC.seq ?_
            refine GC.region ?_
            refine GL.val (v := (.int .u32 0)) (Ex.assign rfl) (by decide) ?_
            refine GL.val (v := (.bool false)) (Ex.assign rfl) (by decide) ?_
            refine GL.nil ?_
            refine GE.thenN ?_
            refine GC.ret ?_
            refine GE.thenR ?_
            refine GC.ret2 rfl (Rv.tmp rfl) (Rv.tmp rfl) (fun wN HN => ?_)
            exact HN.ret (0, false) (Bt.FP.ref_bad (s := (k.1.natAbs : Int)) (j := k.2) (by omega) (by omega) hp3 (by omega)) rfl (List.nil_sublist _) rfl
          · refine GL.val (v := (.bool false)) (Ex.cast (Ex.lss rfl rfl) (congrArg Value.bool (decide_eq_false hq51))) (by decide) ?_
            refine GL.val (v := (.bool false)) (Ex.move rfl) (by decide) ?_
            refine GL.stepG (tj := 26) rfl rfl (Ex.wp (v := (.int .i64 k.1)) (Ex.move rfl) (by decide)) (fun _ _ => ?_)
            by_cases hq53 : 16777216 ≤ k.1
            · refine GL.stepG (tj := 26) rfl rfl (Ex.wp (v := (.bool true)) (Ex.cast (Ex.geq rfl rfl) (congrArg Value.bool (decide_eq_true hq53))) (by decide)) (fun _ _ => ?_)
              refine GL.val (v := (.bool true)) (Ex.pickF rfl rfl) (by decide) ?_
              refine GL.val (v := (.bool true)) (Ex.move rfl) (by decide) ?_
              refine GL.skipG (tj := 30) rfl rfl rfl (by decide) ?_
              refine GL.skipG (tj := 30) rfl rfl rfl (by decide) ?_
              refine GL.val (v := (.bool true)) (Ex.pickT rfl rfl) (by decide) ?_
              refine GL.val (v := (.bool true)) (Ex.move rfl) (by decide) ?_
              refine GL.skipG (tj := 34) rfl rfl rfl (by decide) ?_
              refine GL.skipG (tj := 34) rfl rfl rfl (by decide) ?_
              refine GL.val (v := (.bool true)) (Ex.pickT rfl rfl) (by decide) ?_
              refine GL.nil ?_
              refine GE.thenN ?_
              refine GC.cond rfl (fun _ => ?_) (fun hq54 => by cases hq54)
              refine GC.seq ?_
              refine GC.region ?_
              refine GL.val (v := (.int .u32 0)) (Ex.assign rfl) (by decide) ?_
              refine GL.val (v := (.bool false)) (Ex.assign rfl) (by decide) ?_
              refine GL.nil ?_
              refine GE.thenN ?_
              refine GC.ret ?_
              refine GE.thenR ?_
              refine GC.ret2 rfl (Rv.tmp rfl) (Rv.tmp rfl) (fun wN HN => ?_)
              exact HN.ret (0, false) (Bt.FP.ref_bad (s := (k.1.natAbs : Int)) (j := k.2) (by omega) (by omega) hp3 (by omega)) rfl (List.nil_sublist _) rfl
            · refine GL.stepG (tj := 26) rfl rfl (Ex.wp (v := (.bool false)) (Ex.cast (Ex.geq rfl rfl) (congrArg Value.bool (decide_eq_false hq53))) (by decide)) (fun _ _ => ?_)
              refine GL.val (v := (.bool false)) (Ex.pickF rfl rfl) (by decide) ?_
              refine GL.val (v := (.bool false)) (Ex.move rfl) (by decide) ?_
              refine GL.stepG (tj := 30) rfl rfl (Ex.wp (v := (.int .i64 (e + ((k.2 : Nat) : Int)))) (Ex.move rfl) (by decide)) (fun _ _ => ?_)
              by_cases hq55 : (e + ((k.2 : Nat) : Int)) < (-149)
              · refine GL.stepG (tj := 30) rfl rfl (Ex.wp (v := (.bool true)) (Ex.cast (Ex.lss rfl rfl) (congrArg Value.bool (decide_eq_true hq55))) (by decide)) (fun _ _ => ?_)
                refine GL.val (v := (.bool true)) (Ex.pickF rfl rfl) (by decide) ?_
                refine GL.val (v := (.bool true)) (Ex.move rfl) (by decide) ?_
                refine GL.skipG (tj := 34) rfl rfl rfl (by decide) ?_
                refine GL.skipG (tj := 34) rfl rfl rfl (by decide) ?_
                refine GL.val (v := (.bool true)) (Ex.pickT rfl rfl) (by decide) ?_
                refine GL.nil ?_
                refine GE.thenN ?_
                refine GC.cond rfl (fun _ => ?_) (fun hq56 => by cases hq56)
                refine GC.seq ?_
                refine GC.region ?_
                refine GL.val (v := (.int .u32 0)) (Ex.assign rfl) (by decide) ?_
                refine GL.val (v := (.bool false)) (Ex.assign rfl) (by decide) ?_
                refine GL.nil ?_
                refine GE.thenN ?_
                refine GC.ret ?_
                refine GE.thenR ?_
                refine GC.ret2 rfl (Rv.tmp rfl) (Rv.tmp rfl) (fun wN HN => ?_)
                exact HN.ret (0, false) (Bt.FP.ref_bad (s := (k.1.natAbs : Int)) (j := k.2) (by omega) (by omega) hp3 (by omega)) rfl (List.nil_sublist _) rfl
              · refine GL.stepG (tj := 30) rfl rfl (Ex.wp (v := (.bool false)) (Ex.cast (Ex.lss rfl rfl) (congrArg Value.bool (decide_eq_false hq55))) (by decide)) (fun _ _ => ?_)
                refine GL.val (v := (.bool false)) (Ex.pickF rfl rfl) (by decide) ?_
                refine GL.val (v := (.bool false)) (Ex.move rfl) (by decide) ?_
                refine GL.stepG (tj := 34) rfl rfl (Ex.wp (v := (.int .i64 (e + ((k.2 : Nat) : Int)))) (Ex.move rfl) (by decide)) (fun _ _ => ?_)
                refine GL.stepG (tj := 34) rfl rfl (Ex.wp (v := (.bool (decide (127 < (e + ((k.2 : Nat) : Int)))))) (Ex.gtr rfl rfl) (by decide)) (fun _ _ => ?_)
                refine GL.val (v := (.bool (decide (127 < (e + ((k.2 : Nat) : Int)))))) (Ex.pickF rfl rfl) (by decide) ?_
                refine GL.nil ?_
                refine GE.thenN ?_
                refine GC.cond rfl (fun hq57 => ?_) (fun hq57 => ?_)
                · replace hq57 := of_decide_eq_true hq57
                  refine GC.seq ?_
                  refine GC.region ?_
                  refine GL.val (v := (.int .u32 0)) (Ex.assign rfl) (by decide) ?_
                  refine GL.val (v := (.bool false)) (Ex.assign rfl) (by decide) ?_
                  refine GL.nil ?_
                  refine GE.thenN ?_
                  refine GC.ret ?_
                  refine GE.thenR ?_
                  refine GC.ret2 rfl (Rv.tmp rfl) (Rv.tmp rfl) (fun wN HN => ?_)
                  exact HN.ret (0, false) (Bt.FP.ref_bad (s := (k.1.natAbs : Int)) (j := k.2) (by omega) (by omega) hp3 (by omega)) rfl (List.nil_sublist _) rfl
                · replace hq57 := of_decide_eq_false hq57
                  refine GC.skip ?_
                  refine GE.thenN ?_
                  refine GC.seq ?_
                  refine GC.block ?_
                  refine GC.loop (σ := Nat) (fun i => k.1 ≤ k.1 * 2 ^ i ∧ k.1 * 2 ^ i < 16777216 ∧ -149 ≤ e + ((k.2 : Nat) : Int) - ((i : Nat) : Int)) (fun i => [(0, (.int .i64 (k.1 * 2 ^ i))), (1, (.int .i64 (e + ((k.2 : Nat) : Int) - ((i : Nat) : Int)))), (6, (.int .i64 0))]) (fun i => []) (fun i => (8388608 - k.1 * 2 ^ i).toNat) (0) ⟨by simp, by simp; omega, by simp; omega⟩ ((sub_cons (congrArg (fun z => some (Value.int .i64 z)) (by simp)) ((sub_cons (congrArg (fun z => some (Value.int .i64 z)) (by simp)) ((sub_cons rfl ((sub_nil _)))))))) (List.nil_sublist _) (fun i hp => ?_)
                  obtain ⟨hq1, hq2, hq3⟩ := hp
                  refine GC.seq ?_
                  refine GC.seq ?_
                  refine GC.region ?_
                  refine GL.val (v := (.int .i64 (k.1 * 2 ^ i))) (Ex.move rfl) (by decide) ?_
                  by_cases hq58 : (k.1 * 2 ^ i) < 8388608
                  · refine GL.val (v := (.bool true)) (Ex.cast (Ex.lss rfl rfl) (congrArg Value.bool (decide_eq_true hq58))) (by decide) ?_
                    refine GL.val (v := (.bool true)) (Ex.move rfl) (by decide) ?_
                    refine GL.stepG (tj := 40) rfl rfl (Ex.wp (v := (.int .i64 (e + ((k.2 : Nat) : Int) - ((i : Nat) : Int)))) (Ex.move rfl) (by decide)) (fun _ _ => ?_)
                    refine GL.stepG (tj := 40) rfl rfl (Ex.wp (v := (.bool (decide ((-149) < (e + ((k.2 : Nat) : Int) - ((i : Nat) : Int)))))) (Ex.gtr rfl rfl) (by decide)) (fun _ _ => ?_)
                    refine GL.val (v := (.bool (decide ((-149) < (e + ((k.2 : Nat) : Int) - ((i : Nat) : Int)))))) (Ex.pickT rfl rfl) (by decide) ?_
                    refine GL.nil ?_
                    refine GE.thenN ?_
                    refine GC.cond rfl (fun hq59 => ?_) (fun hq59 => ?_)
                    · replace hq59 := of_decide_eq_true hq59
                      refine GC.skip ?_
                      refine GE.thenN ?_
                      refine GC.block ?_
                      refine GC.seq ?_
                      refine GC.region ?_
                      refine GL.val (v := (.int .i64 (k.1 * 2 ^ i))) (Ex.move rfl) (by decide) ?_
                      refine GL.val (v := (.int .i64 (k.1 * 2 ^ (i + 1)))) (Ex.mul rfl rfl (Z := k.1 * 2 ^ (i + 1)) (by rw [w64 (by omega), Bt.pow_step])) (by decide) ?_
                      refine GL.val (v := (.int .i64 (k.1 * 2 ^ (i + 1)))) (Ex.assign rfl) (by decide) ?_
                      refine GL.nil ?_
                      refine GE.thenN ?_
                      refine GC.region ?_
                      refine GL.val (v := (.int .i64 (e + ((k.2 : Nat) : Int) - ((i : Nat) : Int)))) (Ex.move rfl) (by decide) ?_
                      refine GL.val (v := (.int .i64 (e + ((k.2 : Nat) : Int) - ((i + 1 : Nat) : Int)))) (Ex.sub' rfl rfl (Z := e + ((k.2 : Nat) : Int) - ((i + 1 : Nat) : Int)) (by rw [w64 (by omega)]; omega)) (by decide) ?_
                      refine GL.val (v := (.int .i64 (e + ((k.2 : Nat) : Int) - ((i + 1 : Nat) : Int)))) (Ex.assign rfl) (by decide) ?_
                      refine GL.nil ?_
                      refine GE.blockN ?_
                      refine GE.thenN ?_
                      exact Head.mk (i + 1) ⟨by rw [Bt.pow_step]; omega, by rw [Bt.pow_step]; omega, by omega⟩ (by rw [Bt.pow_step]; omega) ((sub_cons rfl ((sub_cons rfl ((sub_cons rfl ((sub_nil _)))))))) (List.nil_sublist _)
                    · replace hq59 := of_decide_eq_false hq59
                      refine GC.exit ?_
                      refine GE.thenE ?_
                      refine GE.thenE ?_
                      refine GE.blockE ?_
                      refine GE.thenN ?_
                      refine GC.seq ?_
                      refine GC.seq ?_
                      refine GC.region ?_
                      refine GL.val (v := (.int .i64 (e + ((k.2 : Nat) : Int) - ((i : Nat) : Int)))) (Ex.move rfl) (by decide) ?_
                      refine GL.val (v := (.bool (decide (104 < (e + ((k.2 : Nat) : Int) - ((i : Nat) : Int)))))) (Ex.gtr rfl rfl) (by decide) ?_
                      refine GL.nil ?_
                      refine GE.thenN ?_
                      refine GC.cond rfl (fun hq60 => ?_) (fun hq60 => ?_)
                      · replace hq60 := of_decide_eq_true hq60
                        refine GC.seq ?_
                        refine GC.region ?_
                        refine GL.val (v := (.int .u32 0)) (Ex.assign rfl) (by decide) ?_
                        refine GL.val (v := (.bool false)) (Ex.assign rfl) (by decide) ?_
                        refine GL.nil ?_
                        refine GE.thenN ?_
                        refine GC.ret ?_
                        refine GE.thenR ?_
                        refine GC.ret2 rfl (Rv.tmp rfl) (Rv.tmp rfl) (fun wN HN => ?_)
                        exact HN.ret (0, false) (Bt.FP.ref (s := k.1) (j := k.2) (i := i) (by omega) (by omega) (by rw [hp3]; congr 1; omega) (by omega) (by omega) (by omega) (by omega) (by omega) (Or.inl ⟨by omega, rfl, rfl⟩)) rfl (List.nil_sublist _) rfl
                      · replace hq60 := of_decide_eq_false hq60
                        refine GC.skip ?_
                        refine GE.thenN ?_
                        refine GC.seq ?_
                        refine GC.seq ?_
                        refine GC.region ?_
                        refine GL.val (v := (.int .i64 (k.1 * 2 ^ i))) (Ex.move rfl) (by decide) ?_
                        refine GL.val (v := (.bool (decide ((k.1 * 2 ^ i) < 8388608)))) (Ex.lss rfl rfl) (by decide) ?_
                        refine GL.nil ?_
                        refine GE.thenN ?_
                        refine GC.cond rfl (fun hq61 => ?_) (fun hq61 => ?_)
                        · replace hq61 := of_decide_eq_true hq61
                          refine GC.seq ?_
                          refine GC.region ?_
                          refine GL.val (v := (.int .i64 0)) (Ex.move rfl) (by decide) ?_
                          refine GL.val (v := (.int .i64 (k.1 * 2 ^ i))) (Ex.move rfl) (by decide) ?_
                          refine GL.val (v := (.int .i64 (0 + (k.1 * 2 ^ i)))) (Ex.add rfl rfl (Z := 0 + (k.1 * 2 ^ i)) (w64 (by omega))) (by decide) ?_
                          refine GL.val (v := (.int .u32 (0 + (k.1 * 2 ^ i)))) (Ex.conv rfl Try.underlying3 Try.underlying23 (Z := 0 + (k.1 * 2 ^ i)) (wu32b (by omega))) (by decide) ?_
                          refine GL.val (v := (.int .u32 (0 + (k.1 * 2 ^ i)))) (Ex.assign rfl) (by decide) ?_
                          refine GL.val (v := (.bool true)) (Ex.assign rfl) (by decide) ?_
                          refine GL.nil ?_
                          refine GE.thenN ?_
                          refine GC.ret ?_
                          refine GE.thenR ?_
                          refine GC.ret2 rfl (Rv.tmp rfl) (Rv.tmp rfl) (fun wN HN => ?_)
                          exact HN.ret (0 + (k.1 * 2 ^ i), true) (Bt.FP.ref (s := k.1) (j := k.2) (i := i) (by omega) (by omega) (by rw [hp3]; congr 1; omega) (by omega) (by omega) (by omega) (by omega) (by omega) (Or.inr ⟨by omega, rfl, by unfold Bt.sgn Bt.enc; first | (rw [if_pos (by omega), if_pos (by omega)] <;> omega) | (rw [if_pos (by omega), if_neg (by omega)] <;> omega) | (rw [if_neg (by omega), if_pos (by omega)] <;> omega) | (rw [if_neg (by omega), if_neg (by omega)] <;> omega)⟩)) rfl (List.nil_sublist _) rfl
                        · replace hq61 := of_decide_eq_false hq61
                          refine GC.skip ?_
                          refine GE.thenN ?_
                          refine GC.seq ?_
                          refine GC.region ?_
                          refine GL.val (v := (.int .i64 0)) (Ex.move rfl) (by decide) ?_
                          refine GL.val (v := (.int .i64 (e + ((k.2 : Nat) : Int) - ((i : Nat) : Int)))) (Ex.move rfl) (by decide) ?_
                          refine GL.val (v := (.int .i64 ((e + ((k.2 : Nat) : Int) - ((i : Nat) : Int)) + 150))) (Ex.add rfl rfl (Z := (e + ((k.2 : Nat) : Int) - ((i : Nat) : Int)) + 150) (w64 (by omega))) (by decide) ?_
                          refine GL.val (v := (.int .i64 (((e + ((k.2 : Nat) : Int) - ((i : Nat) : Int)) + 150) * 8388608))) (Ex.shl rfl (m := 23) rfl (by decide) (Z := ((e + ((k.2 : Nat) : Int) - ((i : Nat) : Int)) + 150) * 8388608) (w64 (by omega))) (by decide) ?_
                          refine GL.val (v := (.int .i64 (0 + (((e + ((k.2 : Nat) : Int) - ((i : Nat) : Int)) + 150) * 8388608)))) (Ex.add rfl rfl (Z := 0 + (((e + ((k.2 : Nat) : Int) - ((i : Nat) : Int)) + 150) * 8388608)) (w64 (by omega))) (by decide) ?_
                          refine GL.val (v := (.int .i64 (k.1 * 2 ^ i))) (Ex.move rfl) (by decide) ?_
                          refine GL.val (v := (.int .i64 ((0 + (((e + ((k.2 : Nat) : Int) - ((i : Nat) : Int)) + 150) * 8388608)) + (k.1 * 2 ^ i)))) (Ex.add rfl rfl (Z := (0 + (((e + ((k.2 : Nat) : Int) - ((i : Nat) : Int)) + 150) * 8388608)) + (k.1 * 2 ^ i)) (w64 (by omega))) (by decide) ?_
                          refine GL.val (v := (.int .i64 (((0 + (((e + ((k.2 : Nat) : Int) - ((i : Nat) : Int)) + 150) * 8388608)) + (k.1 * 2 ^ i)) - 8388608))) (Ex.sub' rfl rfl (Z := ((0 + (((e + ((k.2 : Nat) : Int) - ((i : Nat) : Int)) + 150) * 8388608)) + (k.1 * 2 ^ i)) - 8388608) (w64 (by omega))) (by decide) ?_
                          refine GL.val (v := (.int .u32 (((0 + (((e + ((k.2 : Nat) : Int) - ((i : Nat) : Int)) + 150) * 8388608)) + (k.1 * 2 ^ i)) - 8388608))) (Ex.conv rfl Try.underlying3 Try.underlying23 (Z := ((0 + (((e + ((k.2 : Nat) : Int) - ((i : Nat) : Int)) + 150) * 8388608)) + (k.1 * 2 ^ i)) - 8388608) (wu32b (by omega))) (by decide) ?_
                          refine GL.val (v := (.int .u32 (((0 + (((e + ((k.2 : Nat) : Int) - ((i : Nat) : Int)) + 150) * 8388608)) + (k.1 * 2 ^ i)) - 8388608))) (Ex.assign rfl) (by decide) ?_
                          refine GL.val (v := (.bool true)) (Ex.assign rfl) (by decide) ?_
                          refine GL.nil ?_
                          refine GE.thenN ?_
                          refine GC.ret ?_
                          refine GC.ret2 rfl (Rv.tmp rfl) (Rv.tmp rfl) (fun wN HN => ?_)
                          exact HN.ret (((0 + (((e + ((k.2 : Nat) : Int) - ((i : Nat) : Int)) + 150) * 8388608)) + (k.1 * 2 ^ i)) - 8388608, true) (Bt.FP.ref (s := k.1) (j := k.2) (i := i) (by omega) (by omega) (by rw [hp3]; congr 1; omega) (by omega) (by omega) (by omega) (by omega) (by omega) (Or.inr ⟨by omega, rfl, by unfold Bt.sgn Bt.enc; first | (rw [if_pos (by omega), if_pos (by omega)] <;> omega) | (rw [if_pos (by omega), if_neg (by omega)] <;> omega) | (rw [if_neg (by omega), if_pos (by omega)] <;> omega) | (rw [if_neg (by omega), if_neg (by omega)] <;> omega)⟩)) rfl (List.nil_sublist _) rfl
                  · refine GL.val (v := (.bool false)) (Ex.cast (Ex.lss rfl rfl) (congrArg Value.bool (decide_eq_false hq58))) (by decide) ?_
                    refine GL.val (v := (.bool false)) (Ex.move rfl) (by decide) ?_
                    refine GL.skipG (tj := 40) rfl rfl rfl (by decide) ?_
                    refine GL.skipG (tj := 40) rfl rfl rfl (by decide) ?_
                    refine GL.val (v := (.bool false)) (Ex.pickF rfl rfl) (by decide) ?_
                    refine GL.nil ?_
                    refine GE.thenN ?_
                    refine GC.cond rfl (fun hq62 => by cases hq62) (fun _ => ?_)
                    refine GC.exit ?_
                    refine GE.thenE ?_
                    refine GE.thenE ?_
                    refine GE.blockE ?_
                    refine GE.thenN ?_
                    refine GC.seq ?_
                    refine GC.seq ?_
                    refine GC.region ?_
                    refine GL.val (v := (.int .i64 (e + ((k.2 : Nat) : Int) - ((i : Nat) : Int)))) (Ex.move rfl) (by decide) ?_
                    refine GL.val (v := (.bool (decide (104 < (e + ((k.2 : Nat) : Int) - ((i : Nat) : Int)))))) (Ex.gtr rfl rfl) (by decide) ?_
                    refine GL.nil ?_
                    refine GE.thenN ?_
                    refine GC.cond rfl (fun hq63 => ?_) (fun hq63 => ?_)
                    · replace hq63 := of_decide_eq_true hq63
                      refine GC.seq ?_
                      refine GC.region ?_
                      refine GL.val (v := (.int .u32 0)) (Ex.assign rfl) (by decide) ?_
                      refine GL.val (v := (.bool false)) (Ex.assign rfl) (by decide) ?_
                      refine GL.nil ?_
                      refine GE.thenN ?_
                      refine GC.ret ?_
                      refine GE.thenR ?_
                      refine GC.ret2 rfl (Rv.tmp rfl) (Rv.tmp rfl) (fun wN HN => ?_)
                      exact HN.ret (0, false) (Bt.FP.ref (s := k.1) (j := k.2) (i := i) (by omega) (by omega) (by rw [hp3]; congr 1; omega) (by omega) (by omega) (by omega) (by omega) (by omega) (Or.inl ⟨by omega, rfl, rfl⟩)) rfl (List.nil_sublist _) rfl
                    · replace hq63 := of_decide_eq_false hq63
                      refine GC.skip ?_
                      refine GE.thenN ?_
                      refine GC.seq ?_
                      refine GC.seq ?_
                      refine GC.region ?_
                      refine GL.val (v := (.int .i64 (k.1 * 2 ^ i))) (Ex.move rfl) (by decide) ?_
                      refine GL.val (v := (.bool (decide ((k.1 * 2 ^ i) < 8388608)))) (Ex.lss rfl rfl) (by decide) ?_
                      refine GL.nil ?_
                      refine GE.thenN ?_
                      refine GC.cond rfl (fun hq64 => ?_) (fun hq64 => ?_)
                      · replace hq64 := of_decide_eq_true hq64
                        refine GC.seq ?_
                        refine GC.region ?_
                        refine GL.val (v := (.int .i64 0)) (Ex.move rfl) (by decide) ?_
                        refine GL.val (v := (.int .i64 (k.1 * 2 ^ i))) (Ex.move rfl) (by decide) ?_
                        refine GL.val (v := (.int .i64 (0 + (k.1 * 2 ^ i)))) (Ex.add rfl rfl (Z := 0 + (k.1 * 2 ^ i)) (w64 (by omega))) (by decide) ?_
                        refine GL.val (v := (.int .u32 (0 + (k.1 * 2 ^ i)))) (Ex.conv rfl Try.underlying3 Try.underlying23 (Z := 0 + (k.1 * 2 ^ i)) (wu32b (by omega))) (by decide) ?_
                        refine GL.val (v := (.int .u32 (0 + (k.1 * 2 ^ i)))) (Ex.assign rfl) (by decide) ?_
                        refine GL.val (v := (.bool true)) (Ex.assign rfl) (by decide) ?_
                        refine GL.nil ?_
                        refine GE.thenN ?_
                        refine GC.ret ?_
                        refine GE.thenR ?_
                        refine GC.ret2 rfl (Rv.tmp rfl) (Rv.tmp rfl) (fun wN HN => ?_)
                        exact HN.ret (0 + (k.1 * 2 ^ i), true) (Bt.FP.ref (s := k.1) (j := k.2) (i := i) (by omega) (by omega) (by rw [hp3]; congr 1; omega) (by omega) (by omega) (by omega) (by omega) (by omega) (Or.inr ⟨by omega, rfl, by unfold Bt.sgn Bt.enc; first | (rw [if_pos (by omega), if_pos (by omega)] <;> omega) | (rw [if_pos (by omega), if_neg (by omega)] <;> omega) | (rw [if_neg (by omega), if_pos (by omega)] <;> omega) | (rw [if_neg (by omega), if_neg (by omega)] <;> omega)⟩)) rfl (List.nil_sublist _) rfl
                      · replace hq64 := of_decide_eq_false hq64
                        refine GC.skip ?_
                        refine GE.thenN ?_
                        refine GC.seq ?_
                        refine GC.region ?_
                        refine GL.val (v := (.int .i64 0)) (Ex.move rfl) (by decide) ?_
                        refine GL.val (v := (.int .i64 (e + ((k.2 : Nat) : Int) - ((i : Nat) : Int)))) (Ex.move rfl) (by decide) ?_
                        refine GL.val (v := (.int .i64 ((e + ((k.2 : Nat) : Int) - ((i : Nat) : Int)) + 150))) (Ex.add rfl rfl (Z := (e + ((k.2 : Nat) : Int) - ((i : Nat) : Int)) + 150) (w64 (by omega))) (by decide) ?_
                        refine GL.val (v := (.int .i64 (((e + ((k.2 : Nat) : Int) - ((i : Nat) : Int)) + 150) * 8388608))) (Ex.shl rfl (m := 23) rfl (by decide) (Z := ((e + ((k.2 : Nat) : Int) - ((i : Nat) : Int)) + 150) * 8388608) (w64 (by omega))) (by decide) ?_
                        refine GL.val (v := (.int .i64 (0 + (((e + ((k.2 : Nat) : Int) - ((i : Nat) : Int)) + 150) * 8388608)))) (Ex.add rfl rfl (Z := 0 + (((e + ((k.2 : Nat) : Int) - ((i : Nat) : Int)) + 150) * 8388608)) (w64 (by omega))) (by decide) ?_
                        refine GL.val (v := (.int .i64 (k.1 * 2 ^ i))) (Ex.move rfl) (by decide) ?_
                        refine GL.val (v := (.int .i64 ((0 + (((e + ((k.2 : Nat) : Int) - ((i : Nat) : Int)) + 150) * 8388608)) + (k.1 * 2 ^ i)))) (Ex.add rfl rfl (Z := (0 + (((e + ((k.2 : Nat) : Int) - ((i : Nat) : Int)) + 150) * 8388608)) + (k.1 * 2 ^ i)) (w64 (by omega))) (by decide) ?_
                        refine GL.val (v := (.int .i64 (((0 + (((e + ((k.2 : Nat) : Int) - ((i : Nat) : Int)) + 150) * 8388608)) + (k.1 * 2 ^ i)) - 8388608))) (Ex.sub' rfl rfl (Z := ((0 + (((e + ((k.2 : Nat) : Int) - ((i : Nat) : Int)) + 150) * 8388608)) + (k.1 * 2 ^ i)) - 8388608) (w64 (by omega))) (by decide) ?_
                        refine GL.val (v := (.int .u32 (((0 + (((e + ((k.2 : Nat) : Int) - ((i : Nat) : Int)) + 150) * 8388608)) + (k.1 * 2 ^ i)) - 8388608))) (Ex.conv rfl Try.underlying3 Try.underlying23 (Z := ((0 + (((e + ((k.2 : Nat) : Int) - ((i : Nat) : Int)) + 150) * 8388608)) + (k.1 * 2 ^ i)) - 8388608) (wu32b (by omega))) (by decide) ?_
                        refine GL.val (v := (.int .u32 (((0 + (((e + ((k.2 : Nat) : Int) - ((i : Nat) : Int)) + 150) * 8388608)) + (k.1 * 2 ^ i)) - 8388608))) (Ex.assign rfl) (by decide) ?_
                        refine GL.val (v := (.bool true)) (Ex.assign rfl) (by decide) ?_
                        refine GL.nil ?_
                        refine GE.thenN ?_
                        refine GC.ret ?_
                        refine GC.ret2 rfl (Rv.tmp rfl) (Rv.tmp rfl) (fun wN HN => ?_)
                        exact HN.ret (((0 + (((e + ((k.2 : Nat) : Int) - ((i : Nat) : Int)) + 150) * 8388608)) + (k.1 * 2 ^ i)) - 8388608, true) (Bt.FP.ref (s := k.1) (j := k.2) (i := i) (by omega) (by omega) (by rw [hp3]; congr 1; omega) (by omega) (by omega) (by omega) (by omega) (by omega) (Or.inr ⟨by omega, rfl, by unfold Bt.sgn Bt.enc; first | (rw [if_pos (by omega), if_pos (by omega)] <;> omega) | (rw [if_pos (by omega), if_neg (by omega)] <;> omega) | (rw [if_neg (by omega), if_pos (by omega)] <;> omega) | (rw [if_neg (by omega), if_neg (by omega)] <;> omega)⟩)) rfl (List.nil_sublist _) rfl

end Go.Proofs.Ytnpmfinjommjkaa.B
