/- SpaceLog: what its code does, walked. -/
import Derived.Test.YtbhjadkgeadpiaaKLog1
namespace Go.Proofs.Ytbhjadkgeadpiaa.C
open Go Go.RowKit Sx
set_option linter.unusedVariables false
set_option maxRecDepth 100000 in
set_option maxHeartbeats 1000000 in
theorem down_low (v b c : Nat) (n : Nat) (w : World) (hv : 0 < v ∧ v < 4294967296) (hc : Rd w b 0 [.int .u32 ((v : Nat) : Int)]) (hn : n < 32) (hq : v / 2 ^ n = 0) :
    Calls Try.prog 77 #[(.slice (some ⟨b, 0, none⟩) 1 c), (.int .i64 (((n : Nat) : Int)))] w (Ret w (fun _ : Nat × Bool => True) (fun z => .tuple #[(.slice (some ⟨z.1, 0, none⟩) 0 1), .bool z.2]) (fun z => [⟨z.1, [(.int .u32 (((v / 2 ^ n : Nat) : Int)))], 23, true⟩])) := by
  have hle : v / 2 ^ n ≤ v := Nat.div_le_self _ _
  have hge : (0 : Int) ≤ ((v / 2 ^ n : Nat) : Int) := Int.natCast_nonneg _
  have hqi : ((v / 2 ^ n : Nat) : Int) = 0 := by rw [hq]; rfl
  refine enter (M := None) (L := []) (n := 88) (l := [(0, (.slice (some ⟨b, 0, none⟩) 1 c)), (1, (.int .i64 (((n : Nat) : Int))))]) Try.func77 rfl rfl (Args.cons rfl (Args.cons rfl (Args.nil _))) (Hp.start _ _) ?_
  refine GC.seq ?_
  refine GC.region ?_
  refine GL.val (Ex.assign rfl) (by decide) ?_
  refine GL.val (Ex.assign rfl) (by decide) ?_
  refine GL.nil ?_
  refine GE.thenN ?_
  refine GC.seq ?_
  refine GC.region ?_
  refine GL.val (Ex.assign rfl) (by decide) ?_
  refine GL.nil ?_
  refine GE.thenN ?_
  refine GC.seq ?_
  refine GC.seq ?_
  refine GC.region ?_
  refine GL.val (Ex.assign rfl) (by decide) ?_
  refine GL.nil ?_
  refine GE.thenN ?_
  refine GC.block ?_
  refine GC.loop (σ := Nat × Bool) (fun q => q.1 ≤ n ∧ q.1 ≤ 32) (fun q => [(0, (.slice (some ⟨b, 0, none⟩) 1 c)), (1, (.int .i64 (((n : Nat) : Int)))), (4, (.slice none 0 0)), (5, (.bool false)), (6, (.bool q.2)), (7, (.int .i64 (((q.1 : Nat) : Int))))]) (fun q => []) (fun q => 32 - q.1) ((0, false)) ⟨Nat.zero_le _, by decide⟩ ((sub_cons rfl ((sub_cons rfl ((sub_cons rfl ((sub_cons rfl ((sub_cons rfl ((sub_cons rfl ((sub_nil _)))))))))))))) ulN (fun q hp => ?_)
  obtain ⟨i, rb⟩ := q
  have hpi : i ≤ n ∧ i ≤ 32 := hp
  refine GC.seq ?_
  refine GC.seq ?_
  refine GC.region ?_
  refine GL.val (Ex.move rfl) (by decide) ?_
  refine GL.val (Ex.move rfl) (by decide) ?_
  by_cases hq1 : (((i : Nat) : Int)) < (((n : Nat) : Int))
  · refine GL.val (v := (.bool true)) (Ex.cast (Ex.lss rfl rfl) (congrArg Value.bool (decide_eq_true hq1))) (by decide) ?_
    refine GL.val (Ex.move rfl) (by decide) ?_
    refine GL.stepG (tj := 14) rfl rfl (Ex.wp (v := (.int .i64 (((i : Nat) : Int)))) (Ex.move rfl) (by decide)) (fun _ _ => ?_)
    refine GL.stepG (tj := 14) rfl rfl (Ex.wp (v := (.slice (some ⟨b, 0, none⟩) 1 c)) (Ex.move rfl) (by decide)) (fun _ _ => ?_)
    refine GL.stepG (tj := 14) rfl rfl (Ex.wp (v := (.int .i64 1)) (Ex.len rfl Try.underlying36) (by decide)) (fun _ _ => ?_)
    refine GL.stepG (tj := 14) rfl rfl (Ex.wp (v := (.int .i64 32)) (Ex.mul rfl rfl (Z := 32) (by decide)) (by decide)) (fun _ _ => ?_)
    refine GL.stepG (tj := 14) rfl rfl (Ex.wp (v := (.bool (decide ((((i : Nat) : Int)) < 32)))) (Ex.lss rfl rfl) (by decide)) (fun _ _ => ?_)
    refine GL.val (v := (.bool (decide ((((i : Nat) : Int)) < 32)))) (Ex.pickT rfl rfl) (by decide) ?_
    refine GL.nil ?_
    refine GE.thenN ?_
    refine GC.cond rfl (fun hq2 => ?_) (fun hq2 => ?_)
    · replace hq2 := of_decide_eq_true hq2
      refine GC.skip ?_
      refine GE.thenN ?_
      refine GC.seq ?_
      refine GC.block ?_
      refine GC.region ?_
      by_cases hq3 : rb = true
      · refine GL.val (v := (.bool true)) (Ex.cast (Ex.move rfl) (congrArg Value.bool (hq3))) (by decide) ?_
        refine GL.val (Ex.move rfl) (by decide) ?_
        refine GL.skipG (tj := 24) rfl rfl rfl (by decide) ?_
        refine GL.skipG (tj := 24) rfl rfl rfl (by decide) ?_
        refine GL.skipG (tj := 24) rfl rfl rfl (by decide) ?_
        refine GL.skipG (tj := 24) rfl rfl rfl (by decide) ?_
        refine GL.val (v := (.bool true)) (Ex.pickT rfl rfl) (by decide) ?_
        refine GL.val (Ex.assign rfl) (by decide) ?_
        refine GL.nil ?_
        refine GE.blockN ?_
        refine GE.thenN ?_
        refine GC.region ?_
        refine GL.val (Ex.move rfl) (by decide) ?_
        refine GL.val (v := (.int .i64 (((i + 1 : Nat) : Int)))) (Ex.add rfl rfl (Z := ((i + 1 : Nat) : Int)) (w64 (by omega))) (by decide) ?_
        refine GL.val (Ex.assign rfl) (by decide) ?_
        refine GL.nil ?_
        refine GE.thenN ?_
        exact Head.mk ((i + 1, true)) ⟨(by show i + 1 ≤ n; omega), (by show i + 1 ≤ 32; omega)⟩ (by show 32 - (i + 1) < 32 - i; omega) ((sub_cons rfl ((sub_cons rfl ((sub_cons rfl ((sub_cons rfl ((sub_cons rfl ((sub_cons rfl ((sub_nil _)))))))))))))) ulN
      · refine GL.val (v := (.bool false)) (Ex.cast (Ex.move rfl) (congrArg Value.bool ((Bool.eq_false_iff.2 hq3)))) (by decide) ?_
        refine GL.val (Ex.move rfl) (by decide) ?_
        refine GL.stepG (tj := 24) rfl rfl (Ex.wp (v := (.slice (some ⟨b, 0, none⟩) 1 c)) (Ex.move rfl) (by decide)) (fun _ _ => ?_)
        refine GL.stepG (tj := 24) rfl rfl (Ex.wp (v := (.int .i64 (((i : Nat) : Int)))) (Ex.move rfl) (by decide)) (fun _ _ => ?_)
        refine GL.stepG (tj := 24) rfl rfl (Stp.callR (vs := [(.slice (some ⟨b, 0, none⟩) 1 c), (.int .i64 (((i : Nat) : Int)))]) rfl rfl T.own78 (by decide) (fun wc hw => bit_p v b c i wc hv (hw.rd hc (fun x => x)) (by omega))) (fun xq4 hq5 => ?_)
        refine GL.stepG (tj := 24) rfl rfl (Ex.wp (v := (.bool (decide ((((Lg.bt v i : Nat) : Int)) = 1)))) (Ex.eql rfl rfl) (by decide)) (fun _ _ => ?_)
        refine GL.val (v := (.bool (decide ((((Lg.bt v i : Nat) : Int)) = 1)))) (Ex.pickF rfl rfl) (by decide) ?_
        refine GL.val (Ex.assign rfl) (by decide) ?_
        refine GL.nil ?_
        refine GE.blockN ?_
        refine GE.thenN ?_
        refine GC.region ?_
        refine GL.val (Ex.move rfl) (by decide) ?_
        refine GL.val (v := (.int .i64 (((i + 1 : Nat) : Int)))) (Ex.add rfl rfl (Z := ((i + 1 : Nat) : Int)) (w64 (by omega))) (by decide) ?_
        refine GL.val (Ex.assign rfl) (by decide) ?_
        refine GL.nil ?_
        refine GE.thenN ?_
        exact Head.mk ((i + 1, decide ((((Lg.bt v i : Nat) : Int)) = 1))) ⟨(by show i + 1 ≤ n; omega), (by show i + 1 ≤ 32; omega)⟩ (by show 32 - (i + 1) < 32 - i; omega) ((sub_cons rfl ((sub_cons rfl ((sub_cons rfl ((sub_cons rfl ((sub_cons rfl ((sub_cons rfl ((sub_nil _)))))))))))))) ulN
    · replace hq2 := of_decide_eq_false hq2
      refine GC.exit ?_
      refine GE.thenE ?_
      refine GE.thenE ?_
      refine GE.blockE ?_
      refine GE.thenN ?_
      refine GC.seq ?_
      refine GC.seq ?_
      refine GC.region ?_
      refine GL.val (Ex.move rfl) (by decide) ?_
      refine GL.val (Ex.move rfl) (by decide) ?_
      refine GL.val (v := (.int .i64 1)) (Ex.len rfl Try.underlying36) (by decide) ?_
      refine GL.val (v := (.int .i64 32)) (Ex.mul rfl rfl (Z := 32) (by decide)) (by decide) ?_
      refine GL.val (v := (.bool false)) (Ex.cast (Ex.geq rfl rfl) (congrArg Value.bool (decide_eq_false (by omega)))) (by decide) ?_
      refine GL.nil ?_
      refine GE.thenN ?_
      refine GC.cond rfl (fun hq6 => by cases hq6) (fun _ => ?_)
      refine GC.skip ?_
      refine GE.thenN ?_
      refine GC.seq ?_
      refine GC.region ?_
      refine GL.val (Ex.move rfl) (by decide) ?_
      refine GL.val (v := (.int .i64 1)) (Ex.len rfl Try.underlying36) (by decide) ?_
      refine GL.val (Ex.move rfl) (by decide) ?_
      refine GL.val (v := (.int .i64 0)) (Ex.quo rfl rfl (Z := 0) (by decide) (Lg.q32 (by omega))) (by decide) ?_
      refine GL.val (v := (.int .i64 1)) (Ex.sub' rfl rfl (Z := 1) (by decide)) (by decide) ?_
      refine GL.step (Stp.makeSlice (a1 := 1) (c := 1) rfl rfl Try.underlying36 T.zr23 T.sz23 T.by23 rfl (by decide) (by decide) (by decide) (by decide)) (fun bq7 _ => ?_)
      rw [madeOne]
      refine GL.val (Ex.assign rfl) (by decide) ?_
      refine GL.nil ?_
      refine GE.thenN ?_
      refine GC.seq ?_
      refine GC.seq ?_
      refine GC.region ?_
      refine GL.val (Ex.assign rfl) (by decide) ?_
      refine GL.nil ?_
      refine GE.thenN ?_
      refine GC.block ?_
      refine GC.unroll 2 ?_
      refine GE.round ?_
      refine GC.seq ?_
      refine GC.seq ?_
      refine GC.region ?_
      refine GL.val (Ex.move rfl) (by decide) ?_
      refine GL.val (Ex.move rfl) (by decide) ?_
      refine GL.val (v := (.int .i64 1)) (Ex.len rfl Try.underlying36) (by decide) ?_
      refine GL.val (v := (.bool true)) (Ex.cast (Ex.lss rfl rfl) rfl) (by decide) ?_
      refine GL.nil ?_
      refine GE.thenN ?_
      refine GC.cond rfl (fun _ => ?_) (fun hq8 => by cases hq8)
      refine GC.skip ?_
      refine GE.thenN ?_
      refine GC.seq ?_
      refine GC.block ?_
      refine GC.seq ?_
      refine GC.region ?_
      refine GL.val (Ex.move rfl) (by decide) ?_
      refine GL.val (Ex.move rfl) (by decide) ?_
      refine GL.val (Ex.move rfl) (by decide) ?_
      refine GL.val (v := (.int .i64 0)) (Ex.quo rfl rfl (Z := 0) (by decide) (Lg.q32 (by omega))) (by decide) ?_
      refine GL.val (v := (.int .i64 0)) (Ex.add rfl rfl (Z := 0) (by decide)) (by decide) ?_
      refine GL.val (v := (.pointer (some ⟨b, 0, none⟩))) (Ex.cast (Ex.indexAddr rfl rfl Try.underlying36 T.sz23 (by omega) (by omega)) rfl) (by decide) ?_
      refine GL.val (v := (.int .u32 (((v : Nat) : Int)))) (Ex.loadO rfl T.ag23 (hc 0 _ rfl) (fun x => x)) (by decide) ?_
      refine GL.val (v := (.int .u64 (((v : Nat) : Int)))) (Ex.conv rfl Try.underlying23 Try.underlying70 (Z := ((v : Nat) : Int)) (wu64b (by omega))) (by decide) ?_
      refine GL.val (Ex.assign rfl) (by decide) ?_
      refine GL.nil ?_
      refine GE.thenN ?_
      refine GC.seq ?_
      refine GC.seq ?_
      refine GC.region ?_
      refine GL.val (Ex.move rfl) (by decide) ?_
      refine GL.val (Ex.move rfl) (by decide) ?_
      refine GL.val (v := (.int .i64 0)) (Ex.quo rfl rfl (Z := 0) (by decide) (Lg.q32 (by omega))) (by decide) ?_
      refine GL.val (v := (.int .i64 0)) (Ex.add rfl rfl (Z := 0) (by decide)) (by decide) ?_
      refine GL.val (v := (.int .i64 1)) (Ex.add rfl rfl (Z := 1) (by decide)) (by decide) ?_
      refine GL.val (Ex.move rfl) (by decide) ?_
      refine GL.val (v := (.int .i64 1)) (Ex.len rfl Try.underlying36) (by decide) ?_
      refine GL.val (v := (.bool false)) (Ex.cast (Ex.lss rfl rfl) rfl) (by decide) ?_
      refine GL.nil ?_
      refine GE.thenN ?_
      refine GC.cond rfl (fun hq9 => by cases hq9) (fun _ => ?_)
      refine GC.skip ?_
      refine GE.thenN ?_
      refine GC.region ?_
      refine GL.val (Ex.move rfl) (by decide) ?_
      refine GL.val (Ex.move rfl) (by decide) ?_
      refine GL.val (Ex.move rfl) (by decide) ?_
      refine GL.val (Ex.move rfl) (by decide) ?_
      refine GL.val (v := (.int .i64 (((n : Nat) : Int)))) (Ex.rem rfl rfl (Z := ((n : Nat) : Int)) (by decide) (by rw [Int.tmod_eq_emod_of_nonneg (by omega)]; omega)) (by decide) ?_
      refine GL.val (v := (.int .u64 (((v / 2 ^ n : Nat) : Int)))) (Ex.shr rfl (m := n) rfl (by show n ≤ 64; omega) (Z := ((v / 2 ^ n : Nat) : Int)) (Lg.shr_nat v n)) (by decide) ?_
      refine GL.val (v := (.int .u64 (((v / 2 ^ n : Nat) : Int)))) (Ex.bits rfl rfl (by simp) (Z := ((v / 2 ^ n : Nat) : Int)) (andm64 32 (by omega) (by omega) (by omega) (by omega) rfl)) (by decide) ?_
      refine GL.val (v := (.int .u32 (((v / 2 ^ n : Nat) : Int)))) (Ex.conv rfl Try.underlying70 Try.underlying23 (Z := ((v / 2 ^ n : Nat) : Int)) (wu32b (by omega))) (by decide) ?_
      refine GL.val (v := (.pointer (some ⟨bq7, 0, none⟩))) (Ex.cast (Ex.indexAddr rfl rfl Try.underlying36 T.sz23 (by omega) (by omega)) rfl) (by decide) ?_
      refine GL.step (Stp.st0 (cs' := [(.int .u32 (((v / 2 ^ n : Nat) : Int)))]) rfl rfl rfl T.sz23 rfl rfl rfl) (fun _ _ => ?_)
      refine GL.nil ?_
      refine GE.blockN ?_
      refine GE.thenN ?_
      refine GC.region ?_
      refine GL.val (Ex.move rfl) (by decide) ?_
      refine GL.val (v := (.int .i64 1)) (Ex.add rfl rfl (Z := 1) (by decide)) (by decide) ?_
      refine GL.val (Ex.assign rfl) (by decide) ?_
      refine GL.nil ?_
      refine GE.thenN ?_
      refine GE.round ?_
      refine GC.seq ?_
      refine GC.seq ?_
      refine GC.region ?_
      refine GL.val (Ex.move rfl) (by decide) ?_
      refine GL.val (Ex.move rfl) (by decide) ?_
      refine GL.val (v := (.int .i64 1)) (Ex.len rfl Try.underlying36) (by decide) ?_
      refine GL.val (v := (.bool false)) (Ex.cast (Ex.lss rfl rfl) rfl) (by decide) ?_
      refine GL.nil ?_
      refine GE.thenN ?_
      refine GC.cond rfl (fun hq10 => by cases hq10) (fun _ => ?_)
      refine GC.exit ?_
      refine GE.thenE ?_
      refine GE.thenE ?_
      refine GE.blockE ?_
      refine GE.thenN ?_
      refine GC.seq ?_
      refine GC.region ?_
      refine GL.val (Ex.move rfl) (by decide) ?_
      refine GL.step (Stp.callR (σ := Unit) (p := fun rz => True) (v := fun rz => (.slice (some ⟨bq7, 0, none⟩) 0 1)) (N := fun rz => []) (vs := [(.slice (some ⟨bq7, 0, none⟩) 1 1)]) rfl rfl T.own63 (by decide) (fun wc hw => (by have h := trim1 bq7 (((v / 2 ^ n : Nat) : Int)) wc (Has.cons (hw.hasOf (i := 0) rfl) (Has.nil _)); rw [if_pos (by omega)] at h; exact h))) (fun xq11 hq12 => ?_)
      refine GL.val (Ex.move rfl) (by decide) ?_
      refine GL.val (Ex.assign rfl) (by decide) ?_
      refine GL.val (Ex.assign rfl) (by decide) ?_
      refine GL.nil ?_
      refine GE.thenN ?_
      refine GC.ret ?_
      refine GC.ret2 rfl (Rv.tmp rfl) (Rv.tmp rfl) (fun wN HN => ?_)
      exact HN.ret (bq7, rb) trivial rfl (ulC ulN) rfl
  · refine GL.val (v := (.bool false)) (Ex.cast (Ex.lss rfl rfl) (congrArg Value.bool (decide_eq_false hq1))) (by decide) ?_
    refine GL.val (Ex.move rfl) (by decide) ?_
    refine GL.skipG (tj := 14) rfl rfl rfl (by decide) ?_
    refine GL.skipG (tj := 14) rfl rfl rfl (by decide) ?_
    refine GL.skipG (tj := 14) rfl rfl rfl (by decide) ?_
    refine GL.skipG (tj := 14) rfl rfl rfl (by decide) ?_
    refine GL.skipG (tj := 14) rfl rfl rfl (by decide) ?_
    refine GL.val (v := (.bool false)) (Ex.pickF rfl rfl) (by decide) ?_
    refine GL.nil ?_
    refine GE.thenN ?_
    refine GC.cond rfl (fun hq13 => by cases hq13) (fun _ => ?_)
    refine GC.exit ?_
    refine GE.thenE ?_
    refine GE.thenE ?_
    refine GE.blockE ?_
    refine GE.thenN ?_
    refine GC.seq ?_
    refine GC.seq ?_
    refine GC.region ?_
    refine GL.val (Ex.move rfl) (by decide) ?_
    refine GL.val (Ex.move rfl) (by decide) ?_
    refine GL.val (v := (.int .i64 1)) (Ex.len rfl Try.underlying36) (by decide) ?_
    refine GL.val (v := (.int .i64 32)) (Ex.mul rfl rfl (Z := 32) (by decide)) (by decide) ?_
    refine GL.val (v := (.bool false)) (Ex.cast (Ex.geq rfl rfl) (congrArg Value.bool (decide_eq_false (by omega)))) (by decide) ?_
    refine GL.nil ?_
    refine GE.thenN ?_
    refine GC.cond rfl (fun hq14 => by cases hq14) (fun _ => ?_)
    refine GC.skip ?_
    refine GE.thenN ?_
    refine GC.seq ?_
    refine GC.region ?_
    refine GL.val (Ex.move rfl) (by decide) ?_
    refine GL.val (v := (.int .i64 1)) (Ex.len rfl Try.underlying36) (by decide) ?_
    refine GL.val (Ex.move rfl) (by decide) ?_
    refine GL.val (v := (.int .i64 0)) (Ex.quo rfl rfl (Z := 0) (by decide) (Lg.q32 (by omega))) (by decide) ?_
    refine GL.val (v := (.int .i64 1)) (Ex.sub' rfl rfl (Z := 1) (by decide)) (by decide) ?_
    refine GL.step (Stp.makeSlice (a1 := 1) (c := 1) rfl rfl Try.underlying36 T.zr23 T.sz23 T.by23 rfl (by decide) (by decide) (by decide) (by decide)) (fun bq15 _ => ?_)
    rw [madeOne]
    refine GL.val (Ex.assign rfl) (by decide) ?_
    refine GL.nil ?_
    refine GE.thenN ?_
    refine GC.seq ?_
    refine GC.seq ?_
    refine GC.region ?_
    refine GL.val (Ex.assign rfl) (by decide) ?_
    refine GL.nil ?_
    refine GE.thenN ?_
    refine GC.block ?_
    refine GC.unroll 2 ?_
    refine GE.round ?_
    refine GC.seq ?_
    refine GC.seq ?_
    refine GC.region ?_
    refine GL.val (Ex.move rfl) (by decide) ?_
    refine GL.val (Ex.move rfl) (by decide) ?_
    refine GL.val (v := (.int .i64 1)) (Ex.len rfl Try.underlying36) (by decide) ?_
    refine GL.val (v := (.bool true)) (Ex.cast (Ex.lss rfl rfl) rfl) (by decide) ?_
    refine GL.nil ?_
    refine GE.thenN ?_
    refine GC.cond rfl (fun _ => ?_) (fun hq16 => by cases hq16)
    refine GC.skip ?_
    refine GE.thenN ?_
    refine GC.seq ?_
    refine GC.block ?_
    refine GC.seq ?_
    refine GC.region ?_
    refine GL.val (Ex.move rfl) (by decide) ?_
    refine GL.val (Ex.move rfl) (by decide) ?_
    refine GL.val (Ex.move rfl) (by decide) ?_
    refine GL.val (v := (.int .i64 0)) (Ex.quo rfl rfl (Z := 0) (by decide) (Lg.q32 (by omega))) (by decide) ?_
    refine GL.val (v := (.int .i64 0)) (Ex.add rfl rfl (Z := 0) (by decide)) (by decide) ?_
    refine GL.val (v := (.pointer (some ⟨b, 0, none⟩))) (Ex.cast (Ex.indexAddr rfl rfl Try.underlying36 T.sz23 (by omega) (by omega)) rfl) (by decide) ?_
    refine GL.val (v := (.int .u32 (((v : Nat) : Int)))) (Ex.loadO rfl T.ag23 (hc 0 _ rfl) (fun x => x)) (by decide) ?_
    refine GL.val (v := (.int .u64 (((v : Nat) : Int)))) (Ex.conv rfl Try.underlying23 Try.underlying70 (Z := ((v : Nat) : Int)) (wu64b (by omega))) (by decide) ?_
    refine GL.val (Ex.assign rfl) (by decide) ?_
    refine GL.nil ?_
    refine GE.thenN ?_
    refine GC.seq ?_
    refine GC.seq ?_
    refine GC.region ?_
    refine GL.val (Ex.move rfl) (by decide) ?_
    refine GL.val (Ex.move rfl) (by decide) ?_
    refine GL.val (v := (.int .i64 0)) (Ex.quo rfl rfl (Z := 0) (by decide) (Lg.q32 (by omega))) (by decide) ?_
    refine GL.val (v := (.int .i64 0)) (Ex.add rfl rfl (Z := 0) (by decide)) (by decide) ?_
    refine GL.val (v := (.int .i64 1)) (Ex.add rfl rfl (Z := 1) (by decide)) (by decide) ?_
    refine GL.val (Ex.move rfl) (by decide) ?_
    refine GL.val (v := (.int .i64 1)) (Ex.len rfl Try.underlying36) (by decide) ?_
    refine GL.val (v := (.bool false)) (Ex.cast (Ex.lss rfl rfl) rfl) (by decide) ?_
    refine GL.nil ?_
    refine GE.thenN ?_
    refine GC.cond rfl (fun hq17 => by cases hq17) (fun _ => ?_)
    refine GC.skip ?_
    refine GE.thenN ?_
    refine GC.region ?_
    refine GL.val (Ex.move rfl) (by decide) ?_
    refine GL.val (Ex.move rfl) (by decide) ?_
    refine GL.val (Ex.move rfl) (by decide) ?_
    refine GL.val (Ex.move rfl) (by decide) ?_
    refine GL.val (v := (.int .i64 (((n : Nat) : Int)))) (Ex.rem rfl rfl (Z := ((n : Nat) : Int)) (by decide) (by rw [Int.tmod_eq_emod_of_nonneg (by omega)]; omega)) (by decide) ?_
    refine GL.val (v := (.int .u64 (((v / 2 ^ n : Nat) : Int)))) (Ex.shr rfl (m := n) rfl (by show n ≤ 64; omega) (Z := ((v / 2 ^ n : Nat) : Int)) (Lg.shr_nat v n)) (by decide) ?_
    refine GL.val (v := (.int .u64 (((v / 2 ^ n : Nat) : Int)))) (Ex.bits rfl rfl (by simp) (Z := ((v / 2 ^ n : Nat) : Int)) (andm64 32 (by omega) (by omega) (by omega) (by omega) rfl)) (by decide) ?_
    refine GL.val (v := (.int .u32 (((v / 2 ^ n : Nat) : Int)))) (Ex.conv rfl Try.underlying70 Try.underlying23 (Z := ((v / 2 ^ n : Nat) : Int)) (wu32b (by omega))) (by decide) ?_
    refine GL.val (v := (.pointer (some ⟨bq15, 0, none⟩))) (Ex.cast (Ex.indexAddr rfl rfl Try.underlying36 T.sz23 (by omega) (by omega)) rfl) (by decide) ?_
    refine GL.step (Stp.st0 (cs' := [(.int .u32 (((v / 2 ^ n : Nat) : Int)))]) rfl rfl rfl T.sz23 rfl rfl rfl) (fun _ _ => ?_)
    refine GL.nil ?_
    refine GE.blockN ?_
    refine GE.thenN ?_
    refine GC.region ?_
    refine GL.val (Ex.move rfl) (by decide) ?_
    refine GL.val (v := (.int .i64 1)) (Ex.add rfl rfl (Z := 1) (by decide)) (by decide) ?_
    refine GL.val (Ex.assign rfl) (by decide) ?_
    refine GL.nil ?_
    refine GE.thenN ?_
    refine GE.round ?_
    refine GC.seq ?_
    refine GC.seq ?_
    refine GC.region ?_
    refine GL.val (Ex.move rfl) (by decide) ?_
    refine GL.val (Ex.move rfl) (by decide) ?_
    refine GL.val (v := (.int .i64 1)) (Ex.len rfl Try.underlying36) (by decide) ?_
    refine GL.val (v := (.bool false)) (Ex.cast (Ex.lss rfl rfl) rfl) (by decide) ?_
    refine GL.nil ?_
    refine GE.thenN ?_
    refine GC.cond rfl (fun hq18 => by cases hq18) (fun _ => ?_)
    refine GC.exit ?_
    refine GE.thenE ?_
    refine GE.thenE ?_
    refine GE.blockE ?_
    refine GE.thenN ?_
    refine GC.seq ?_
    refine GC.region ?_
    refine GL.val (Ex.move rfl) (by decide) ?_
    refine GL.step (Stp.callR (σ := Unit) (p := fun rz => True) (v := fun rz => (.slice (some ⟨bq15, 0, none⟩) 0 1)) (N := fun rz => []) (vs := [(.slice (some ⟨bq15, 0, none⟩) 1 1)]) rfl rfl T.own63 (by decide) (fun wc hw => (by have h := trim1 bq15 (((v / 2 ^ n : Nat) : Int)) wc (Has.cons (hw.hasOf (i := 0) rfl) (Has.nil _)); rw [if_pos (by omega)] at h; exact h))) (fun xq19 hq20 => ?_)
    refine GL.val (Ex.move rfl) (by decide) ?_
    refine GL.val (Ex.assign rfl) (by decide) ?_
    refine GL.val (Ex.assign rfl) (by decide) ?_
    refine GL.nil ?_
    refine GE.thenN ?_
    refine GC.ret ?_
    refine GC.ret2 rfl (Rv.tmp rfl) (Rv.tmp rfl) (fun wN HN => ?_)
    exact HN.ret (bq15, rb) trivial rfl (ulC ulN) rfl

set_option maxRecDepth 100000 in
set_option maxHeartbeats 1000000 in
theorem down_far (v b c : Nat) (n : Nat) (w : World) (hv : 0 < v ∧ v < 4294967296) (hc : Rd w b 0 [.int .u32 ((v : Nat) : Int)]) (hn : 32 ≤ n ∧ n ≤ 1000) :
    Calls Try.prog 77 #[(.slice (some ⟨b, 0, none⟩) 1 c), (.int .i64 (((n : Nat) : Int)))] w (Ret w (fun _ : Bool => True) (fun z => .tuple #[.slice none 0 0, .bool z]) (fun _ => [])) := by
  refine enter (M := None) (L := []) (n := 88) (l := [(0, (.slice (some ⟨b, 0, none⟩) 1 c)), (1, (.int .i64 (((n : Nat) : Int))))]) Try.func77 rfl rfl (Args.cons rfl (Args.cons rfl (Args.nil _))) (Hp.start _ _) ?_
  refine GC.seq ?_
  refine GC.region ?_
  refine GL.val (Ex.assign rfl) (by decide) ?_
  refine GL.val (Ex.assign rfl) (by decide) ?_
  refine GL.nil ?_
  refine GE.thenN ?_
  refine GC.seq ?_
  refine GC.region ?_
  refine GL.val (Ex.assign rfl) (by decide) ?_
  refine GL.nil ?_
  refine GE.thenN ?_
  refine GC.seq ?_
  refine GC.seq ?_
  refine GC.region ?_
  refine GL.val (Ex.assign rfl) (by decide) ?_
  refine GL.nil ?_
  refine GE.thenN ?_
  refine GC.block ?_
  refine GC.loop (σ := Nat × Bool) (fun q => q.1 ≤ n ∧ q.1 ≤ 32) (fun q => [(0, (.slice (some ⟨b, 0, none⟩) 1 c)), (1, (.int .i64 (((n : Nat) : Int)))), (4, (.slice none 0 0)), (5, (.bool false)), (6, (.bool q.2)), (7, (.int .i64 (((q.1 : Nat) : Int))))]) (fun q => []) (fun q => 32 - q.1) ((0, false)) ⟨Nat.zero_le _, by decide⟩ ((sub_cons rfl ((sub_cons rfl ((sub_cons rfl ((sub_cons rfl ((sub_cons rfl ((sub_cons rfl ((sub_nil _)))))))))))))) ulN (fun q hp => ?_)
  obtain ⟨i, rb⟩ := q
  have hpi : i ≤ n ∧ i ≤ 32 := hp
  refine GC.seq ?_
  refine GC.seq ?_
  refine GC.region ?_
  refine GL.val (Ex.move rfl) (by decide) ?_
  refine GL.val (Ex.move rfl) (by decide) ?_
  by_cases hq1 : (((i : Nat) : Int)) < (((n : Nat) : Int))
  · refine GL.val (v := (.bool true)) (Ex.cast (Ex.lss rfl rfl) (congrArg Value.bool (decide_eq_true hq1))) (by decide) ?_
    refine GL.val (Ex.move rfl) (by decide) ?_
    refine GL.stepG (tj := 14) rfl rfl (Ex.wp (v := (.int .i64 (((i : Nat) : Int)))) (Ex.move rfl) (by decide)) (fun _ _ => ?_)
    refine GL.stepG (tj := 14) rfl rfl (Ex.wp (v := (.slice (some ⟨b, 0, none⟩) 1 c)) (Ex.move rfl) (by decide)) (fun _ _ => ?_)
    refine GL.stepG (tj := 14) rfl rfl (Ex.wp (v := (.int .i64 1)) (Ex.len rfl Try.underlying36) (by decide)) (fun _ _ => ?_)
    refine GL.stepG (tj := 14) rfl rfl (Ex.wp (v := (.int .i64 32)) (Ex.mul rfl rfl (Z := 32) (by decide)) (by decide)) (fun _ _ => ?_)
    refine GL.stepG (tj := 14) rfl rfl (Ex.wp (v := (.bool (decide ((((i : Nat) : Int)) < 32)))) (Ex.lss rfl rfl) (by decide)) (fun _ _ => ?_)
    refine GL.val (v := (.bool (decide ((((i : Nat) : Int)) < 32)))) (Ex.pickT rfl rfl) (by decide) ?_
    refine GL.nil ?_
    refine GE.thenN ?_
    refine GC.cond rfl (fun hq2 => ?_) (fun hq2 => ?_)
    · replace hq2 := of_decide_eq_true hq2
      refine GC.skip ?_
      refine GE.thenN ?_
      refine GC.seq ?_
      refine GC.block ?_
      refine GC.region ?_
      by_cases hq3 : rb = true
      · refine GL.val (v := (.bool true)) (Ex.cast (Ex.move rfl) (congrArg Value.bool (hq3))) (by decide) ?_
        refine GL.val (Ex.move rfl) (by decide) ?_
        refine GL.skipG (tj := 24) rfl rfl rfl (by decide) ?_
        refine GL.skipG (tj := 24) rfl rfl rfl (by decide) ?_
        refine GL.skipG (tj := 24) rfl rfl rfl (by decide) ?_
        refine GL.skipG (tj := 24) rfl rfl rfl (by decide) ?_
        refine GL.val (v := (.bool true)) (Ex.pickT rfl rfl) (by decide) ?_
        refine GL.val (Ex.assign rfl) (by decide) ?_
        refine GL.nil ?_
        refine GE.blockN ?_
        refine GE.thenN ?_
        refine GC.region ?_
        refine GL.val (Ex.move rfl) (by decide) ?_
        refine GL.val (v := (.int .i64 (((i + 1 : Nat) : Int)))) (Ex.add rfl rfl (Z := ((i + 1 : Nat) : Int)) (w64 (by omega))) (by decide) ?_
        refine GL.val (Ex.assign rfl) (by decide) ?_
        refine GL.nil ?_
        refine GE.thenN ?_
        exact Head.mk ((i + 1, true)) ⟨(by show i + 1 ≤ n; omega), (by show i + 1 ≤ 32; omega)⟩ (by show 32 - (i + 1) < 32 - i; omega) ((sub_cons rfl ((sub_cons rfl ((sub_cons rfl ((sub_cons rfl ((sub_cons rfl ((sub_cons rfl ((sub_nil _)))))))))))))) ulN
      · refine GL.val (v := (.bool false)) (Ex.cast (Ex.move rfl) (congrArg Value.bool ((Bool.eq_false_iff.2 hq3)))) (by decide) ?_
        refine GL.val (Ex.move rfl) (by decide) ?_
        refine GL.stepG (tj := 24) rfl rfl (Ex.wp (v := (.slice (some ⟨b, 0, none⟩) 1 c)) (Ex.move rfl) (by decide)) (fun _ _ => ?_)
        refine GL.stepG (tj := 24) rfl rfl (Ex.wp (v := (.int .i64 (((i : Nat) : Int)))) (Ex.move rfl) (by decide)) (fun _ _ => ?_)
        refine GL.stepG (tj := 24) rfl rfl (Stp.callR (vs := [(.slice (some ⟨b, 0, none⟩) 1 c), (.int .i64 (((i : Nat) : Int)))]) rfl rfl T.own78 (by decide) (fun wc hw => bit_p v b c i wc hv (hw.rd hc (fun x => x)) (by omega))) (fun xq4 hq5 => ?_)
        refine GL.stepG (tj := 24) rfl rfl (Ex.wp (v := (.bool (decide ((((Lg.bt v i : Nat) : Int)) = 1)))) (Ex.eql rfl rfl) (by decide)) (fun _ _ => ?_)
        refine GL.val (v := (.bool (decide ((((Lg.bt v i : Nat) : Int)) = 1)))) (Ex.pickF rfl rfl) (by decide) ?_
        refine GL.val (Ex.assign rfl) (by decide) ?_
        refine GL.nil ?_
        refine GE.blockN ?_
        refine GE.thenN ?_
        refine GC.region ?_
        refine GL.val (Ex.move rfl) (by decide) ?_
        refine GL.val (v := (.int .i64 (((i + 1 : Nat) : Int)))) (Ex.add rfl rfl (Z := ((i + 1 : Nat) : Int)) (w64 (by omega))) (by decide) ?_
        refine GL.val (Ex.assign rfl) (by decide) ?_
        refine GL.nil ?_
        refine GE.thenN ?_
        exact Head.mk ((i + 1, decide ((((Lg.bt v i : Nat) : Int)) = 1))) ⟨(by show i + 1 ≤ n; omega), (by show i + 1 ≤ 32; omega)⟩ (by show 32 - (i + 1) < 32 - i; omega) ((sub_cons rfl ((sub_cons rfl ((sub_cons rfl ((sub_cons rfl ((sub_cons rfl ((sub_cons rfl ((sub_nil _)))))))))))))) ulN
    · replace hq2 := of_decide_eq_false hq2
      refine GC.exit ?_
      refine GE.thenE ?_
      refine GE.thenE ?_
      refine GE.blockE ?_
      refine GE.thenN ?_
      refine GC.seq ?_
      refine GC.seq ?_
      refine GC.region ?_
      refine GL.val (Ex.move rfl) (by decide) ?_
      refine GL.val (Ex.move rfl) (by decide) ?_
      refine GL.val (v := (.int .i64 1)) (Ex.len rfl Try.underlying36) (by decide) ?_
      refine GL.val (v := (.int .i64 32)) (Ex.mul rfl rfl (Z := 32) (by decide)) (by decide) ?_
      refine GL.val (v := (.bool true)) (Ex.cast (Ex.geq rfl rfl) (congrArg Value.bool (decide_eq_true (by omega)))) (by decide) ?_
      refine GL.nil ?_
      refine GE.thenN ?_
      refine GC.cond rfl (fun _ => ?_) (fun hq6 => by cases hq6)
      refine GC.seq ?_
      refine GC.region ?_
      refine GL.val (Ex.move rfl) (by decide) ?_
      refine GL.val (Ex.assign rfl) (by decide) ?_
      refine GL.val (Ex.assign rfl) (by decide) ?_
      refine GL.nil ?_
      refine GE.thenN ?_
      refine GC.ret ?_
      refine GE.thenR ?_
      refine GC.ret2 rfl (Rv.tmp rfl) (Rv.tmp rfl) (fun wN HN => ?_)
      exact HN.ret rb trivial rfl (List.nil_sublist _) rfl
  · refine GL.val (v := (.bool false)) (Ex.cast (Ex.lss rfl rfl) (congrArg Value.bool (decide_eq_false hq1))) (by decide) ?_
    refine GL.val (Ex.move rfl) (by decide) ?_
    refine GL.skipG (tj := 14) rfl rfl rfl (by decide) ?_
    refine GL.skipG (tj := 14) rfl rfl rfl (by decide) ?_
    refine GL.skipG (tj := 14) rfl rfl rfl (by decide) ?_
    refine GL.skipG (tj := 14) rfl rfl rfl (by decide) ?_
    refine GL.skipG (tj := 14) rfl rfl rfl (by decide) ?_
    refine GL.val (v := (.bool false)) (Ex.pickF rfl rfl) (by decide) ?_
    refine GL.nil ?_
    refine GE.thenN ?_
    refine GC.cond rfl (fun hq7 => by cases hq7) (fun _ => ?_)
    refine GC.exit ?_
    refine GE.thenE ?_
    refine GE.thenE ?_
    refine GE.blockE ?_
    refine GE.thenN ?_
    refine GC.seq ?_
    refine GC.seq ?_
    refine GC.region ?_
    refine GL.val (Ex.move rfl) (by decide) ?_
    refine GL.val (Ex.move rfl) (by decide) ?_
    refine GL.val (v := (.int .i64 1)) (Ex.len rfl Try.underlying36) (by decide) ?_
    refine GL.val (v := (.int .i64 32)) (Ex.mul rfl rfl (Z := 32) (by decide)) (by decide) ?_
    refine GL.val (v := (.bool true)) (Ex.cast (Ex.geq rfl rfl) (congrArg Value.bool (decide_eq_true (by omega)))) (by decide) ?_
    refine GL.nil ?_
    refine GE.thenN ?_
    refine GC.cond rfl (fun _ => ?_) (fun hq8 => by cases hq8)
    refine GC.seq ?_
    refine GC.region ?_
    refine GL.val (Ex.move rfl) (by decide) ?_
    refine GL.val (Ex.assign rfl) (by decide) ?_
    refine GL.val (Ex.assign rfl) (by decide) ?_
    refine GL.nil ?_
    refine GE.thenN ?_
    refine GC.ret ?_
    refine GE.thenR ?_
    refine GC.ret2 rfl (Rv.tmp rfl) (Rv.tmp rfl) (fun wN HN => ?_)
    exact HN.ret rb trivial rfl (List.nil_sublist _) rfl

set_option maxRecDepth 100000 in
set_option maxHeartbeats 1000000 in
theorem down_0 (ad : Option Addr) (c n : Nat) (w : World) (hn : n ≤ 1000) :
    Calls Try.prog 77 #[(.slice ad 0 c), (.int .i64 (((n : Nat) : Int)))] w (Ret w (fun _ : Bool => True) (fun z => .tuple #[.slice none 0 0, .bool z]) (fun _ => [])) := by
  refine enter (M := None) (L := []) (n := 88) (l := [(0, (.slice ad 0 c)), (1, (.int .i64 (((n : Nat) : Int))))]) Try.func77 rfl rfl (Args.cons rfl (Args.cons rfl (Args.nil _))) (Hp.start _ _) ?_
  refine GC.seq ?_
  refine GC.region ?_
  refine GL.val (Ex.assign rfl) (by decide) ?_
  refine GL.val (Ex.assign rfl) (by decide) ?_
  refine GL.nil ?_
  refine GE.thenN ?_
  refine GC.seq ?_
  refine GC.region ?_
  refine GL.val (Ex.assign rfl) (by decide) ?_
  refine GL.nil ?_
  refine GE.thenN ?_
  refine GC.seq ?_
  refine GC.seq ?_
  refine GC.region ?_
  refine GL.val (Ex.assign rfl) (by decide) ?_
  refine GL.nil ?_
  refine GE.thenN ?_
  refine GC.block ?_
  refine GC.loop (σ := Nat × Bool) (fun q => q.1 ≤ n ∧ q.1 ≤ 32) (fun q => [(0, (.slice ad 0 c)), (1, (.int .i64 (((n : Nat) : Int)))), (4, (.slice none 0 0)), (5, (.bool false)), (6, (.bool q.2)), (7, (.int .i64 (((q.1 : Nat) : Int))))]) (fun q => []) (fun q => 32 - q.1) ((0, false)) ⟨Nat.zero_le _, by decide⟩ ((sub_cons rfl ((sub_cons rfl ((sub_cons rfl ((sub_cons rfl ((sub_cons rfl ((sub_cons rfl ((sub_nil _)))))))))))))) ulN (fun q hp => ?_)
  obtain ⟨i, rb⟩ := q
  have hpi : i ≤ n ∧ i ≤ 32 := hp
  refine GC.seq ?_
  refine GC.seq ?_
  refine GC.region ?_
  refine GL.val (Ex.move rfl) (by decide) ?_
  refine GL.val (Ex.move rfl) (by decide) ?_
  by_cases hq1 : (((i : Nat) : Int)) < (((n : Nat) : Int))
  · refine GL.val (v := (.bool true)) (Ex.cast (Ex.lss rfl rfl) (congrArg Value.bool (decide_eq_true hq1))) (by decide) ?_
    refine GL.val (Ex.move rfl) (by decide) ?_
    refine GL.stepG (tj := 14) rfl rfl (Ex.wp (v := (.int .i64 (((i : Nat) : Int)))) (Ex.move rfl) (by decide)) (fun _ _ => ?_)
    refine GL.stepG (tj := 14) rfl rfl (Ex.wp (v := (.slice ad 0 c)) (Ex.move rfl) (by decide)) (fun _ _ => ?_)
    refine GL.stepG (tj := 14) rfl rfl (Ex.wp (v := (.int .i64 0)) (Ex.len rfl Try.underlying36) (by decide)) (fun _ _ => ?_)
    refine GL.stepG (tj := 14) rfl rfl (Ex.wp (v := (.int .i64 0)) (Ex.mul rfl rfl (Z := 0) (by decide)) (by decide)) (fun _ _ => ?_)
    refine GL.stepG (tj := 14) rfl rfl (Ex.wp (v := (.bool false)) (Ex.cast (Ex.lss rfl rfl) (congrArg Value.bool (decide_eq_false (by omega)))) (by decide)) (fun _ _ => ?_)
    refine GL.val (v := (.bool false)) (Ex.pickT rfl rfl) (by decide) ?_
    refine GL.nil ?_
    refine GE.thenN ?_
    refine GC.cond rfl (fun hq2 => by cases hq2) (fun _ => ?_)
    refine GC.exit ?_
    refine GE.thenE ?_
    refine GE.thenE ?_
    refine GE.blockE ?_
    refine GE.thenN ?_
    refine GC.seq ?_
    refine GC.seq ?_
    refine GC.region ?_
    refine GL.val (Ex.move rfl) (by decide) ?_
    refine GL.val (Ex.move rfl) (by decide) ?_
    refine GL.val (v := (.int .i64 0)) (Ex.len rfl Try.underlying36) (by decide) ?_
    refine GL.val (v := (.int .i64 0)) (Ex.mul rfl rfl (Z := 0) (by decide)) (by decide) ?_
    refine GL.val (v := (.bool true)) (Ex.cast (Ex.geq rfl rfl) (congrArg Value.bool (decide_eq_true (by omega)))) (by decide) ?_
    refine GL.nil ?_
    refine GE.thenN ?_
    refine GC.cond rfl (fun _ => ?_) (fun hq3 => by cases hq3)
    refine GC.seq ?_
    refine GC.region ?_
    refine GL.val (Ex.move rfl) (by decide) ?_
    refine GL.val (Ex.assign rfl) (by decide) ?_
    refine GL.val (Ex.assign rfl) (by decide) ?_
    refine GL.nil ?_
    refine GE.thenN ?_
    refine GC.ret ?_
    refine GE.thenR ?_
    refine GC.ret2 rfl (Rv.tmp rfl) (Rv.tmp rfl) (fun wN HN => ?_)
    exact HN.ret rb trivial rfl (List.nil_sublist _) rfl
  · refine GL.val (v := (.bool false)) (Ex.cast (Ex.lss rfl rfl) (congrArg Value.bool (decide_eq_false hq1))) (by decide) ?_
    refine GL.val (Ex.move rfl) (by decide) ?_
    refine GL.skipG (tj := 14) rfl rfl rfl (by decide) ?_
    refine GL.skipG (tj := 14) rfl rfl rfl (by decide) ?_
    refine GL.skipG (tj := 14) rfl rfl rfl (by decide) ?_
    refine GL.skipG (tj := 14) rfl rfl rfl (by decide) ?_
    refine GL.skipG (tj := 14) rfl rfl rfl (by decide) ?_
    refine GL.val (v := (.bool false)) (Ex.pickF rfl rfl) (by decide) ?_
    refine GL.nil ?_
    refine GE.thenN ?_
    refine GC.cond rfl (fun hq4 => by cases hq4) (fun _ => ?_)
    refine GC.exit ?_
    refine GE.thenE ?_
    refine GE.thenE ?_
    refine GE.blockE ?_
    refine GE.thenN ?_
    refine GC.seq ?_
    refine GC.seq ?_
    refine GC.region ?_
    refine GL.val (Ex.move rfl) (by decide) ?_
    refine GL.val (Ex.move rfl) (by decide) ?_
    refine GL.val (v := (.int .i64 0)) (Ex.len rfl Try.underlying36) (by decide) ?_
    refine GL.val (v := (.int .i64 0)) (Ex.mul rfl rfl (Z := 0) (by decide)) (by decide) ?_
    refine GL.val (v := (.bool true)) (Ex.cast (Ex.geq rfl rfl) (congrArg Value.bool (decide_eq_true (by omega)))) (by decide) ?_
    refine GL.nil ?_
    refine GE.thenN ?_
    refine GC.cond rfl (fun _ => ?_) (fun hq5 => by cases hq5)
    refine GC.seq ?_
    refine GC.region ?_
    refine GL.val (Ex.move rfl) (by decide) ?_
    refine GL.val (Ex.assign rfl) (by decide) ?_
    refine GL.val (Ex.assign rfl) (by decide) ?_
    refine GL.nil ?_
    refine GE.thenN ?_
    refine GC.ret ?_
    refine GE.thenR ?_
    refine GC.ret2 rfl (Rv.tmp rfl) (Rv.tmp rfl) (fun wN HN => ?_)
    exact HN.ret rb trivial rfl (List.nil_sublist _) rfl

set_option maxRecDepth 100000 in
set_option maxHeartbeats 1000000 in
theorem plus_1 (v b c b2 c2 : Nat) (w : World) (hv : 0 < v ∧ v < 2147483648) (hc : Rd w b 0 [.int .u32 ((v : Nat) : Int)]) (hc2 : Rd w b2 0 [.int .u32 1]) :
    Calls Try.prog 64 #[(.slice (some ⟨b, 0, none⟩) 1 c), (.slice (some ⟨b2, 0, none⟩) 1 c2)] w (Ret w (fun _ : Nat => True) (fun z => (.slice (some ⟨z, 0, none⟩) 1 2)) (fun z => [⟨z, [(.int .u32 (((v + 1 : Nat) : Int))), (.int .u32 0)], 23, true⟩])) := by
  refine enter (M := None) (L := []) (n := 56) (l := [(0, (.slice (some ⟨b, 0, none⟩) 1 c)), (1, (.slice (some ⟨b2, 0, none⟩) 1 c2))]) Try.func64 rfl rfl (Args.cons rfl (Args.cons rfl (Args.nil _))) (Hp.start _ _) ?_
  refine GC.seq ?_
  refine GC.region ?_
  refine GL.val (Ex.assign rfl) (by decide) ?_
  refine GL.nil ?_
  refine GE.thenN ?_
  refine GC.seq ?_
  refine GC.region ?_
  refine GL.val (Ex.move rfl) (by decide) ?_
  refine GL.val (v := (.int .i64 1)) (Ex.len rfl Try.underlying36) (by decide) ?_
  refine GL.val (Ex.move rfl) (by decide) ?_
  refine GL.val (v := (.int .i64 1)) (Ex.len rfl Try.underlying36) (by decide) ?_
  refine GL.val (v := (.int .i64 1)) (Ex.maxI rfl rfl (Z := 1) (by decide)) (by decide) ?_
  refine GL.val (v := (.int .i64 2)) (Ex.add rfl rfl (Z := 2) (by decide)) (by decide) ?_
  refine GL.val (Ex.assign rfl) (by decide) ?_
  refine GL.nil ?_
  refine GE.thenN ?_
  refine GC.seq ?_
  refine GC.region ?_
  refine GL.val (Ex.move rfl) (by decide) ?_
  refine GL.step (Stp.makeSlice (a1 := 2) (c := 2) rfl rfl Try.underlying36 T.zr23 T.sz23 T.by23 rfl (by decide) (by decide) (by decide) (by decide)) (fun bq1 _ => ?_)
  rw [madeOne]
  refine GL.val (Ex.assign rfl) (by decide) ?_
  refine GL.nil ?_
  refine GE.thenN ?_
  refine GC.seq ?_
  refine GC.region ?_
  refine GL.val (Ex.assign rfl) (by decide) ?_
  refine GL.nil ?_
  refine GE.thenN ?_
  refine GC.seq ?_
  refine GC.seq ?_
  refine GC.region ?_
  refine GL.val (Ex.assign rfl) (by decide) ?_
  refine GL.nil ?_
  refine GE.thenN ?_
  refine GC.block ?_
  refine GC.unroll 3 ?_
  refine GE.round ?_
  refine GC.seq ?_
  refine GC.seq ?_
  refine GC.region ?_
  refine GL.val (Ex.move rfl) (by decide) ?_
  refine GL.val (Ex.move rfl) (by decide) ?_
  refine GL.val (v := (.bool true)) (Ex.cast (Ex.lss rfl rfl) rfl) (by decide) ?_
  refine GL.nil ?_
  refine GE.thenN ?_
  refine GC.cond rfl (fun _ => ?_) (fun hq2 => by cases hq2)
  refine GC.skip ?_
  refine GE.thenN ?_
  refine GC.seq ?_
  refine GC.block ?_
  refine GC.seq ?_
  refine GC.region ?_
  refine GL.val (Ex.move rfl) (by decide) ?_
  refine GL.val (Ex.assign rfl) (by decide) ?_
  refine GL.nil ?_
  refine GE.thenN ?_
  refine GC.seq ?_
  refine GC.seq ?_
  refine GC.region ?_
  refine GL.val (Ex.move rfl) (by decide) ?_
  refine GL.val (Ex.move rfl) (by decide) ?_
  refine GL.val (v := (.int .i64 1)) (Ex.len rfl Try.underlying36) (by decide) ?_
  refine GL.val (v := (.bool true)) (Ex.cast (Ex.lss rfl rfl) rfl) (by decide) ?_
  refine GL.nil ?_
  refine GE.thenN ?_
  refine GC.cond rfl (fun _ => ?_) (fun hq3 => by cases hq3)
  refine GC.region ?_
  refine GL.val (Ex.move rfl) (by decide) ?_
  refine GL.val (Ex.move rfl) (by decide) ?_
  refine GL.val (Ex.move rfl) (by decide) ?_
  refine GL.val (v := (.pointer (some ⟨b, 0, none⟩))) (Ex.cast (Ex.indexAddr rfl rfl Try.underlying36 T.sz23 (by omega) (by omega)) rfl) (by decide) ?_
  refine GL.val (v := (.int .u32 (((v : Nat) : Int)))) (Ex.loadO rfl T.ag23 (hc 0 _ rfl) (fun x => x)) (by decide) ?_
  refine GL.val (v := (.int .u64 (((v : Nat) : Int)))) (Ex.conv rfl Try.underlying23 Try.underlying70 (Z := ((v : Nat) : Int)) (wu64b (by omega))) (by decide) ?_
  refine GL.val (v := (.int .u64 (((v : Nat) : Int)))) (Ex.add rfl rfl (Z := ((v : Nat) : Int)) (by rw [wu64b (by omega)]; omega)) (by decide) ?_
  refine GL.val (Ex.assign rfl) (by decide) ?_
  refine GL.nil ?_
  refine GE.thenN ?_
  refine GC.seq ?_
  refine GC.seq ?_
  refine GC.region ?_
  refine GL.val (Ex.move rfl) (by decide) ?_
  refine GL.val (Ex.move rfl) (by decide) ?_
  refine GL.val (v := (.int .i64 1)) (Ex.len rfl Try.underlying36) (by decide) ?_
  refine GL.val (v := (.bool true)) (Ex.cast (Ex.lss rfl rfl) rfl) (by decide) ?_
  refine GL.nil ?_
  refine GE.thenN ?_
  refine GC.cond rfl (fun _ => ?_) (fun hq4 => by cases hq4)
  refine GC.region ?_
  refine GL.val (Ex.move rfl) (by decide) ?_
  refine GL.val (Ex.move rfl) (by decide) ?_
  refine GL.val (Ex.move rfl) (by decide) ?_
  refine GL.val (v := (.pointer (some ⟨b2, 0, none⟩))) (Ex.cast (Ex.indexAddr rfl rfl Try.underlying36 T.sz23 (by omega) (by omega)) rfl) (by decide) ?_
  refine GL.val (v := (.int .u32 1)) (Ex.loadO rfl T.ag23 (hc2 0 _ rfl) (fun x => x)) (by decide) ?_
  refine GL.val (v := (.int .u64 1)) (Ex.conv rfl Try.underlying23 Try.underlying70 (Z := 1) (wu64b (by omega))) (by decide) ?_
  refine GL.val (v := (.int .u64 (((v + 1 : Nat) : Int)))) (Ex.add rfl rfl (Z := ((v + 1 : Nat) : Int)) (by rw [wu64b (by omega)]; omega)) (by decide) ?_
  refine GL.val (Ex.assign rfl) (by decide) ?_
  refine GL.nil ?_
  refine GE.thenN ?_
  refine GC.seq ?_
  refine GC.region ?_
  refine GL.val (Ex.move rfl) (by decide) ?_
  refine GL.val (Ex.move rfl) (by decide) ?_
  refine GL.val (Ex.move rfl) (by decide) ?_
  refine GL.val (v := (.int .u64 (((v + 1 : Nat) : Int)))) (Ex.bits rfl rfl (by simp) (Z := ((v + 1 : Nat) : Int)) (andm64 32 (by omega) (by omega) (by omega) (by omega) rfl)) (by decide) ?_
  refine GL.val (v := (.int .u32 (((v + 1 : Nat) : Int)))) (Ex.conv rfl Try.underlying70 Try.underlying23 (Z := ((v + 1 : Nat) : Int)) (wu32b (by omega))) (by decide) ?_
  refine GL.val (v := (.pointer (some ⟨bq1, 0, none⟩))) (Ex.cast (Ex.indexAddr rfl rfl Try.underlying36 T.sz23 (by omega) (by omega)) rfl) (by decide) ?_
  refine GL.step (Stp.st0 (cs' := [(.int .u32 (((v + 1 : Nat) : Int))), (.int .u32 0)]) rfl rfl rfl T.sz23 rfl rfl rfl) (fun _ _ => ?_)
  refine GL.nil ?_
  refine GE.thenN ?_
  refine GC.region ?_
  refine GL.val (Ex.move rfl) (by decide) ?_
  refine GL.val (v := (.int .u64 0)) (Ex.shr rfl (m := 32) rfl (by decide) (Z := 0) (by omega)) (by decide) ?_
  refine GL.val (Ex.assign rfl) (by decide) ?_
  refine GL.nil ?_
  refine GE.blockN ?_
  refine GE.thenN ?_
  refine GC.region ?_
  refine GL.val (Ex.move rfl) (by decide) ?_
  refine GL.val (v := (.int .i64 1)) (Ex.add rfl rfl (Z := 1) (by decide)) (by decide) ?_
  refine GL.val (Ex.assign rfl) (by decide) ?_
  refine GL.nil ?_
  refine GE.thenN ?_
  refine GE.round ?_
  refine GC.seq ?_
  refine GC.seq ?_
  refine GC.region ?_
  refine GL.val (Ex.move rfl) (by decide) ?_
  refine GL.val (Ex.move rfl) (by decide) ?_
  refine GL.val (v := (.bool true)) (Ex.cast (Ex.lss rfl rfl) rfl) (by decide) ?_
  refine GL.nil ?_
  refine GE.thenN ?_
  refine GC.cond rfl (fun _ => ?_) (fun hq5 => by cases hq5)
  refine GC.skip ?_
  refine GE.thenN ?_
  refine GC.seq ?_
  refine GC.block ?_
  refine GC.seq ?_
  refine GC.region ?_
  refine GL.val (Ex.move rfl) (by decide) ?_
  refine GL.val (Ex.assign rfl) (by decide) ?_
  refine GL.nil ?_
  refine GE.thenN ?_
  refine GC.seq ?_
  refine GC.seq ?_
  refine GC.region ?_
  refine GL.val (Ex.move rfl) (by decide) ?_
  refine GL.val (Ex.move rfl) (by decide) ?_
  refine GL.val (v := (.int .i64 1)) (Ex.len rfl Try.underlying36) (by decide) ?_
  refine GL.val (v := (.bool false)) (Ex.cast (Ex.lss rfl rfl) rfl) (by decide) ?_
  refine GL.nil ?_
  refine GE.thenN ?_
  refine GC.cond rfl (fun hq6 => by cases hq6) (fun _ => ?_)
  refine GC.skip ?_
  refine GE.thenN ?_
  refine GC.seq ?_
  refine GC.seq ?_
  refine GC.region ?_
  refine GL.val (Ex.move rfl) (by decide) ?_
  refine GL.val (Ex.move rfl) (by decide) ?_
  refine GL.val (v := (.int .i64 1)) (Ex.len rfl Try.underlying36) (by decide) ?_
  refine GL.val (v := (.bool false)) (Ex.cast (Ex.lss rfl rfl) rfl) (by decide) ?_
  refine GL.nil ?_
  refine GE.thenN ?_
  refine GC.cond rfl (fun hq7 => by cases hq7) (fun _ => ?_)
  refine GC.skip ?_
  refine GE.thenN ?_
  refine GC.seq ?_
  refine GC.region ?_
  refine GL.val (Ex.move rfl) (by decide) ?_
  refine GL.val (Ex.move rfl) (by decide) ?_
  refine GL.val (Ex.move rfl) (by decide) ?_
  refine GL.val (v := (.int .u64 0)) (Ex.bits rfl rfl (by simp) (Z := 0) (by decide)) (by decide) ?_
  refine GL.val (v := (.int .u32 0)) (Ex.conv rfl Try.underlying70 Try.underlying23 (Z := 0) (by rw [wu32]; omega)) (by decide) ?_
  refine GL.val (v := (.pointer (some ⟨bq1, 1, none⟩))) (Ex.cast (Ex.indexAddr rfl rfl Try.underlying36 T.sz23 (by omega) (by omega)) rfl) (by decide) ?_
  refine GL.step (Stp.st0 (cs' := [(.int .u32 (((v + 1 : Nat) : Int))), (.int .u32 0)]) rfl rfl rfl T.sz23 rfl rfl rfl) (fun _ _ => ?_)
  refine GL.nil ?_
  refine GE.thenN ?_
  refine GC.region ?_
  refine GL.val (Ex.move rfl) (by decide) ?_
  refine GL.val (v := (.int .u64 0)) (Ex.shr rfl (m := 32) rfl (by decide) (Z := 0) (by omega)) (by decide) ?_
  refine GL.val (Ex.assign rfl) (by decide) ?_
  refine GL.nil ?_
  refine GE.blockN ?_
  refine GE.thenN ?_
  refine GC.region ?_
  refine GL.val (Ex.move rfl) (by decide) ?_
  refine GL.val (v := (.int .i64 2)) (Ex.add rfl rfl (Z := 2) (by decide)) (by decide) ?_
  refine GL.val (Ex.assign rfl) (by decide) ?_
  refine GL.nil ?_
  refine GE.thenN ?_
  refine GE.round ?_
  refine GC.seq ?_
  refine GC.seq ?_
  refine GC.region ?_
  refine GL.val (Ex.move rfl) (by decide) ?_
  refine GL.val (Ex.move rfl) (by decide) ?_
  refine GL.val (v := (.bool false)) (Ex.cast (Ex.lss rfl rfl) rfl) (by decide) ?_
  refine GL.nil ?_
  refine GE.thenN ?_
  refine GC.cond rfl (fun hq8 => by cases hq8) (fun _ => ?_)
  refine GC.exit ?_
  refine GE.thenE ?_
  refine GE.thenE ?_
  refine GE.blockE ?_
  refine GE.thenN ?_
  refine GC.seq ?_
  refine GC.region ?_
  refine GL.val (Ex.move rfl) (by decide) ?_
  refine GL.step (Stp.callR (σ := Unit) (p := fun rz => True) (v := fun rz => (.slice (some ⟨bq1, 0, none⟩) 1 2)) (N := fun rz => []) (vs := [(.slice (some ⟨bq1, 0, none⟩) 2 2)]) rfl rfl T.own63 (by decide) (fun wc hw => (by have h := trim_r bq1 (((v + 1 : Nat) : Int)) wc (Has.cons (hw.hasOf (i := 0) rfl) (Has.nil _)); rw [if_neg (by omega)] at h; exact h))) (fun xq9 hq10 => ?_)
  refine GL.val (Ex.assign rfl) (by decide) ?_
  refine GL.nil ?_
  refine GE.thenN ?_
  refine GC.ret ?_
  refine GC.ret1 rfl (Rv.tmp rfl) (fun wN HN => ?_)
  exact HN.ret bq1 trivial rfl (ulC ulN) rfl

set_option maxRecDepth 100000 in
set_option maxHeartbeats 1000000 in
theorem plus_0 (ad : Option Addr) (c b2 c2 : Nat) (w : World) (hc2 : Rd w b2 0 [.int .u32 1]) :
    Calls Try.prog 64 #[(.slice ad 0 c), (.slice (some ⟨b2, 0, none⟩) 1 c2)] w (Ret w (fun _ : Nat => True) (fun z => (.slice (some ⟨z, 0, none⟩) 1 2)) (fun z => [⟨z, [(.int .u32 1), (.int .u32 0)], 23, true⟩])) := by
  refine enter (M := None) (L := []) (n := 56) (l := [(0, (.slice ad 0 c)), (1, (.slice (some ⟨b2, 0, none⟩) 1 c2))]) Try.func64 rfl rfl (Args.cons rfl (Args.cons rfl (Args.nil _))) (Hp.start _ _) ?_
  refine GC.seq ?_
  refine GC.region ?_
  refine GL.val (Ex.assign rfl) (by decide) ?_
  refine GL.nil ?_
  refine GE.thenN ?_
  refine GC.seq ?_
  refine GC.region ?_
  refine GL.val (Ex.move rfl) (by decide) ?_
  refine GL.val (v := (.int .i64 0)) (Ex.len rfl Try.underlying36) (by decide) ?_
  refine GL.val (Ex.move rfl) (by decide) ?_
  refine GL.val (v := (.int .i64 1)) (Ex.len rfl Try.underlying36) (by decide) ?_
  refine GL.val (v := (.int .i64 1)) (Ex.maxI rfl rfl (Z := 1) (by decide)) (by decide) ?_
  refine GL.val (v := (.int .i64 2)) (Ex.add rfl rfl (Z := 2) (by decide)) (by decide) ?_
  refine GL.val (Ex.assign rfl) (by decide) ?_
  refine GL.nil ?_
  refine GE.thenN ?_
  refine GC.seq ?_
  refine GC.region ?_
  refine GL.val (Ex.move rfl) (by decide) ?_
  refine GL.step (Stp.makeSlice (a1 := 2) (c := 2) rfl rfl Try.underlying36 T.zr23 T.sz23 T.by23 rfl (by decide) (by decide) (by decide) (by decide)) (fun bq1 _ => ?_)
  rw [madeOne]
  refine GL.val (Ex.assign rfl) (by decide) ?_
  refine GL.nil ?_
  refine GE.thenN ?_
  refine GC.seq ?_
  refine GC.region ?_
  refine GL.val (Ex.assign rfl) (by decide) ?_
  refine GL.nil ?_
  refine GE.thenN ?_
  refine GC.seq ?_
  refine GC.seq ?_
  refine GC.region ?_
  refine GL.val (Ex.assign rfl) (by decide) ?_
  refine GL.nil ?_
  refine GE.thenN ?_
  refine GC.block ?_
  refine GC.unroll 3 ?_
  refine GE.round ?_
  refine GC.seq ?_
  refine GC.seq ?_
  refine GC.region ?_
  refine GL.val (Ex.move rfl) (by decide) ?_
  refine GL.val (Ex.move rfl) (by decide) ?_
  refine GL.val (v := (.bool true)) (Ex.cast (Ex.lss rfl rfl) rfl) (by decide) ?_
  refine GL.nil ?_
  refine GE.thenN ?_
  refine GC.cond rfl (fun _ => ?_) (fun hq2 => by cases hq2)
  refine GC.skip ?_
  refine GE.thenN ?_
  refine GC.seq ?_
  refine GC.block ?_
  refine GC.seq ?_
  refine GC.region ?_
  refine GL.val (Ex.move rfl) (by decide) ?_
  refine GL.val (Ex.assign rfl) (by decide) ?_
  refine GL.nil ?_
  refine GE.thenN ?_
  refine GC.seq ?_
  refine GC.seq ?_
  refine GC.region ?_
  refine GL.val (Ex.move rfl) (by decide) ?_
  refine GL.val (Ex.move rfl) (by decide) ?_
  refine GL.val (v := (.int .i64 0)) (Ex.len rfl Try.underlying36) (by decide) ?_
  refine GL.val (v := (.bool false)) (Ex.cast (Ex.lss rfl rfl) rfl) (by decide) ?_
  refine GL.nil ?_
  refine GE.thenN ?_
  refine GC.cond rfl (fun hq3 => by cases hq3) (fun _ => ?_)
  refine GC.skip ?_
  refine GE.thenN ?_
  refine GC.seq ?_
  refine GC.seq ?_
  refine GC.region ?_
  refine GL.val (Ex.move rfl) (by decide) ?_
  refine GL.val (Ex.move rfl) (by decide) ?_
  refine GL.val (v := (.int .i64 1)) (Ex.len rfl Try.underlying36) (by decide) ?_
  refine GL.val (v := (.bool true)) (Ex.cast (Ex.lss rfl rfl) rfl) (by decide) ?_
  refine GL.nil ?_
  refine GE.thenN ?_
  refine GC.cond rfl (fun _ => ?_) (fun hq4 => by cases hq4)
  refine GC.region ?_
  refine GL.val (Ex.move rfl) (by decide) ?_
  refine GL.val (Ex.move rfl) (by decide) ?_
  refine GL.val (Ex.move rfl) (by decide) ?_
  refine GL.val (v := (.pointer (some ⟨b2, 0, none⟩))) (Ex.cast (Ex.indexAddr rfl rfl Try.underlying36 T.sz23 (by omega) (by omega)) rfl) (by decide) ?_
  refine GL.val (v := (.int .u32 1)) (Ex.loadO rfl T.ag23 (hc2 0 _ rfl) (fun x => x)) (by decide) ?_
  refine GL.val (v := (.int .u64 1)) (Ex.conv rfl Try.underlying23 Try.underlying70 (Z := 1) (wu64b (by omega))) (by decide) ?_
  refine GL.val (v := (.int .u64 1)) (Ex.add rfl rfl (Z := 1) (by rw [wu64b (by omega)]; omega)) (by decide) ?_
  refine GL.val (Ex.assign rfl) (by decide) ?_
  refine GL.nil ?_
  refine GE.thenN ?_
  refine GC.seq ?_
  refine GC.region ?_
  refine GL.val (Ex.move rfl) (by decide) ?_
  refine GL.val (Ex.move rfl) (by decide) ?_
  refine GL.val (Ex.move rfl) (by decide) ?_
  refine GL.val (v := (.int .u64 1)) (Ex.bits rfl rfl (by simp) (Z := 1) (andm64 32 (by omega) (by omega) (by omega) (by omega) rfl)) (by decide) ?_
  refine GL.val (v := (.int .u32 1)) (Ex.conv rfl Try.underlying70 Try.underlying23 (Z := 1) (wu32b (by omega))) (by decide) ?_
  refine GL.val (v := (.pointer (some ⟨bq1, 0, none⟩))) (Ex.cast (Ex.indexAddr rfl rfl Try.underlying36 T.sz23 (by omega) (by omega)) rfl) (by decide) ?_
  refine GL.step (Stp.st0 (cs' := [(.int .u32 1), (.int .u32 0)]) rfl rfl rfl T.sz23 rfl rfl rfl) (fun _ _ => ?_)
  refine GL.nil ?_
  refine GE.thenN ?_
  refine GC.region ?_
  refine GL.val (Ex.move rfl) (by decide) ?_
  refine GL.val (v := (.int .u64 0)) (Ex.shr rfl (m := 32) rfl (by decide) (Z := 0) (by omega)) (by decide) ?_
  refine GL.val (Ex.assign rfl) (by decide) ?_
  refine GL.nil ?_
  refine GE.blockN ?_
  refine GE.thenN ?_
  refine GC.region ?_
  refine GL.val (Ex.move rfl) (by decide) ?_
  refine GL.val (v := (.int .i64 1)) (Ex.add rfl rfl (Z := 1) (by decide)) (by decide) ?_
  refine GL.val (Ex.assign rfl) (by decide) ?_
  refine GL.nil ?_
  refine GE.thenN ?_
  refine GE.round ?_
  refine GC.seq ?_
  refine GC.seq ?_
  refine GC.region ?_
  refine GL.val (Ex.move rfl) (by decide) ?_
  refine GL.val (Ex.move rfl) (by decide) ?_
  refine GL.val (v := (.bool true)) (Ex.cast (Ex.lss rfl rfl) rfl) (by decide) ?_
  refine GL.nil ?_
  refine GE.thenN ?_
  refine GC.cond rfl (fun _ => ?_) (fun hq5 => by cases hq5)
  refine GC.skip ?_
  refine GE.thenN ?_
  refine GC.seq ?_
  refine GC.block ?_
  refine GC.seq ?_
  refine GC.region ?_
  refine GL.val (Ex.move rfl) (by decide) ?_
  refine GL.val (Ex.assign rfl) (by decide) ?_
  refine GL.nil ?_
  refine GE.thenN ?_
  refine GC.seq ?_
  refine GC.seq ?_
  refine GC.region ?_
  refine GL.val (Ex.move rfl) (by decide) ?_
  refine GL.val (Ex.move rfl) (by decide) ?_
  refine GL.val (v := (.int .i64 0)) (Ex.len rfl Try.underlying36) (by decide) ?_
  refine GL.val (v := (.bool false)) (Ex.cast (Ex.lss rfl rfl) rfl) (by decide) ?_
  refine GL.nil ?_
  refine GE.thenN ?_
  refine GC.cond rfl (fun hq6 => by cases hq6) (fun _ => ?_)
  refine GC.skip ?_
  refine GE.thenN ?_
  refine GC.seq ?_
  refine GC.seq ?_
  refine GC.region ?_
  refine GL.val (Ex.move rfl) (by decide) ?_
  refine GL.val (Ex.move rfl) (by decide) ?_
  refine GL.val (v := (.int .i64 1)) (Ex.len rfl Try.underlying36) (by decide) ?_
  refine GL.val (v := (.bool false)) (Ex.cast (Ex.lss rfl rfl) rfl) (by decide) ?_
  refine GL.nil ?_
  refine GE.thenN ?_
  refine GC.cond rfl (fun hq7 => by cases hq7) (fun _ => ?_)
  refine GC.skip ?_
  refine GE.thenN ?_
  refine GC.seq ?_
  refine GC.region ?_
  refine GL.val (Ex.move rfl) (by decide) ?_
  refine GL.val (Ex.move rfl) (by decide) ?_
  refine GL.val (Ex.move rfl) (by decide) ?_
  refine GL.val (v := (.int .u64 0)) (Ex.bits rfl rfl (by simp) (Z := 0) (by decide)) (by decide) ?_
  refine GL.val (v := (.int .u32 0)) (Ex.conv rfl Try.underlying70 Try.underlying23 (Z := 0) (by rw [wu32]; omega)) (by decide) ?_
  refine GL.val (v := (.pointer (some ⟨bq1, 1, none⟩))) (Ex.cast (Ex.indexAddr rfl rfl Try.underlying36 T.sz23 (by omega) (by omega)) rfl) (by decide) ?_
  refine GL.step (Stp.st0 (cs' := [(.int .u32 1), (.int .u32 0)]) rfl rfl rfl T.sz23 rfl rfl rfl) (fun _ _ => ?_)
  refine GL.nil ?_
  refine GE.thenN ?_
  refine GC.region ?_
  refine GL.val (Ex.move rfl) (by decide) ?_
  refine GL.val (v := (.int .u64 0)) (Ex.shr rfl (m := 32) rfl (by decide) (Z := 0) (by omega)) (by decide) ?_
  refine GL.val (Ex.assign rfl) (by decide) ?_
  refine GL.nil ?_
  refine GE.blockN ?_
  refine GE.thenN ?_
  refine GC.region ?_
  refine GL.val (Ex.move rfl) (by decide) ?_
  refine GL.val (v := (.int .i64 2)) (Ex.add rfl rfl (Z := 2) (by decide)) (by decide) ?_
  refine GL.val (Ex.assign rfl) (by decide) ?_
  refine GL.nil ?_
  refine GE.thenN ?_
  refine GE.round ?_
  refine GC.seq ?_
  refine GC.seq ?_
  refine GC.region ?_
  refine GL.val (Ex.move rfl) (by decide) ?_
  refine GL.val (Ex.move rfl) (by decide) ?_
  refine GL.val (v := (.bool false)) (Ex.cast (Ex.lss rfl rfl) rfl) (by decide) ?_
  refine GL.nil ?_
  refine GE.thenN ?_
  refine GC.cond rfl (fun hq8 => by cases hq8) (fun _ => ?_)
  refine GC.exit ?_
  refine GE.thenE ?_
  refine GE.thenE ?_
  refine GE.blockE ?_
  refine GE.thenN ?_
  refine GC.seq ?_
  refine GC.region ?_
  refine GL.val (Ex.move rfl) (by decide) ?_
  refine GL.step (Stp.callR (σ := Unit) (p := fun rz => True) (v := fun rz => (.slice (some ⟨bq1, 0, none⟩) 1 2)) (N := fun rz => []) (vs := [(.slice (some ⟨bq1, 0, none⟩) 2 2)]) rfl rfl T.own63 (by decide) (fun wc hw => (by have h := trim_r bq1 1 wc (Has.cons (hw.hasOf (i := 0) rfl) (Has.nil _)); rw [if_neg (by omega)] at h; exact h))) (fun xq9 hq10 => ?_)
  refine GL.val (Ex.assign rfl) (by decide) ?_
  refine GL.nil ?_
  refine GE.thenN ?_
  refine GC.ret ?_
  refine GC.ret1 rfl (Rv.tmp rfl) (fun wN HN => ?_)
  exact HN.ret bq1 trivial rfl (ulC ulN) rfl

set_option maxRecDepth 100000 in
set_option maxHeartbeats 1000000 in
theorem sign_p (ng : Bool) (w : World) :
    Calls Try.prog 87 #[(.agg #[(.int .i64 23), (.int .i64 8)]), (.bool ng)] w (Ret w (fun _ : Unit => True) (fun _ => (.int .u64 ((Lg.sg ng)))) (fun _ => [])) := by
  refine enter (M := None) (L := []) (n := 12) (l := [(0, (.agg #[(.int .i64 23), (.int .i64 8)])), (1, (.bool ng))]) Try.func87 rfl rfl (Args.cons rfl (Args.cons rfl (Args.nil _))) (Hp.start _ _) ?_
  refine GC.seq ?_
  refine GC.region ?_
  refine GL.step (Stp.box (cs := [(.int .i64 23), (.int .i64 8)]) rfl rfl (by decide)) (fun bq1 _ => ?_)
  refine GL.val (Ex.assign rfl) (by decide) ?_
  refine GL.nil ?_
  refine GE.thenN ?_
  refine GC.seq ?_
  refine GC.seq ?_
  refine GC.region ?_
  refine GL.val (Ex.move rfl) (by decide) ?_
  refine GL.nil ?_
  refine GE.thenN ?_
  refine GC.cond rfl (fun hq2 => ?_) (fun hq2 => ?_)
  · refine GC.seq ?_
    refine GC.region ?_
    refine GL.val (v := (.pointer (some ⟨bq1, 0, none⟩))) (Ex.cast (Ex.fieldAddr rfl Try.underlying67 rfl T.sz3 (by decide)) rfl) (by decide) ?_
    refine GL.val (Ex.load rfl T.ag3 (i := 0) rfl rfl) (by decide) ?_
    refine GL.val (v := (.pointer (some ⟨bq1, 1, none⟩))) (Ex.cast (Ex.fieldAddr rfl Try.underlying67 rfl T.sz3 (by decide)) rfl) (by decide) ?_
    refine GL.val (Ex.load rfl T.ag3 (i := 0) rfl rfl) (by decide) ?_
    refine GL.val (v := (.int .i64 31)) (Ex.add rfl rfl (Z := 31) (by decide)) (by decide) ?_
    refine GL.val (v := (.int .u64 2147483648)) (Ex.shl rfl (m := 31) rfl (by decide) (Z := 2147483648) (by decide)) (by decide) ?_
    refine GL.val (Ex.assign rfl) (by decide) ?_
    refine GL.nil ?_
    refine GE.thenN ?_
    refine GC.ret ?_
    refine GE.thenR ?_
    refine GC.ret1 rfl (Rv.tmp rfl) (fun wN HN => ?_)
    exact HN.ret () trivial (by unfold Lg.sg; rw [if_pos hq2]) (List.nil_sublist _) rfl
  · refine GC.skip ?_
    refine GE.thenN ?_
    refine GC.seq ?_
    refine GC.region ?_
    refine GL.val (Ex.assign rfl) (by decide) ?_
    refine GL.nil ?_
    refine GE.thenN ?_
    refine GC.ret ?_
    refine GC.ret1 rfl (Rv.tmp rfl) (fun wN HN => ?_)
    exact HN.ret () trivial (by unfold Lg.sg; rw [if_neg (by rw [hq2]; decide)]) (List.nil_sublist _) rfl

set_option maxRecDepth 100000 in
set_option maxHeartbeats 1000000 in
theorem round_pos (v b c : Nat) (e : Int) (ng : Bool) (w : World) (hv : 0 < v ∧ v < 4294967296) (hc : Rd w b 0 [.int .u32 ((v : Nat) : Int)]) (he : -100 ≤ e ∧ e ≤ 60) :
    Calls Try.prog 75 #[(.agg #[(.int .i64 23), (.int .i64 8)]), (.agg #[(.int .i64 2), (.bool ng), (.slice (some ⟨b, 0, none⟩) 1 c), (.int .i64 e), (.bool false)])] w (Ret w (fun _ : Unit => True) (fun _ => (.int .u64 ((Lg.sg ng + ((Lg.RD v e : Nat) : Int))))) (fun _ => [])) := by
  have hlg := Lg.log_le hv.1 hv.2
  refine enter (M := None) (L := []) (n := 169) (l := [(0, (.agg #[(.int .i64 23), (.int .i64 8)])), (1, (.agg #[(.int .i64 2), (.bool ng), (.slice (some ⟨b, 0, none⟩) 1 c), (.int .i64 e), (.bool false)]))]) Try.func75 rfl rfl (Args.cons rfl (Args.cons rfl (Args.nil _))) (Hp.start _ _) ?_
  refine GC.seq ?_
  refine GC.region ?_
  refine GL.step (Stp.box (cs := [(.int .i64 23), (.int .i64 8)]) rfl rfl (by decide)) (fun bq1 _ => ?_)
  refine GL.step (Stp.box (cs := [(.int .i64 2), (.bool ng), (.slice (some ⟨b, 0, none⟩) 1 c), (.int .i64 e), (.bool false)]) rfl rfl (by decide)) (fun bq2 _ => ?_)
  refine GL.val (Ex.assign rfl) (by decide) ?_
  refine GL.nil ?_
  refine GE.thenN ?_
  refine GC.seq ?_
  refine GC.seq ?_
  refine GC.region ?_
  refine GL.val (v := (.pointer (some ⟨bq2, 0, none⟩))) (Ex.cast (Ex.fieldAddr rfl Try.underlying38 rfl T.sz3 (by decide)) rfl) (by decide) ?_
  refine GL.val (Ex.load rfl T.ag3 (i := 0) rfl rfl) (by decide) ?_
  refine GL.val (v := (.bool false)) (Ex.cast (Ex.eql rfl rfl) rfl) (by decide) ?_
  refine GL.nil ?_
  refine GE.thenN ?_
  refine GC.cond rfl (fun hq3 => by cases hq3) (fun _ => ?_)
  refine GC.skip ?_
  refine GE.thenN ?_
  refine GC.seq ?_
  refine GC.seq ?_
  refine GC.region ?_
  refine GL.val (v := (.pointer (some ⟨bq2, 0, none⟩))) (Ex.cast (Ex.fieldAddr rfl Try.underlying38 rfl T.sz3 (by decide)) rfl) (by decide) ?_
  refine GL.val (Ex.load rfl T.ag3 (i := 0) rfl rfl) (by decide) ?_
  refine GL.val (v := (.bool false)) (Ex.cast (Ex.eql rfl rfl) rfl) (by decide) ?_
  refine GL.nil ?_
  refine GE.thenN ?_
  refine GC.cond rfl (fun hq4 => by cases hq4) (fun _ => ?_)
  refine GC.skip ?_
  refine GE.thenN ?_
  refine GC.seq ?_
  refine GC.region ?_
  refine GL.val (v := (.pointer (some ⟨bq2, 2, none⟩))) (Ex.cast (Ex.fieldAddr rfl Try.underlying38 rfl T.sz36 (by decide)) rfl) (by decide) ?_
  refine GL.val (Ex.load rfl T.ag36 (i := 0) rfl rfl) (by decide) ?_
  refine GL.val (Ex.assign rfl) (by decide) ?_
  refine GL.nil ?_
  refine GE.thenN ?_
  refine GC.seq ?_
  refine GC.region ?_
  refine GL.val (v := (.pointer (some ⟨bq2, 3, none⟩))) (Ex.cast (Ex.fieldAddr rfl Try.underlying38 rfl T.sz3 (by decide)) rfl) (by decide) ?_
  refine GL.val (Ex.load rfl T.ag3 (i := 0) rfl rfl) (by decide) ?_
  refine GL.val (Ex.assign rfl) (by decide) ?_
  refine GL.nil ?_
  refine GE.thenN ?_
  refine GC.seq ?_
  refine GC.region ?_
  refine GL.val (v := (.agg #[(.int .i64 23), (.int .i64 8)])) (Ex.loadA rfl T.ag67 T.sz67 (i := 1) rfl (vs := [(.int .i64 23), (.int .i64 8)]) rfl rfl) (by decide) ?_
  refine GL.step (Stp.callR (vs := [(.agg #[(.int .i64 23), (.int .i64 8)])]) rfl rfl T.own83 (by decide) (fun wc hw => j83_2  wc )) (fun xq5 hq6 => ?_)
  refine GL.val (v := (.int .i64 (-149))) (Ex.sub' rfl rfl (Z := -149) (by decide)) (by decide) ?_
  refine GL.val (Ex.assign rfl) (by decide) ?_
  refine GL.nil ?_
  refine GE.thenN ?_
  refine GC.seq ?_
  refine GC.drawP [⟨bq2, [(.int .i64 2), (.bool ng), (.slice (some ⟨b, 0, none⟩) 1 c), (.int .i64 e), (.bool false)], 38, true⟩, ⟨bq1, [(.int .i64 23), (.int .i64 8)], 67, true⟩] T.mixed (by kernel_rfl) (by kernel_rfl) (fuel := 10) rfl rfl ?_
  refine GH.take 0 (v := (.slice (some ⟨b, 0, none⟩) 1 c)) rfl (by kernel_rfl) (by kernel_rfl) (by kernel_rfl) (fun _ _ _ h => h) (Ex.move rfl) (ulC (ulC ulN)) (by decide) ?_
  refine GH.take 2 (v := (.int .i64 e)) rfl (by kernel_rfl) (by kernel_rfl) (by kernel_rfl) (fun _ _ _ h => h) (Ex.move rfl) (ulC (ulC ulN)) (by decide) ?_
  refine GH.take 4 (v := (.pointer (some ⟨bq1, 0, none⟩))) rfl (by kernel_rfl) (by kernel_rfl) (by kernel_rfl) (fun _ _ _ h => h) (Ex.cast (Ex.fieldAddr rfl Try.underlying67 rfl T.sz3 (by decide)) rfl) (ulC (ulC ulN)) (by decide) ?_
  refine GH.take 5 (v := (.int .i64 23)) rfl (by kernel_rfl) (by kernel_rfl) (by kernel_rfl) (fun _ _ _ h => h) (Ex.load rfl T.ag3 (i := 1) rfl rfl) (ulC (ulC ulN)) (by decide) ?_
  refine GH.take 6 (v := (.int .i64 24)) rfl (by kernel_rfl) (by kernel_rfl) (by kernel_rfl) (fun _ _ _ h => h) (Ex.add rfl rfl (Z := 24) (by decide)) (ulC (ulC ulN)) (by decide) ?_
  refine GH.take 8 (v := (.int .i64 (-149))) rfl (by kernel_rfl) (by kernel_rfl) (by kernel_rfl) (fun _ _ _ h => h) (Ex.move rfl) (ulC (ulC ulN)) (by decide) ?_
  refine GH.one 1 rfl (by kernel_rfl) (Stp.callR (vs := [(.slice (some ⟨b, 0, none⟩) 1 c)]) rfl rfl T.own88 (by decide) (fun wc hw => bits_pos v b c wc hv (hw.rd hc (fun x => x)))) (fun _ => (ulC (ulC ulN))) (fun xq9 hq10 => ?_)
  refine GH.take 3 (v := (.int .i64 ((((Nat.log2 v : Nat) : Int) + 1 + e)))) rfl (by kernel_rfl) (by kernel_rfl) (by kernel_rfl) (fun _ _ _ h => h) (Ex.add rfl rfl (Z := (((Nat.log2 v : Nat) : Int) + 1 + e)) (by rw [w64 (by omega)]; omega)) (ulC (ulC ulN)) (by decide) ?_
  refine GH.take 7 (v := (.int .i64 ((((Nat.log2 v : Nat) : Int) + e - 23)))) rfl (by kernel_rfl) (by kernel_rfl) (by kernel_rfl) (fun _ _ _ h => h) (Ex.sub' rfl rfl (Z := (((Nat.log2 v : Nat) : Int) + e - 23)) (by rw [w64 (by omega)]; omega)) (ulC (ulC ulN)) (by decide) ?_
  refine GH.take 9 (v := (.int .i64 ((((Nat.log2 v : Nat) : Int) + e - 23)))) rfl (by kernel_rfl) (by kernel_rfl) (by kernel_rfl) (fun _ _ _ h => h) (Ex.maxI rfl rfl (Z := (((Nat.log2 v : Nat) : Int) + e - 23)) (by rw [if_neg (by omega)])) (ulC (ulC ulN)) (by decide) ?_
  refine GH.done (by kernel_rfl) ?_
  refine GE.thenN ?_
  refine GE.tail rfl (Ex.wp (v := (.int .i64 ((((Nat.log2 v : Nat) : Int) + e - 23)))) (Ex.assign rfl) (by decide)) (fun _ _ => ?_)
  refine GE.thenN ?_
  refine GC.seq ?_
  refine GC.region ?_
  refine GL.val (Ex.assign rfl) (by decide) ?_
  refine GL.nil ?_
  refine GE.thenN ?_
  refine GC.seq ?_
  refine GC.seq ?_
  refine GC.region ?_
  refine GL.val (Ex.move rfl) (by decide) ?_
  refine GL.val (Ex.move rfl) (by decide) ?_
  refine GL.val (v := (.bool (decide (e < ((((Nat.log2 v : Nat) : Int) + e - 23)))))) (Ex.gtr rfl rfl) (by decide) ?_
  refine GL.nil ?_
  refine GE.thenN ?_
  refine GC.cond rfl (fun hq11 => ?_) (fun hq11 => ?_)
  · replace hq11 := of_decide_eq_true hq11
    refine GC.seq ?_
    refine GC.region ?_
    refine GL.val (Ex.move rfl) (by decide) ?_
    refine GL.val (Ex.move rfl) (by decide) ?_
    refine GL.val (Ex.move rfl) (by decide) ?_
    refine GL.val (v := (.int .i64 ((((Nat.log2 v - 23) : Nat) : Int)))) (Ex.sub' rfl rfl (Z := (((Nat.log2 v - 23) : Nat) : Int)) (by rw [w64 (by omega)]; omega)) (by decide) ?_
    refine GL.val (v := (.int .i64 ((((Nat.log2 v - 24) : Nat) : Int)))) (Ex.sub' rfl rfl (Z := (((Nat.log2 v - 24) : Nat) : Int)) (by rw [w64 (by omega)]; omega)) (by decide) ?_
    refine GL.step (Stp.callR (vs := [(.slice (some ⟨b, 0, none⟩) 1 c), (.int .i64 ((((Nat.log2 v - 24) : Nat) : Int)))]) rfl rfl T.own78 (by decide) (fun wc hw => bit_p v b c ((Nat.log2 v - 24)) wc hv (hw.rd hc (fun x => x)) (by omega))) (fun xq12 hq13 => ?_)
    refine GL.val (v := (.bool (decide ((((Lg.bt v ((Nat.log2 v - 24)) : Nat) : Int)) = 1)))) (Ex.eql rfl rfl) (by decide) ?_
    refine GL.val (Ex.assign rfl) (by decide) ?_
    refine GL.nil ?_
    refine GE.thenN ?_
    refine GC.seq ?_
    refine GC.region ?_
    refine GL.val (v := (.pointer (some ⟨bq2, 4, none⟩))) (Ex.cast (Ex.fieldAddr rfl Try.underlying38 rfl T.sz4 (by decide)) rfl) (by decide) ?_
    refine GL.val (Ex.load rfl T.ag4 (i := 0) rfl rfl) (by decide) ?_
    refine GL.val (Ex.assign rfl) (by decide) ?_
    refine GL.nil ?_
    refine GE.thenN ?_
    refine GC.seq ?_
    refine GC.seq ?_
    refine GC.region ?_
    refine GL.val (Ex.assign rfl) (by decide) ?_
    refine GL.nil ?_
    refine GE.thenN ?_
    refine GC.block ?_
    refine GC.loop (σ := Nat × Bool) (fun q => q.1 ≤ (Nat.log2 v - 24) ∧ (q.2 = true ↔ v % 2 ^ q.1 ≠ 0)) (fun q => [(0, (.agg #[(.int .i64 23), (.int .i64 8)])), (1, (.agg #[(.int .i64 2), (.bool ng), (.slice (some ⟨b, 0, none⟩) 1 c), (.int .i64 e), (.bool false)])), (2, (.pointer (some ⟨bq1, 0, none⟩))), (3, (.pointer (some ⟨bq2, 0, none⟩))), (4, (.int .u64 0)), (5, (.slice (some ⟨b, 0, none⟩) 1 c)), (6, (.int .i64 e)), (7, (.int .i64 (-149))), (8, (.int .i64 ((((Nat.log2 v : Nat) : Int) + e - 23)))), (9, (.bool false)), (10, (.bool (decide ((((Lg.bt v ((Nat.log2 v - 24)) : Nat) : Int)) = 1)))), (11, (.bool q.2)), (12, (.int .i64 (((q.1 : Nat) : Int))))]) (fun q => [⟨bq2, [(.int .i64 2), (.bool ng), (.slice (some ⟨b, 0, none⟩) 1 c), (.int .i64 e), (.bool false)], 38, true⟩, ⟨bq1, [(.int .i64 23), (.int .i64 8)], 67, true⟩]) (fun q => (Nat.log2 v - 24) - q.1) ((0, false)) ⟨Nat.zero_le _, Lg.start_bit v⟩ ((sub_cons rfl ((sub_cons rfl ((sub_cons rfl ((sub_cons rfl ((sub_cons rfl ((sub_cons rfl ((sub_cons rfl ((sub_cons rfl ((sub_cons rfl ((sub_cons rfl ((sub_cons rfl ((sub_cons rfl ((sub_cons rfl ((sub_nil _)))))))))))))))))))))))))))) (ulC (ulC ulN)) (fun q hp => ?_)
    obtain ⟨i, rb⟩ := q
    have hpi : i ≤ (Nat.log2 v - 24) ∧ (rb = true ↔ v % 2 ^ i ≠ 0) := hp
    refine GC.seq ?_
    refine GC.seq ?_
    refine GC.region ?_
    refine GL.val (Ex.move rfl) (by decide) ?_
    refine GL.val (Ex.move rfl) (by decide) ?_
    refine GL.val (Ex.move rfl) (by decide) ?_
    refine GL.val (v := (.int .i64 ((((Nat.log2 v - 23) : Nat) : Int)))) (Ex.sub' rfl rfl (Z := (((Nat.log2 v - 23) : Nat) : Int)) (by rw [w64 (by omega)]; omega)) (by decide) ?_
    refine GL.val (v := (.int .i64 ((((Nat.log2 v - 24) : Nat) : Int)))) (Ex.sub' rfl rfl (Z := (((Nat.log2 v - 24) : Nat) : Int)) (by rw [w64 (by omega)]; omega)) (by decide) ?_
    by_cases hq14 : (((i : Nat) : Int)) < ((((Nat.log2 v - 24) : Nat) : Int))
    · refine GL.val (v := (.bool true)) (Ex.cast (Ex.lss rfl rfl) (congrArg Value.bool (decide_eq_true hq14))) (by decide) ?_
      refine GL.val (Ex.move rfl) (by decide) ?_
      refine GL.stepG (tj := 70) rfl rfl (Ex.wp (v := (.bool rb)) (Ex.move rfl) (by decide)) (fun _ _ => ?_)
      refine GL.stepG (tj := 70) rfl rfl (Ex.wp (v := (.bool (!rb))) (Ex.not rfl) (by decide)) (fun _ _ => ?_)
      refine GL.val (v := (.bool (!rb))) (Ex.pickT rfl rfl) (by decide) ?_
      refine GL.nil ?_
      refine GE.thenN ?_
      refine GC.cond rfl (fun hq15 => ?_) (fun hq15 => ?_)
      · refine GC.skip ?_
        refine GE.thenN ?_
        refine GC.seq ?_
        refine GC.block ?_
        refine GC.region ?_
        refine GL.val (Ex.move rfl) (by decide) ?_
        refine GL.val (Ex.move rfl) (by decide) ?_
        refine GL.step (Stp.callR (vs := [(.slice (some ⟨b, 0, none⟩) 1 c), (.int .i64 (((i : Nat) : Int)))]) rfl rfl T.own78 (by decide) (fun wc hw => bit_p v b c i wc hv (hw.rd hc (fun x => x)) (by omega))) (fun xq16 hq17 => ?_)
        refine GL.val (v := (.bool (decide ((((Lg.bt v i : Nat) : Int)) = 1)))) (Ex.eql rfl rfl) (by decide) ?_
        refine GL.val (Ex.assign rfl) (by decide) ?_
        refine GL.nil ?_
        refine GE.blockN ?_
        refine GE.thenN ?_
        refine GC.region ?_
        refine GL.val (Ex.move rfl) (by decide) ?_
        refine GL.val (v := (.int .i64 (((i + 1 : Nat) : Int)))) (Ex.add rfl rfl (Z := ((i + 1 : Nat) : Int)) (w64 (by omega))) (by decide) ?_
        refine GL.val (Ex.assign rfl) (by decide) ?_
        refine GL.nil ?_
        refine GE.thenN ?_
        exact Head.mk ((i + 1, decide ((((Lg.bt v i : Nat) : Int)) = 1))) ⟨(by show i + 1 ≤ (Nat.log2 v - 24); omega), Lg.again_bit hpi.2 hq15⟩ (by show (Nat.log2 v - 24) - (i + 1) < (Nat.log2 v - 24) - i; omega) ((sub_cons rfl ((sub_cons rfl ((sub_cons rfl ((sub_cons rfl ((sub_cons rfl ((sub_cons rfl ((sub_cons rfl ((sub_cons rfl ((sub_cons rfl ((sub_cons rfl ((sub_cons rfl ((sub_cons rfl ((sub_cons rfl ((sub_nil _)))))))))))))))))))))))))))) (ulC (ulC ulN))
      · refine GC.exit ?_
        refine GE.thenE ?_
        refine GE.thenE ?_
        refine GE.blockE ?_
        refine GE.thenN ?_
        refine GC.seq ?_
        have hb := Lg.exit_bit hpi (by first | exact Or.inl (by omega) | exact Or.inr (by simpa using hq15))
        have hqf := Lg.quo_facts (v := v) (by omega)
        have hql := Lg.log_23 hqf.1 hqf.2
        refine GC.region ?_
        refine GL.val (Ex.move rfl) (by decide) ?_
        refine GL.val (Ex.move rfl) (by decide) ?_
        refine GL.val (Ex.move rfl) (by decide) ?_
        refine GL.val (v := (.int .i64 ((((Nat.log2 v - 23) : Nat) : Int)))) (Ex.sub' rfl rfl (Z := (((Nat.log2 v - 23) : Nat) : Int)) (by rw [w64 (by omega)]; omega)) (by decide) ?_
        refine GL.step (Stp.callR (vs := [(.slice (some ⟨b, 0, none⟩) 1 c), (.int .i64 ((((Nat.log2 v - 23) : Nat) : Int)))]) rfl rfl T.own77 (by decide) (fun wc hw => down_pos v b c ((Nat.log2 v - 23)) wc hv (hw.rd hc (fun x => x)) (by omega) (by omega))) (fun xq18 hq19 => ?_)
        refine GL.val (Ex.move rfl) (by decide) ?_
        refine GL.val (Ex.extract rfl rfl) (by decide) ?_
        refine GL.val (Ex.extract rfl rfl) (by decide) ?_
        refine GL.val (Ex.assign rfl) (by decide) ?_
        refine GL.val (Ex.assign rfl) (by decide) ?_
        refine GL.nil ?_
        refine GE.thenN ?_
        refine GC.seq ?_
        refine GC.region ?_
        refine GL.val (Ex.move rfl) (by decide) ?_
        refine GL.val (Ex.assign rfl) (by decide) ?_
        refine GL.nil ?_
        refine GE.thenN ?_
        refine GC.region ?_
        by_cases hq20 : ((((Lg.bt v ((Nat.log2 v - 24)) : Nat) : Int)) = 1)
        · refine GL.val (v := (.bool true)) (Ex.cast (Ex.move rfl) (congrArg Value.bool (decide_eq_true hq20))) (by decide) ?_
          refine GL.val (Ex.move rfl) (by decide) ?_
          by_cases hq21 : rb = true
          · refine GL.stepG (tj := 90) rfl rfl (Ex.wp (v := (.bool true)) (Ex.cast (Ex.move rfl) (congrArg Value.bool (hq21))) (by decide)) (fun _ _ => ?_)
            refine GL.stepG (tj := 90) rfl rfl (Ex.wp (v := (.bool true)) (Ex.move rfl) (by decide)) (fun _ _ => ?_)
            refine GL.skipG (tj := 92) rfl rfl rfl (by decide) ?_
            refine GL.skipG (tj := 92) rfl rfl rfl (by decide) ?_
            refine GL.skipG (tj := 92) rfl rfl rfl (by decide) ?_
            refine GL.stepG (tj := 90) rfl rfl (Ex.wp (v := (.bool true)) (Ex.pickT rfl rfl) (by decide)) (fun _ _ => ?_)
            refine GL.val (v := (.bool true)) (Ex.pickT rfl rfl) (by decide) ?_
            refine GL.val (Ex.assign rfl) (by decide) ?_
            refine GL.nil ?_
            refine GE.thenN ?_
            refine GC.seq ?_
            refine GC.seq ?_
            refine GC.region ?_
            refine GL.val (Ex.move rfl) (by decide) ?_
            refine GL.nil ?_
            refine GE.thenN ?_
            refine GC.cond rfl (fun _ => ?_) (fun hq22 => by cases hq22)
            refine GC.region ?_
            refine GL.val (Ex.move rfl) (by decide) ?_
            refine GL.step (Stp.callR (vs := [(.int .u64 1)]) rfl rfl T.own62 (by decide) (fun wc hw => natof_pos 1 wc (by decide))) (fun xq23 hq24 => ?_)
            refine GL.step (Stp.callR (vs := [(.slice (some ⟨xq18.1, 0, none⟩) 1 1), (.slice (some ⟨xq23, 0, none⟩) 1 2)]) rfl rfl T.own64 (by decide) (fun wc hw => plus_1 (v / 2 ^ ((Nat.log2 v - 23))) xq18.1 1 xq23 2 wc (by omega) (Lg.rd1 (hw.rdOf (i := 1) rfl 0)) (Lg.rd1 (hw.rdOf (i := 0) rfl 0)))) (fun xq25 hq26 => ?_)
            refine GL.val (Ex.assign rfl) (by decide) ?_
            refine GL.nil ?_
            refine GE.thenN ?_
            refine GC.seq ?_
            refine GC.seq ?_
            refine GC.draw [⟨xq25, [(.int .u32 ((((v / 2 ^ ((Nat.log2 v - 23))) + 1 : Nat) : Int))), (.int .u32 0)], 23, true⟩, ⟨xq23, [(.int .u32 1), (.int .u32 0)], 23, true⟩, ⟨xq18.1, [(.int .u32 (((v / 2 ^ ((Nat.log2 v - 23)) : Nat) : Int)))], 23, true⟩, ⟨bq2, [(.int .i64 2), (.bool ng), (.slice (some ⟨b, 0, none⟩) 1 c), (.int .i64 e), (.bool false)], 38, true⟩, ⟨bq1, [(.int .i64 23), (.int .i64 8)], 67, true⟩] T.mixed (fuel := 6) rfl rfl ?_
            refine GH.take 0 (v := (.slice (some ⟨xq25, 0, none⟩) 1 2)) rfl (by kernel_rfl) (by kernel_rfl) (by kernel_rfl) (fun _ _ _ h => h) (Ex.move rfl) (ulC (ulC (ulC (ulC (ulC ulN))))) (by decide) ?_
            refine GH.take 2 (v := (.pointer (some ⟨bq1, 0, none⟩))) rfl (by kernel_rfl) (by kernel_rfl) (by kernel_rfl) (fun _ _ _ h => h) (Ex.cast (Ex.fieldAddr rfl Try.underlying67 rfl T.sz3 (by decide)) rfl) (ulC (ulC (ulC (ulC (ulC ulN))))) (by decide) ?_
            refine GH.take 3 (v := (.int .i64 23)) rfl (by kernel_rfl) (by kernel_rfl) (by kernel_rfl) (fun _ _ _ h => h) (Ex.load rfl T.ag3 (i := 4) rfl rfl) (ulC (ulC (ulC (ulC (ulC ulN))))) (by decide) ?_
            refine GH.take 4 (v := (.int .i64 24)) rfl (by kernel_rfl) (by kernel_rfl) (by kernel_rfl) (fun _ _ _ h => h) (Ex.add rfl rfl (Z := 24) (by decide)) (ulC (ulC (ulC (ulC (ulC ulN))))) (by decide) ?_
            refine GH.one 1 rfl (by kernel_rfl) (Stp.callR (vs := [(.slice (some ⟨xq25, 0, none⟩) 1 2)]) rfl rfl T.own88 (by decide) (fun wc hw => bits_pos ((v / 2 ^ ((Nat.log2 v - 23))) + 1) xq25 2 wc (by omega) (Lg.rd1 (hw.rdOf (i := 0) rfl 0)))) (fun _ => (ulC (ulC (ulC (ulC (ulC ulN)))))) (fun xq29 hq30 => ?_)
            refine GH.take 5 (v := (.bool (decide (24 < (((Nat.log2 ((v / 2 ^ ((Nat.log2 v - 23))) + 1) + 1 : Nat) : Int)))))) rfl (by kernel_rfl) (by kernel_rfl) (by kernel_rfl) (fun _ _ _ h => h) (Ex.gtr rfl rfl) (ulC (ulC (ulC (ulC (ulC ulN))))) (by decide) ?_
            refine GH.done (by kernel_rfl) ?_
            refine GE.thenN ?_
            refine GC.cond rfl (fun hq31 => ?_) (fun hq31 => ?_)
            · replace hq31 := of_decide_eq_true hq31
              have hk24 : (v / 2 ^ (Nat.log2 v - 23)) + 1 = 16777216 := Lg.is_24 (by omega) (by omega)
              have hk23 : ((v / 2 ^ (Nat.log2 v - 23)) + 1) / 2 ^ 1 = 8388608 := by omega
              refine GC.seq ?_
              refine GC.region ?_
              refine GL.val (Ex.move rfl) (by decide) ?_
              refine GL.step (Stp.callR (vs := [(.slice (some ⟨xq25, 0, none⟩) 1 2), (.int .i64 1)]) rfl rfl T.own77 (by decide) (fun wc hw => down_pos ((v / 2 ^ ((Nat.log2 v - 23))) + 1) xq25 2 1 wc (by omega) (Lg.rd1 (hw.rdOf (i := 0) rfl 0)) (by omega) (by omega))) (fun xq32 hq33 => ?_)
              refine GL.val (Ex.move rfl) (by decide) ?_
              refine GL.val (Ex.extract rfl rfl) (by decide) ?_
              refine GL.val (Ex.extract rfl rfl) (by decide) ?_
              refine GL.val (Ex.assign rfl) (by decide) ?_
              refine GL.nil ?_
              refine GE.thenN ?_
              refine GC.region ?_
              refine GL.val (Ex.move rfl) (by decide) ?_
              refine GL.val (v := (.int .i64 (((((Nat.log2 v : Nat) : Int) + e - 23) + 1)))) (Ex.add rfl rfl (Z := ((((Nat.log2 v : Nat) : Int) + e - 23) + 1)) (w64 (by omega))) (by decide) ?_
              refine GL.val (Ex.assign rfl) (by decide) ?_
              refine GL.nil ?_
              refine GE.thenN ?_
              refine GC.seq ?_
              refine GC.region ?_
              refine GL.val (Ex.move rfl) (by decide) ?_
              refine GL.step (Stp.callR (vs := [(.slice (some ⟨xq32.1, 0, none⟩) 1 1)]) rfl rfl T.own89 (by decide) (fun wc hw => low_pos (((v / 2 ^ ((Nat.log2 v - 23))) + 1) / 2 ^ 1) xq32.1 1 wc (by omega) (Lg.rd1 (hw.rdOf (i := 0) rfl 0)))) (fun xq34 hq35 => ?_)
              refine GL.val (Ex.assign rfl) (by decide) ?_
              refine GL.nil ?_
              refine GE.thenN ?_
              refine GC.seq ?_
              refine GC.seq ?_
              refine GC.region ?_
              refine GL.val (Ex.move rfl) (by decide) ?_
              refine GL.val (v := (.pointer (some ⟨bq1, 0, none⟩))) (Ex.cast (Ex.fieldAddr rfl Try.underlying67 rfl T.sz3 (by decide)) rfl) (by decide) ?_
              refine GL.val (Ex.load rfl T.ag3 (i := 5) rfl rfl) (by decide) ?_
              refine GL.val (v := (.int .u64 8388608)) (Ex.shl rfl (m := 23) rfl (by decide) (Z := 8388608) (by decide)) (by decide) ?_
              refine GL.val (v := (.bool false)) (Ex.cast (Ex.lss rfl rfl) (congrArg Value.bool (decide_eq_false (by omega)))) (by decide) ?_
              refine GL.nil ?_
              refine GE.thenN ?_
              refine GC.cond rfl (fun hq36 => by cases hq36) (fun _ => ?_)
              refine GC.skip ?_
              refine GE.thenN ?_
              refine GC.seq ?_
              refine GC.region ?_
              refine GL.val (Ex.move rfl) (by decide) ?_
              refine GL.val (v := (.agg #[(.int .i64 23), (.int .i64 8)])) (Ex.loadA rfl T.ag67 T.sz67 (i := 5) rfl (vs := [(.int .i64 23), (.int .i64 8)]) rfl rfl) (by decide) ?_
              refine GL.step (Stp.callR (vs := [(.agg #[(.int .i64 23), (.int .i64 8)])]) rfl rfl T.own83 (by decide) (fun wc hw => j83_2  wc )) (fun xq37 hq38 => ?_)
              refine GL.val (v := (.int .i64 ((((((Nat.log2 v : Nat) : Int) + e - 23) + 1) + 150)))) (Ex.add rfl rfl (Z := (((((Nat.log2 v : Nat) : Int) + e - 23) + 1) + 150)) (w64 (by omega))) (by decide) ?_
              refine GL.val (Ex.assign rfl) (by decide) ?_
              refine GL.nil ?_
              refine GE.thenN ?_
              refine GC.seq ?_
              refine GC.seq ?_
              refine GC.region ?_
              refine GL.val (Ex.move rfl) (by decide) ?_
              refine GL.val (v := (.int .u64 ((((((Nat.log2 v : Nat) : Int) + e - 23) + 1) + 150)))) (Ex.conv rfl Try.underlying3 Try.underlying70 (Z := (((((Nat.log2 v : Nat) : Int) + e - 23) + 1) + 150)) (wu64b (by omega))) (by decide) ?_
              refine GL.val (v := (.agg #[(.int .i64 23), (.int .i64 8)])) (Ex.loadA rfl T.ag67 T.sz67 (i := 5) rfl (vs := [(.int .i64 23), (.int .i64 8)]) rfl rfl) (by decide) ?_
              refine GL.step (Stp.callR (vs := [(.agg #[(.int .i64 23), (.int .i64 8)])]) rfl rfl T.own82 (by decide) (fun wc hw => j82_1  wc )) (fun xq39 hq40 => ?_)
              refine GL.val (v := (.bool false)) (Ex.cast (Ex.geq rfl rfl) (congrArg Value.bool (decide_eq_false (by omega)))) (by decide) ?_
              refine GL.nil ?_
              refine GE.thenN ?_
              refine GC.cond rfl (fun hq41 => by cases hq41) (fun _ => ?_)
              refine GC.skip ?_
              refine GE.thenN ?_
              refine GC.seq ?_
              refine GC.drawP [⟨xq32.1, [(.int .u32 (((((v / 2 ^ ((Nat.log2 v - 23))) + 1) / 2 ^ 1 : Nat) : Int)))], 23, true⟩, ⟨xq25, [(.int .u32 ((((v / 2 ^ ((Nat.log2 v - 23))) + 1 : Nat) : Int))), (.int .u32 0)], 23, true⟩, ⟨xq23, [(.int .u32 1), (.int .u32 0)], 23, true⟩, ⟨xq18.1, [(.int .u32 (((v / 2 ^ ((Nat.log2 v - 23)) : Nat) : Int)))], 23, true⟩, ⟨bq2, [(.int .i64 2), (.bool ng), (.slice (some ⟨b, 0, none⟩) 1 c), (.int .i64 e), (.bool false)], 38, true⟩, ⟨bq1, [(.int .i64 23), (.int .i64 8)], 67, true⟩] T.mixed (by kernel_rfl) (by kernel_rfl) (fuel := 17) rfl rfl ?_
              refine GH.take 0 (v := (.agg #[(.int .i64 23), (.int .i64 8)])) rfl (by kernel_rfl) (by kernel_rfl) (by kernel_rfl) (fun _ _ _ h => h) (Ex.loadA rfl T.ag67 T.sz67 (i := 5) rfl (vs := [(.int .i64 23), (.int .i64 8)]) rfl rfl) (ulC (ulC (ulC (ulC (ulC (ulC ulN)))))) (by decide) ?_
              refine GH.take 1 (v := (.pointer (some ⟨bq2, 1, none⟩))) rfl (by kernel_rfl) (by kernel_rfl) (by kernel_rfl) (fun _ _ _ h => h) (Ex.cast (Ex.fieldAddr rfl Try.underlying38 rfl T.sz4 (by decide)) rfl) (ulC (ulC (ulC (ulC (ulC (ulC ulN)))))) (by decide) ?_
              refine GH.take 2 (v := (.bool ng)) rfl (by kernel_rfl) (by kernel_rfl) (by kernel_rfl) (fun _ _ _ h => h) (Ex.load rfl T.ag4 (i := 4) rfl rfl) (ulC (ulC (ulC (ulC (ulC (ulC ulN)))))) (by decide) ?_
              refine GH.take 4 (v := (.int .i64 ((((((Nat.log2 v : Nat) : Int) + e - 23) + 1) + 150)))) rfl (by kernel_rfl) (by kernel_rfl) (by kernel_rfl) (fun _ _ _ h => h) (Ex.move rfl) (ulC (ulC (ulC (ulC (ulC (ulC ulN)))))) (by decide) ?_
              refine GH.take 5 (v := (.int .u64 ((((((Nat.log2 v : Nat) : Int) + e - 23) + 1) + 150)))) rfl (by kernel_rfl) (by kernel_rfl) (by kernel_rfl) (fun _ _ _ h => h) (Ex.conv rfl Try.underlying3 Try.underlying70 (Z := (((((Nat.log2 v : Nat) : Int) + e - 23) + 1) + 150)) (wu64b (by omega))) (ulC (ulC (ulC (ulC (ulC (ulC ulN)))))) (by decide) ?_
              refine GH.take 6 (v := (.pointer (some ⟨bq1, 0, none⟩))) rfl (by kernel_rfl) (by kernel_rfl) (by kernel_rfl) (fun _ _ _ h => h) (Ex.cast (Ex.fieldAddr rfl Try.underlying67 rfl T.sz3 (by decide)) rfl) (ulC (ulC (ulC (ulC (ulC (ulC ulN)))))) (by decide) ?_
              refine GH.take 7 (v := (.int .i64 23)) rfl (by kernel_rfl) (by kernel_rfl) (by kernel_rfl) (fun _ _ _ h => h) (Ex.load rfl T.ag3 (i := 5) rfl rfl) (ulC (ulC (ulC (ulC (ulC (ulC ulN)))))) (by decide) ?_
              refine GH.take 8 (v := (.int .u64 ((((((((((Nat.log2 v : Nat) : Int) + e - 23) + 1) + 150)).toNat : Nat) : Int) * 8388608)))) rfl (by kernel_rfl) (by kernel_rfl) (by kernel_rfl) (fun _ _ _ h => h) (Ex.shl rfl (m := 23) rfl (by decide) (Z := ((((((((Nat.log2 v : Nat) : Int) + e - 23) + 1) + 150)).toNat : Nat) : Int) * 8388608) (by rw [show ((2 : Int) ^ 23) = 8388608 by decide, wu64b (by omega)]; omega)) (ulC (ulC (ulC (ulC (ulC (ulC ulN)))))) (by decide) ?_
              refine GH.take 10 (v := (.int .u64 (((((v / 2 ^ ((Nat.log2 v - 23))) + 1) / 2 ^ 1 : Nat) : Int)))) rfl (by kernel_rfl) (by kernel_rfl) (by kernel_rfl) (fun _ _ _ h => h) (Ex.move rfl) (ulC (ulC (ulC (ulC (ulC (ulC ulN)))))) (by decide) ?_
              refine GH.take 11 (v := (.pointer (some ⟨bq1, 0, none⟩))) rfl (by kernel_rfl) (by kernel_rfl) (by kernel_rfl) (fun _ _ _ h => h) (Ex.cast (Ex.fieldAddr rfl Try.underlying67 rfl T.sz3 (by decide)) rfl) (ulC (ulC (ulC (ulC (ulC (ulC ulN)))))) (by decide) ?_
              refine GH.take 12 (v := (.int .i64 23)) rfl (by kernel_rfl) (by kernel_rfl) (by kernel_rfl) (fun _ _ _ h => h) (Ex.load rfl T.ag3 (i := 5) rfl rfl) (ulC (ulC (ulC (ulC (ulC (ulC ulN)))))) (by decide) ?_
              refine GH.take 13 (v := (.int .u64 8388608)) rfl (by kernel_rfl) (by kernel_rfl) (by kernel_rfl) (fun _ _ _ h => h) (Ex.shl rfl (m := 23) rfl (by decide) (Z := 8388608) (by decide)) (ulC (ulC (ulC (ulC (ulC (ulC ulN)))))) (by decide) ?_
              refine GH.take 14 (v := (.int .u64 8388607)) rfl (by kernel_rfl) (by kernel_rfl) (by kernel_rfl) (fun _ _ _ h => h) (Ex.sub' rfl rfl (Z := 8388607) (by decide)) (ulC (ulC (ulC (ulC (ulC (ulC ulN)))))) (by decide) ?_
              refine GH.take 15 (v := (.int .u64 ((((((v / 2 ^ ((Nat.log2 v - 23))) + 1) / 2 ^ 1 - 8388608) : Nat) : Int)))) rfl (by kernel_rfl) (by kernel_rfl) (by kernel_rfl) (fun _ _ _ h => h) (Ex.bits rfl rfl (by simp) (Z := (((((v / 2 ^ ((Nat.log2 v - 23))) + 1) / 2 ^ 1 - 8388608) : Nat) : Int)) (andm64 23 (by omega) (by omega) (by omega) (by omega) rfl)) (ulC (ulC (ulC (ulC (ulC (ulC ulN)))))) (by decide) ?_
              refine GH.one 3 rfl (by kernel_rfl) (Stp.callR (vs := [(.agg #[(.int .i64 23), (.int .i64 8)]), (.bool ng)]) rfl rfl T.own87 (by decide) (fun wc hw => sign_p ng wc)) (fun _ => (ulC (ulC (ulC (ulC (ulC (ulC ulN))))))) (fun xq44 hq45 => ?_)
              refine GH.take 9 (v := (.int .u64 ((Lg.sg ng + ((((((((Nat.log2 v : Nat) : Int) + e - 23) + 1) + 150)).toNat * 8388608 : Nat) : Int))))) rfl (by kernel_rfl) (by kernel_rfl) (by kernel_rfl) (fun _ _ _ h => h) (Ex.bits rfl rfl (by simp) (Z := Lg.sg ng + ((((((((Nat.log2 v : Nat) : Int) + e - 23) + 1) + 150)).toNat * 8388608 : Nat) : Int)) (Lg.or_sign (by omega) (by omega))) (ulC (ulC (ulC (ulC (ulC (ulC ulN)))))) (by decide) ?_
              refine GH.take 16 (v := (.int .u64 ((Lg.sg ng + ((((((((Nat.log2 v : Nat) : Int) + e - 23) + 1) + 150)).toNat * 8388608 + (((v / 2 ^ ((Nat.log2 v - 23))) + 1) / 2 ^ 1 - 8388608) : Nat) : Int))))) rfl (by kernel_rfl) (by kernel_rfl) (by kernel_rfl) (fun _ _ _ h => h) (Ex.bits rfl rfl (by simp) (Z := Lg.sg ng + ((((((((Nat.log2 v : Nat) : Int) + e - 23) + 1) + 150)).toNat * 8388608 + (((v / 2 ^ ((Nat.log2 v - 23))) + 1) / 2 ^ 1 - 8388608) : Nat) : Int)) (Lg.or_low (by omega) (by omega))) (ulC (ulC (ulC (ulC (ulC (ulC ulN)))))) (by decide) ?_
              refine GH.done (by kernel_rfl) ?_
              refine GE.thenN ?_
              refine GE.tail rfl (Ex.wp (v := (.int .u64 ((Lg.sg ng + ((((((((Nat.log2 v : Nat) : Int) + e - 23) + 1) + 150)).toNat * 8388608 + (((v / 2 ^ ((Nat.log2 v - 23))) + 1) / 2 ^ 1 - 8388608) : Nat) : Int))))) (Ex.assign rfl) (by decide)) (fun _ _ => ?_)
              refine GE.thenN ?_
              refine GC.ret ?_
              refine GC.ret1 rfl (Rv.tmp rfl) (fun wN HN => ?_)
              exact HN.ret () trivial (by rw [Lg.RD_of (v := v) (K := ((v / 2 ^ (Nat.log2 v - 23)) + 1)) (e := e) hv.1 hv.2 he ((if_pos (by omega)).trans (Lg.kept_up (by omega) (by omega) (by first | exact Or.inl (hb.1 (by assumption)) | exact Or.inr (by omega)))) (by omega)]) (List.nil_sublist _) rfl
            · replace hq31 := of_decide_eq_false hq31
              have hk24 : (v / 2 ^ (Nat.log2 v - 23)) + 1 < 16777216 := Lg.lt_24 (by omega)
              refine GC.skip ?_
              refine GE.thenN ?_
              refine GC.seq ?_
              refine GC.region ?_
              refine GL.val (Ex.move rfl) (by decide) ?_
              refine GL.step (Stp.callR (vs := [(.slice (some ⟨xq25, 0, none⟩) 1 2)]) rfl rfl T.own89 (by decide) (fun wc hw => low_pos ((v / 2 ^ ((Nat.log2 v - 23))) + 1) xq25 2 wc (by omega) (Lg.rd1 (hw.rdOf (i := 0) rfl 0)))) (fun xq46 hq47 => ?_)
              refine GL.val (Ex.assign rfl) (by decide) ?_
              refine GL.nil ?_
              refine GE.thenN ?_
              refine GC.seq ?_
              refine GC.seq ?_
              refine GC.region ?_
              refine GL.val (Ex.move rfl) (by decide) ?_
              refine GL.val (v := (.pointer (some ⟨bq1, 0, none⟩))) (Ex.cast (Ex.fieldAddr rfl Try.underlying67 rfl T.sz3 (by decide)) rfl) (by decide) ?_
              refine GL.val (Ex.load rfl T.ag3 (i := 4) rfl rfl) (by decide) ?_
              refine GL.val (v := (.int .u64 8388608)) (Ex.shl rfl (m := 23) rfl (by decide) (Z := 8388608) (by decide)) (by decide) ?_
              refine GL.val (v := (.bool false)) (Ex.cast (Ex.lss rfl rfl) (congrArg Value.bool (decide_eq_false (by omega)))) (by decide) ?_
              refine GL.nil ?_
              refine GE.thenN ?_
              refine GC.cond rfl (fun hq48 => by cases hq48) (fun _ => ?_)
              refine GC.skip ?_
              refine GE.thenN ?_
              refine GC.seq ?_
              refine GC.region ?_
              refine GL.val (Ex.move rfl) (by decide) ?_
              refine GL.val (v := (.agg #[(.int .i64 23), (.int .i64 8)])) (Ex.loadA rfl T.ag67 T.sz67 (i := 4) rfl (vs := [(.int .i64 23), (.int .i64 8)]) rfl rfl) (by decide) ?_
              refine GL.step (Stp.callR (vs := [(.agg #[(.int .i64 23), (.int .i64 8)])]) rfl rfl T.own83 (by decide) (fun wc hw => j83_2  wc )) (fun xq49 hq50 => ?_)
              refine GL.val (v := (.int .i64 (((((Nat.log2 v : Nat) : Int) + e - 23) + 150)))) (Ex.add rfl rfl (Z := ((((Nat.log2 v : Nat) : Int) + e - 23) + 150)) (w64 (by omega))) (by decide) ?_
              refine GL.val (Ex.assign rfl) (by decide) ?_
              refine GL.nil ?_
              refine GE.thenN ?_
              refine GC.seq ?_
              refine GC.seq ?_
              refine GC.region ?_
              refine GL.val (Ex.move rfl) (by decide) ?_
              refine GL.val (v := (.int .u64 (((((Nat.log2 v : Nat) : Int) + e - 23) + 150)))) (Ex.conv rfl Try.underlying3 Try.underlying70 (Z := ((((Nat.log2 v : Nat) : Int) + e - 23) + 150)) (wu64b (by omega))) (by decide) ?_
              refine GL.val (v := (.agg #[(.int .i64 23), (.int .i64 8)])) (Ex.loadA rfl T.ag67 T.sz67 (i := 4) rfl (vs := [(.int .i64 23), (.int .i64 8)]) rfl rfl) (by decide) ?_
              refine GL.step (Stp.callR (vs := [(.agg #[(.int .i64 23), (.int .i64 8)])]) rfl rfl T.own82 (by decide) (fun wc hw => j82_1  wc )) (fun xq51 hq52 => ?_)
              refine GL.val (v := (.bool false)) (Ex.cast (Ex.geq rfl rfl) (congrArg Value.bool (decide_eq_false (by omega)))) (by decide) ?_
              refine GL.nil ?_
              refine GE.thenN ?_
              refine GC.cond rfl (fun hq53 => by cases hq53) (fun _ => ?_)
              refine GC.skip ?_
              refine GE.thenN ?_
              refine GC.seq ?_
              refine GC.drawP [⟨xq25, [(.int .u32 ((((v / 2 ^ ((Nat.log2 v - 23))) + 1 : Nat) : Int))), (.int .u32 0)], 23, true⟩, ⟨xq23, [(.int .u32 1), (.int .u32 0)], 23, true⟩, ⟨xq18.1, [(.int .u32 (((v / 2 ^ ((Nat.log2 v - 23)) : Nat) : Int)))], 23, true⟩, ⟨bq2, [(.int .i64 2), (.bool ng), (.slice (some ⟨b, 0, none⟩) 1 c), (.int .i64 e), (.bool false)], 38, true⟩, ⟨bq1, [(.int .i64 23), (.int .i64 8)], 67, true⟩] T.mixed (by kernel_rfl) (by kernel_rfl) (fuel := 17) rfl rfl ?_
              refine GH.take 0 (v := (.agg #[(.int .i64 23), (.int .i64 8)])) rfl (by kernel_rfl) (by kernel_rfl) (by kernel_rfl) (fun _ _ _ h => h) (Ex.loadA rfl T.ag67 T.sz67 (i := 4) rfl (vs := [(.int .i64 23), (.int .i64 8)]) rfl rfl) (ulC (ulC (ulC (ulC (ulC ulN))))) (by decide) ?_
              refine GH.take 1 (v := (.pointer (some ⟨bq2, 1, none⟩))) rfl (by kernel_rfl) (by kernel_rfl) (by kernel_rfl) (fun _ _ _ h => h) (Ex.cast (Ex.fieldAddr rfl Try.underlying38 rfl T.sz4 (by decide)) rfl) (ulC (ulC (ulC (ulC (ulC ulN))))) (by decide) ?_
              refine GH.take 2 (v := (.bool ng)) rfl (by kernel_rfl) (by kernel_rfl) (by kernel_rfl) (fun _ _ _ h => h) (Ex.load rfl T.ag4 (i := 3) rfl rfl) (ulC (ulC (ulC (ulC (ulC ulN))))) (by decide) ?_
              refine GH.take 4 (v := (.int .i64 (((((Nat.log2 v : Nat) : Int) + e - 23) + 150)))) rfl (by kernel_rfl) (by kernel_rfl) (by kernel_rfl) (fun _ _ _ h => h) (Ex.move rfl) (ulC (ulC (ulC (ulC (ulC ulN))))) (by decide) ?_
              refine GH.take 5 (v := (.int .u64 (((((Nat.log2 v : Nat) : Int) + e - 23) + 150)))) rfl (by kernel_rfl) (by kernel_rfl) (by kernel_rfl) (fun _ _ _ h => h) (Ex.conv rfl Try.underlying3 Try.underlying70 (Z := ((((Nat.log2 v : Nat) : Int) + e - 23) + 150)) (wu64b (by omega))) (ulC (ulC (ulC (ulC (ulC ulN))))) (by decide) ?_
              refine GH.take 6 (v := (.pointer (some ⟨bq1, 0, none⟩))) rfl (by kernel_rfl) (by kernel_rfl) (by kernel_rfl) (fun _ _ _ h => h) (Ex.cast (Ex.fieldAddr rfl Try.underlying67 rfl T.sz3 (by decide)) rfl) (ulC (ulC (ulC (ulC (ulC ulN))))) (by decide) ?_
              refine GH.take 7 (v := (.int .i64 23)) rfl (by kernel_rfl) (by kernel_rfl) (by kernel_rfl) (fun _ _ _ h => h) (Ex.load rfl T.ag3 (i := 4) rfl rfl) (ulC (ulC (ulC (ulC (ulC ulN))))) (by decide) ?_
              refine GH.take 8 (v := (.int .u64 (((((((((Nat.log2 v : Nat) : Int) + e - 23) + 150)).toNat : Nat) : Int) * 8388608)))) rfl (by kernel_rfl) (by kernel_rfl) (by kernel_rfl) (fun _ _ _ h => h) (Ex.shl rfl (m := 23) rfl (by decide) (Z := (((((((Nat.log2 v : Nat) : Int) + e - 23) + 150)).toNat : Nat) : Int) * 8388608) (by rw [show ((2 : Int) ^ 23) = 8388608 by decide, wu64b (by omega)]; omega)) (ulC (ulC (ulC (ulC (ulC ulN))))) (by decide) ?_
              refine GH.take 10 (v := (.int .u64 ((((v / 2 ^ ((Nat.log2 v - 23))) + 1 : Nat) : Int)))) rfl (by kernel_rfl) (by kernel_rfl) (by kernel_rfl) (fun _ _ _ h => h) (Ex.move rfl) (ulC (ulC (ulC (ulC (ulC ulN))))) (by decide) ?_
              refine GH.take 11 (v := (.pointer (some ⟨bq1, 0, none⟩))) rfl (by kernel_rfl) (by kernel_rfl) (by kernel_rfl) (fun _ _ _ h => h) (Ex.cast (Ex.fieldAddr rfl Try.underlying67 rfl T.sz3 (by decide)) rfl) (ulC (ulC (ulC (ulC (ulC ulN))))) (by decide) ?_
              refine GH.take 12 (v := (.int .i64 23)) rfl (by kernel_rfl) (by kernel_rfl) (by kernel_rfl) (fun _ _ _ h => h) (Ex.load rfl T.ag3 (i := 4) rfl rfl) (ulC (ulC (ulC (ulC (ulC ulN))))) (by decide) ?_
              refine GH.take 13 (v := (.int .u64 8388608)) rfl (by kernel_rfl) (by kernel_rfl) (by kernel_rfl) (fun _ _ _ h => h) (Ex.shl rfl (m := 23) rfl (by decide) (Z := 8388608) (by decide)) (ulC (ulC (ulC (ulC (ulC ulN))))) (by decide) ?_
              refine GH.take 14 (v := (.int .u64 8388607)) rfl (by kernel_rfl) (by kernel_rfl) (by kernel_rfl) (fun _ _ _ h => h) (Ex.sub' rfl rfl (Z := 8388607) (by decide)) (ulC (ulC (ulC (ulC (ulC ulN))))) (by decide) ?_
              refine GH.take 15 (v := (.int .u64 (((((v / 2 ^ ((Nat.log2 v - 23))) + 1 - 8388608) : Nat) : Int)))) rfl (by kernel_rfl) (by kernel_rfl) (by kernel_rfl) (fun _ _ _ h => h) (Ex.bits rfl rfl (by simp) (Z := ((((v / 2 ^ ((Nat.log2 v - 23))) + 1 - 8388608) : Nat) : Int)) (andm64 23 (by omega) (by omega) (by omega) (by omega) rfl)) (ulC (ulC (ulC (ulC (ulC ulN))))) (by decide) ?_
              refine GH.one 3 rfl (by kernel_rfl) (Stp.callR (vs := [(.agg #[(.int .i64 23), (.int .i64 8)]), (.bool ng)]) rfl rfl T.own87 (by decide) (fun wc hw => sign_p ng wc)) (fun _ => (ulC (ulC (ulC (ulC (ulC ulN)))))) (fun xq56 hq57 => ?_)
              refine GH.take 9 (v := (.int .u64 ((Lg.sg ng + (((((((Nat.log2 v : Nat) : Int) + e - 23) + 150)).toNat * 8388608 : Nat) : Int))))) rfl (by kernel_rfl) (by kernel_rfl) (by kernel_rfl) (fun _ _ _ h => h) (Ex.bits rfl rfl (by simp) (Z := Lg.sg ng + (((((((Nat.log2 v : Nat) : Int) + e - 23) + 150)).toNat * 8388608 : Nat) : Int)) (Lg.or_sign (by omega) (by omega))) (ulC (ulC (ulC (ulC (ulC ulN))))) (by decide) ?_
              refine GH.take 16 (v := (.int .u64 ((Lg.sg ng + (((((((Nat.log2 v : Nat) : Int) + e - 23) + 150)).toNat * 8388608 + ((v / 2 ^ ((Nat.log2 v - 23))) + 1 - 8388608) : Nat) : Int))))) rfl (by kernel_rfl) (by kernel_rfl) (by kernel_rfl) (fun _ _ _ h => h) (Ex.bits rfl rfl (by simp) (Z := Lg.sg ng + (((((((Nat.log2 v : Nat) : Int) + e - 23) + 150)).toNat * 8388608 + ((v / 2 ^ ((Nat.log2 v - 23))) + 1 - 8388608) : Nat) : Int)) (Lg.or_low (by omega) (by omega))) (ulC (ulC (ulC (ulC (ulC ulN))))) (by decide) ?_
              refine GH.done (by kernel_rfl) ?_
              refine GE.thenN ?_
              refine GE.tail rfl (Ex.wp (v := (.int .u64 ((Lg.sg ng + (((((((Nat.log2 v : Nat) : Int) + e - 23) + 150)).toNat * 8388608 + ((v / 2 ^ ((Nat.log2 v - 23))) + 1 - 8388608) : Nat) : Int))))) (Ex.assign rfl) (by decide)) (fun _ _ => ?_)
              refine GE.thenN ?_
              refine GC.ret ?_
              refine GC.ret1 rfl (Rv.tmp rfl) (fun wN HN => ?_)
              exact HN.ret () trivial (by rw [Lg.RD_of (v := v) (K := ((v / 2 ^ (Nat.log2 v - 23)) + 1)) (e := e) hv.1 hv.2 he ((if_pos (by omega)).trans (Lg.kept_up (by omega) (by omega) (by first | exact Or.inl (hb.1 (by assumption)) | exact Or.inr (by omega)))) (by omega)]) (List.nil_sublist _) rfl
          · refine GL.stepG (tj := 90) rfl rfl (Ex.wp (v := (.bool false)) (Ex.cast (Ex.move rfl) (congrArg Value.bool ((Bool.eq_false_iff.2 hq21)))) (by decide)) (fun _ _ => ?_)
            refine GL.stepG (tj := 90) rfl rfl (Ex.wp (v := (.bool false)) (Ex.move rfl) (by decide)) (fun _ _ => ?_)
            refine GL.stepG (tj := 92) rfl rfl (Ex.wp (v := (.slice (some ⟨xq18.1, 0, none⟩) 1 1)) (Ex.move rfl) (by decide)) (fun _ _ => ?_)
            refine GL.stepG (tj := 92) rfl rfl (Stp.callR (vs := [(.slice (some ⟨xq18.1, 0, none⟩) 1 1), (.int .i64 0)]) rfl rfl T.own78 (by decide) (fun wc hw => bit_p (v / 2 ^ ((Nat.log2 v - 23))) xq18.1 1 0 wc (by omega) (Lg.rd1 (hw.rdOf (i := 0) rfl 0)) (by omega))) (fun xq58 hq59 => ?_)
            refine GL.stepG (tj := 92) rfl rfl (Ex.wp (v := (.bool (decide ((((Lg.bt (v / 2 ^ ((Nat.log2 v - 23))) 0 : Nat) : Int)) = 1)))) (Ex.eql rfl rfl) (by decide)) (fun _ _ => ?_)
            refine GL.stepG (tj := 90) rfl rfl (Ex.wp (v := (.bool (decide ((((Lg.bt (v / 2 ^ ((Nat.log2 v - 23))) 0 : Nat) : Int)) = 1)))) (Ex.pickF rfl rfl) (by decide)) (fun _ _ => ?_)
            refine GL.val (v := (.bool (decide ((((Lg.bt (v / 2 ^ ((Nat.log2 v - 23))) 0 : Nat) : Int)) = 1)))) (Ex.pickT rfl rfl) (by decide) ?_
            refine GL.val (Ex.assign rfl) (by decide) ?_
            refine GL.nil ?_
            refine GE.thenN ?_
            refine GC.seq ?_
            refine GC.seq ?_
            refine GC.region ?_
            refine GL.val (Ex.move rfl) (by decide) ?_
            refine GL.nil ?_
            refine GE.thenN ?_
            refine GC.cond rfl (fun hq60 => ?_) (fun hq60 => ?_)
            · replace hq60 := of_decide_eq_true hq60
              refine GC.region ?_
              refine GL.val (Ex.move rfl) (by decide) ?_
              refine GL.step (Stp.callR (vs := [(.int .u64 1)]) rfl rfl T.own62 (by decide) (fun wc hw => natof_pos 1 wc (by decide))) (fun xq61 hq62 => ?_)
              refine GL.step (Stp.callR (vs := [(.slice (some ⟨xq18.1, 0, none⟩) 1 1), (.slice (some ⟨xq61, 0, none⟩) 1 2)]) rfl rfl T.own64 (by decide) (fun wc hw => plus_1 (v / 2 ^ ((Nat.log2 v - 23))) xq18.1 1 xq61 2 wc (by omega) (Lg.rd1 (hw.rdOf (i := 1) rfl 0)) (Lg.rd1 (hw.rdOf (i := 0) rfl 0)))) (fun xq63 hq64 => ?_)
              refine GL.val (Ex.assign rfl) (by decide) ?_
              refine GL.nil ?_
              refine GE.thenN ?_
              refine GC.seq ?_
              refine GC.seq ?_
              refine GC.draw [⟨xq63, [(.int .u32 ((((v / 2 ^ ((Nat.log2 v - 23))) + 1 : Nat) : Int))), (.int .u32 0)], 23, true⟩, ⟨xq61, [(.int .u32 1), (.int .u32 0)], 23, true⟩, ⟨xq18.1, [(.int .u32 (((v / 2 ^ ((Nat.log2 v - 23)) : Nat) : Int)))], 23, true⟩, ⟨bq2, [(.int .i64 2), (.bool ng), (.slice (some ⟨b, 0, none⟩) 1 c), (.int .i64 e), (.bool false)], 38, true⟩, ⟨bq1, [(.int .i64 23), (.int .i64 8)], 67, true⟩] T.mixed (fuel := 6) rfl rfl ?_
              refine GH.take 0 (v := (.slice (some ⟨xq63, 0, none⟩) 1 2)) rfl (by kernel_rfl) (by kernel_rfl) (by kernel_rfl) (fun _ _ _ h => h) (Ex.move rfl) (ulC (ulC (ulC (ulC (ulC ulN))))) (by decide) ?_
              refine GH.take 2 (v := (.pointer (some ⟨bq1, 0, none⟩))) rfl (by kernel_rfl) (by kernel_rfl) (by kernel_rfl) (fun _ _ _ h => h) (Ex.cast (Ex.fieldAddr rfl Try.underlying67 rfl T.sz3 (by decide)) rfl) (ulC (ulC (ulC (ulC (ulC ulN))))) (by decide) ?_
              refine GH.take 3 (v := (.int .i64 23)) rfl (by kernel_rfl) (by kernel_rfl) (by kernel_rfl) (fun _ _ _ h => h) (Ex.load rfl T.ag3 (i := 4) rfl rfl) (ulC (ulC (ulC (ulC (ulC ulN))))) (by decide) ?_
              refine GH.take 4 (v := (.int .i64 24)) rfl (by kernel_rfl) (by kernel_rfl) (by kernel_rfl) (fun _ _ _ h => h) (Ex.add rfl rfl (Z := 24) (by decide)) (ulC (ulC (ulC (ulC (ulC ulN))))) (by decide) ?_
              refine GH.one 1 rfl (by kernel_rfl) (Stp.callR (vs := [(.slice (some ⟨xq63, 0, none⟩) 1 2)]) rfl rfl T.own88 (by decide) (fun wc hw => bits_pos ((v / 2 ^ ((Nat.log2 v - 23))) + 1) xq63 2 wc (by omega) (Lg.rd1 (hw.rdOf (i := 0) rfl 0)))) (fun _ => (ulC (ulC (ulC (ulC (ulC ulN)))))) (fun xq67 hq68 => ?_)
              refine GH.take 5 (v := (.bool (decide (24 < (((Nat.log2 ((v / 2 ^ ((Nat.log2 v - 23))) + 1) + 1 : Nat) : Int)))))) rfl (by kernel_rfl) (by kernel_rfl) (by kernel_rfl) (fun _ _ _ h => h) (Ex.gtr rfl rfl) (ulC (ulC (ulC (ulC (ulC ulN))))) (by decide) ?_
              refine GH.done (by kernel_rfl) ?_
              refine GE.thenN ?_
              refine GC.cond rfl (fun hq69 => ?_) (fun hq69 => ?_)
              · replace hq69 := of_decide_eq_true hq69
                have hk24 : (v / 2 ^ (Nat.log2 v - 23)) + 1 = 16777216 := Lg.is_24 (by omega) (by omega)
                have hk23 : ((v / 2 ^ (Nat.log2 v - 23)) + 1) / 2 ^ 1 = 8388608 := by omega
                refine GC.seq ?_
                refine GC.region ?_
                refine GL.val (Ex.move rfl) (by decide) ?_
                refine GL.step (Stp.callR (vs := [(.slice (some ⟨xq63, 0, none⟩) 1 2), (.int .i64 1)]) rfl rfl T.own77 (by decide) (fun wc hw => down_pos ((v / 2 ^ ((Nat.log2 v - 23))) + 1) xq63 2 1 wc (by omega) (Lg.rd1 (hw.rdOf (i := 0) rfl 0)) (by omega) (by omega))) (fun xq70 hq71 => ?_)
                refine GL.val (Ex.move rfl) (by decide) ?_
                refine GL.val (Ex.extract rfl rfl) (by decide) ?_
                refine GL.val (Ex.extract rfl rfl) (by decide) ?_
                refine GL.val (Ex.assign rfl) (by decide) ?_
                refine GL.nil ?_
                refine GE.thenN ?_
                refine GC.region ?_
                refine GL.val (Ex.move rfl) (by decide) ?_
                refine GL.val (v := (.int .i64 (((((Nat.log2 v : Nat) : Int) + e - 23) + 1)))) (Ex.add rfl rfl (Z := ((((Nat.log2 v : Nat) : Int) + e - 23) + 1)) (w64 (by omega))) (by decide) ?_
                refine GL.val (Ex.assign rfl) (by decide) ?_
                refine GL.nil ?_
                refine GE.thenN ?_
                refine GC.seq ?_
                refine GC.region ?_
                refine GL.val (Ex.move rfl) (by decide) ?_
                refine GL.step (Stp.callR (vs := [(.slice (some ⟨xq70.1, 0, none⟩) 1 1)]) rfl rfl T.own89 (by decide) (fun wc hw => low_pos (((v / 2 ^ ((Nat.log2 v - 23))) + 1) / 2 ^ 1) xq70.1 1 wc (by omega) (Lg.rd1 (hw.rdOf (i := 0) rfl 0)))) (fun xq72 hq73 => ?_)
                refine GL.val (Ex.assign rfl) (by decide) ?_
                refine GL.nil ?_
                refine GE.thenN ?_
                refine GC.seq ?_
                refine GC.seq ?_
                refine GC.region ?_
                refine GL.val (Ex.move rfl) (by decide) ?_
                refine GL.val (v := (.pointer (some ⟨bq1, 0, none⟩))) (Ex.cast (Ex.fieldAddr rfl Try.underlying67 rfl T.sz3 (by decide)) rfl) (by decide) ?_
                refine GL.val (Ex.load rfl T.ag3 (i := 5) rfl rfl) (by decide) ?_
                refine GL.val (v := (.int .u64 8388608)) (Ex.shl rfl (m := 23) rfl (by decide) (Z := 8388608) (by decide)) (by decide) ?_
                refine GL.val (v := (.bool false)) (Ex.cast (Ex.lss rfl rfl) (congrArg Value.bool (decide_eq_false (by omega)))) (by decide) ?_
                refine GL.nil ?_
                refine GE.thenN ?_
                refine GC.cond rfl (fun hq74 => by cases hq74) (fun _ => ?_)
                refine GC.skip ?_
                refine GE.thenN ?_
                refine GC.seq ?_
                refine GC.region ?_
                refine GL.val (Ex.move rfl) (by decide) ?_
                refine GL.val (v := (.agg #[(.int .i64 23), (.int .i64 8)])) (Ex.loadA rfl T.ag67 T.sz67 (i := 5) rfl (vs := [(.int .i64 23), (.int .i64 8)]) rfl rfl) (by decide) ?_
                refine GL.step (Stp.callR (vs := [(.agg #[(.int .i64 23), (.int .i64 8)])]) rfl rfl T.own83 (by decide) (fun wc hw => j83_2  wc )) (fun xq75 hq76 => ?_)
                refine GL.val (v := (.int .i64 ((((((Nat.log2 v : Nat) : Int) + e - 23) + 1) + 150)))) (Ex.add rfl rfl (Z := (((((Nat.log2 v : Nat) : Int) + e - 23) + 1) + 150)) (w64 (by omega))) (by decide) ?_
                refine GL.val (Ex.assign rfl) (by decide) ?_
                refine GL.nil ?_
                refine GE.thenN ?_
                refine GC.seq ?_
                refine GC.seq ?_
                refine GC.region ?_
                refine GL.val (Ex.move rfl) (by decide) ?_
                refine GL.val (v := (.int .u64 ((((((Nat.log2 v : Nat) : Int) + e - 23) + 1) + 150)))) (Ex.conv rfl Try.underlying3 Try.underlying70 (Z := (((((Nat.log2 v : Nat) : Int) + e - 23) + 1) + 150)) (wu64b (by omega))) (by decide) ?_
                refine GL.val (v := (.agg #[(.int .i64 23), (.int .i64 8)])) (Ex.loadA rfl T.ag67 T.sz67 (i := 5) rfl (vs := [(.int .i64 23), (.int .i64 8)]) rfl rfl) (by decide) ?_
                refine GL.step (Stp.callR (vs := [(.agg #[(.int .i64 23), (.int .i64 8)])]) rfl rfl T.own82 (by decide) (fun wc hw => j82_1  wc )) (fun xq77 hq78 => ?_)
                refine GL.val (v := (.bool false)) (Ex.cast (Ex.geq rfl rfl) (congrArg Value.bool (decide_eq_false (by omega)))) (by decide) ?_
                refine GL.nil ?_
                refine GE.thenN ?_
                refine GC.cond rfl (fun hq79 => by cases hq79) (fun _ => ?_)
                refine GC.skip ?_
                refine GE.thenN ?_
                refine GC.seq ?_
                refine GC.drawP [⟨xq70.1, [(.int .u32 (((((v / 2 ^ ((Nat.log2 v - 23))) + 1) / 2 ^ 1 : Nat) : Int)))], 23, true⟩, ⟨xq63, [(.int .u32 ((((v / 2 ^ ((Nat.log2 v - 23))) + 1 : Nat) : Int))), (.int .u32 0)], 23, true⟩, ⟨xq61, [(.int .u32 1), (.int .u32 0)], 23, true⟩, ⟨xq18.1, [(.int .u32 (((v / 2 ^ ((Nat.log2 v - 23)) : Nat) : Int)))], 23, true⟩, ⟨bq2, [(.int .i64 2), (.bool ng), (.slice (some ⟨b, 0, none⟩) 1 c), (.int .i64 e), (.bool false)], 38, true⟩, ⟨bq1, [(.int .i64 23), (.int .i64 8)], 67, true⟩] T.mixed (by kernel_rfl) (by kernel_rfl) (fuel := 17) rfl rfl ?_
                refine GH.take 0 (v := (.agg #[(.int .i64 23), (.int .i64 8)])) rfl (by kernel_rfl) (by kernel_rfl) (by kernel_rfl) (fun _ _ _ h => h) (Ex.loadA rfl T.ag67 T.sz67 (i := 5) rfl (vs := [(.int .i64 23), (.int .i64 8)]) rfl rfl) (ulC (ulC (ulC (ulC (ulC (ulC ulN)))))) (by decide) ?_
                refine GH.take 1 (v := (.pointer (some ⟨bq2, 1, none⟩))) rfl (by kernel_rfl) (by kernel_rfl) (by kernel_rfl) (fun _ _ _ h => h) (Ex.cast (Ex.fieldAddr rfl Try.underlying38 rfl T.sz4 (by decide)) rfl) (ulC (ulC (ulC (ulC (ulC (ulC ulN)))))) (by decide) ?_
                refine GH.take 2 (v := (.bool ng)) rfl (by kernel_rfl) (by kernel_rfl) (by kernel_rfl) (fun _ _ _ h => h) (Ex.load rfl T.ag4 (i := 4) rfl rfl) (ulC (ulC (ulC (ulC (ulC (ulC ulN)))))) (by decide) ?_
                refine GH.take 4 (v := (.int .i64 ((((((Nat.log2 v : Nat) : Int) + e - 23) + 1) + 150)))) rfl (by kernel_rfl) (by kernel_rfl) (by kernel_rfl) (fun _ _ _ h => h) (Ex.move rfl) (ulC (ulC (ulC (ulC (ulC (ulC ulN)))))) (by decide) ?_
                refine GH.take 5 (v := (.int .u64 ((((((Nat.log2 v : Nat) : Int) + e - 23) + 1) + 150)))) rfl (by kernel_rfl) (by kernel_rfl) (by kernel_rfl) (fun _ _ _ h => h) (Ex.conv rfl Try.underlying3 Try.underlying70 (Z := (((((Nat.log2 v : Nat) : Int) + e - 23) + 1) + 150)) (wu64b (by omega))) (ulC (ulC (ulC (ulC (ulC (ulC ulN)))))) (by decide) ?_
                refine GH.take 6 (v := (.pointer (some ⟨bq1, 0, none⟩))) rfl (by kernel_rfl) (by kernel_rfl) (by kernel_rfl) (fun _ _ _ h => h) (Ex.cast (Ex.fieldAddr rfl Try.underlying67 rfl T.sz3 (by decide)) rfl) (ulC (ulC (ulC (ulC (ulC (ulC ulN)))))) (by decide) ?_
                refine GH.take 7 (v := (.int .i64 23)) rfl (by kernel_rfl) (by kernel_rfl) (by kernel_rfl) (fun _ _ _ h => h) (Ex.load rfl T.ag3 (i := 5) rfl rfl) (ulC (ulC (ulC (ulC (ulC (ulC ulN)))))) (by decide) ?_
                refine GH.take 8 (v := (.int .u64 ((((((((((Nat.log2 v : Nat) : Int) + e - 23) + 1) + 150)).toNat : Nat) : Int) * 8388608)))) rfl (by kernel_rfl) (by kernel_rfl) (by kernel_rfl) (fun _ _ _ h => h) (Ex.shl rfl (m := 23) rfl (by decide) (Z := ((((((((Nat.log2 v : Nat) : Int) + e - 23) + 1) + 150)).toNat : Nat) : Int) * 8388608) (by rw [show ((2 : Int) ^ 23) = 8388608 by decide, wu64b (by omega)]; omega)) (ulC (ulC (ulC (ulC (ulC (ulC ulN)))))) (by decide) ?_
                refine GH.take 10 (v := (.int .u64 (((((v / 2 ^ ((Nat.log2 v - 23))) + 1) / 2 ^ 1 : Nat) : Int)))) rfl (by kernel_rfl) (by kernel_rfl) (by kernel_rfl) (fun _ _ _ h => h) (Ex.move rfl) (ulC (ulC (ulC (ulC (ulC (ulC ulN)))))) (by decide) ?_
                refine GH.take 11 (v := (.pointer (some ⟨bq1, 0, none⟩))) rfl (by kernel_rfl) (by kernel_rfl) (by kernel_rfl) (fun _ _ _ h => h) (Ex.cast (Ex.fieldAddr rfl Try.underlying67 rfl T.sz3 (by decide)) rfl) (ulC (ulC (ulC (ulC (ulC (ulC ulN)))))) (by decide) ?_
                refine GH.take 12 (v := (.int .i64 23)) rfl (by kernel_rfl) (by kernel_rfl) (by kernel_rfl) (fun _ _ _ h => h) (Ex.load rfl T.ag3 (i := 5) rfl rfl) (ulC (ulC (ulC (ulC (ulC (ulC ulN)))))) (by decide) ?_
                refine GH.take 13 (v := (.int .u64 8388608)) rfl (by kernel_rfl) (by kernel_rfl) (by kernel_rfl) (fun _ _ _ h => h) (Ex.shl rfl (m := 23) rfl (by decide) (Z := 8388608) (by decide)) (ulC (ulC (ulC (ulC (ulC (ulC ulN)))))) (by decide) ?_
                refine GH.take 14 (v := (.int .u64 8388607)) rfl (by kernel_rfl) (by kernel_rfl) (by kernel_rfl) (fun _ _ _ h => h) (Ex.sub' rfl rfl (Z := 8388607) (by decide)) (ulC (ulC (ulC (ulC (ulC (ulC ulN)))))) (by decide) ?_
                refine GH.take 15 (v := (.int .u64 ((((((v / 2 ^ ((Nat.log2 v - 23))) + 1) / 2 ^ 1 - 8388608) : Nat) : Int)))) rfl (by kernel_rfl) (by kernel_rfl) (by kernel_rfl) (fun _ _ _ h => h) (Ex.bits rfl rfl (by simp) (Z := (((((v / 2 ^ ((Nat.log2 v - 23))) + 1) / 2 ^ 1 - 8388608) : Nat) : Int)) (andm64 23 (by omega) (by omega) (by omega) (by omega) rfl)) (ulC (ulC (ulC (ulC (ulC (ulC ulN)))))) (by decide) ?_
                refine GH.one 3 rfl (by kernel_rfl) (Stp.callR (vs := [(.agg #[(.int .i64 23), (.int .i64 8)]), (.bool ng)]) rfl rfl T.own87 (by decide) (fun wc hw => sign_p ng wc)) (fun _ => (ulC (ulC (ulC (ulC (ulC (ulC ulN))))))) (fun xq82 hq83 => ?_)
                refine GH.take 9 (v := (.int .u64 ((Lg.sg ng + ((((((((Nat.log2 v : Nat) : Int) + e - 23) + 1) + 150)).toNat * 8388608 : Nat) : Int))))) rfl (by kernel_rfl) (by kernel_rfl) (by kernel_rfl) (fun _ _ _ h => h) (Ex.bits rfl rfl (by simp) (Z := Lg.sg ng + ((((((((Nat.log2 v : Nat) : Int) + e - 23) + 1) + 150)).toNat * 8388608 : Nat) : Int)) (Lg.or_sign (by omega) (by omega))) (ulC (ulC (ulC (ulC (ulC (ulC ulN)))))) (by decide) ?_
                refine GH.take 16 (v := (.int .u64 ((Lg.sg ng + ((((((((Nat.log2 v : Nat) : Int) + e - 23) + 1) + 150)).toNat * 8388608 + (((v / 2 ^ ((Nat.log2 v - 23))) + 1) / 2 ^ 1 - 8388608) : Nat) : Int))))) rfl (by kernel_rfl) (by kernel_rfl) (by kernel_rfl) (fun _ _ _ h => h) (Ex.bits rfl rfl (by simp) (Z := Lg.sg ng + ((((((((Nat.log2 v : Nat) : Int) + e - 23) + 1) + 150)).toNat * 8388608 + (((v / 2 ^ ((Nat.log2 v - 23))) + 1) / 2 ^ 1 - 8388608) : Nat) : Int)) (Lg.or_low (by omega) (by omega))) (ulC (ulC (ulC (ulC (ulC (ulC ulN)))))) (by decide) ?_
                refine GH.done (by kernel_rfl) ?_
                refine GE.thenN ?_
                refine GE.tail rfl (Ex.wp (v := (.int .u64 ((Lg.sg ng + ((((((((Nat.log2 v : Nat) : Int) + e - 23) + 1) + 150)).toNat * 8388608 + (((v / 2 ^ ((Nat.log2 v - 23))) + 1) / 2 ^ 1 - 8388608) : Nat) : Int))))) (Ex.assign rfl) (by decide)) (fun _ _ => ?_)
                refine GE.thenN ?_
                refine GC.ret ?_
                refine GC.ret1 rfl (Rv.tmp rfl) (fun wN HN => ?_)
                exact HN.ret () trivial (by rw [Lg.RD_of (v := v) (K := ((v / 2 ^ (Nat.log2 v - 23)) + 1)) (e := e) hv.1 hv.2 he ((if_pos (by omega)).trans (Lg.kept_up (by omega) (by omega) (by first | exact Or.inl (hb.1 (by assumption)) | exact Or.inr (by omega)))) (by omega)]) (List.nil_sublist _) rfl
              · replace hq69 := of_decide_eq_false hq69
                have hk24 : (v / 2 ^ (Nat.log2 v - 23)) + 1 < 16777216 := Lg.lt_24 (by omega)
                refine GC.skip ?_
                refine GE.thenN ?_
                refine GC.seq ?_
                refine GC.region ?_
                refine GL.val (Ex.move rfl) (by decide) ?_
                refine GL.step (Stp.callR (vs := [(.slice (some ⟨xq63, 0, none⟩) 1 2)]) rfl rfl T.own89 (by decide) (fun wc hw => low_pos ((v / 2 ^ ((Nat.log2 v - 23))) + 1) xq63 2 wc (by omega) (Lg.rd1 (hw.rdOf (i := 0) rfl 0)))) (fun xq84 hq85 => ?_)
                refine GL.val (Ex.assign rfl) (by decide) ?_
                refine GL.nil ?_
                refine GE.thenN ?_
                refine GC.seq ?_
                refine GC.seq ?_
                refine GC.region ?_
                refine GL.val (Ex.move rfl) (by decide) ?_
                refine GL.val (v := (.pointer (some ⟨bq1, 0, none⟩))) (Ex.cast (Ex.fieldAddr rfl Try.underlying67 rfl T.sz3 (by decide)) rfl) (by decide) ?_
                refine GL.val (Ex.load rfl T.ag3 (i := 4) rfl rfl) (by decide) ?_
                refine GL.val (v := (.int .u64 8388608)) (Ex.shl rfl (m := 23) rfl (by decide) (Z := 8388608) (by decide)) (by decide) ?_
                refine GL.val (v := (.bool false)) (Ex.cast (Ex.lss rfl rfl) (congrArg Value.bool (decide_eq_false (by omega)))) (by decide) ?_
                refine GL.nil ?_
                refine GE.thenN ?_
                refine GC.cond rfl (fun hq86 => by cases hq86) (fun _ => ?_)
                refine GC.skip ?_
                refine GE.thenN ?_
                refine GC.seq ?_
                refine GC.region ?_
                refine GL.val (Ex.move rfl) (by decide) ?_
                refine GL.val (v := (.agg #[(.int .i64 23), (.int .i64 8)])) (Ex.loadA rfl T.ag67 T.sz67 (i := 4) rfl (vs := [(.int .i64 23), (.int .i64 8)]) rfl rfl) (by decide) ?_
                refine GL.step (Stp.callR (vs := [(.agg #[(.int .i64 23), (.int .i64 8)])]) rfl rfl T.own83 (by decide) (fun wc hw => j83_2  wc )) (fun xq87 hq88 => ?_)
                refine GL.val (v := (.int .i64 (((((Nat.log2 v : Nat) : Int) + e - 23) + 150)))) (Ex.add rfl rfl (Z := ((((Nat.log2 v : Nat) : Int) + e - 23) + 150)) (w64 (by omega))) (by decide) ?_
                refine GL.val (Ex.assign rfl) (by decide) ?_
                refine GL.nil ?_
                refine GE.thenN ?_
                refine GC.seq ?_
                refine GC.seq ?_
                refine GC.region ?_
                refine GL.val (Ex.move rfl) (by decide) ?_
                refine GL.val (v := (.int .u64 (((((Nat.log2 v : Nat) : Int) + e - 23) + 150)))) (Ex.conv rfl Try.underlying3 Try.underlying70 (Z := ((((Nat.log2 v : Nat) : Int) + e - 23) + 150)) (wu64b (by omega))) (by decide) ?_
                refine GL.val (v := (.agg #[(.int .i64 23), (.int .i64 8)])) (Ex.loadA rfl T.ag67 T.sz67 (i := 4) rfl (vs := [(.int .i64 23), (.int .i64 8)]) rfl rfl) (by decide) ?_
                refine GL.step (Stp.callR (vs := [(.agg #[(.int .i64 23), (.int .i64 8)])]) rfl rfl T.own82 (by decide) (fun wc hw => j82_1  wc )) (fun xq89 hq90 => ?_)
                refine GL.val (v := (.bool false)) (Ex.cast (Ex.geq rfl rfl) (congrArg Value.bool (decide_eq_false (by omega)))) (by decide) ?_
                refine GL.nil ?_
                refine GE.thenN ?_
                refine GC.cond rfl (fun hq91 => by cases hq91) (fun _ => ?_)
                refine GC.skip ?_
                refine GE.thenN ?_
                refine GC.seq ?_
                refine GC.drawP [⟨xq63, [(.int .u32 ((((v / 2 ^ ((Nat.log2 v - 23))) + 1 : Nat) : Int))), (.int .u32 0)], 23, true⟩, ⟨xq61, [(.int .u32 1), (.int .u32 0)], 23, true⟩, ⟨xq18.1, [(.int .u32 (((v / 2 ^ ((Nat.log2 v - 23)) : Nat) : Int)))], 23, true⟩, ⟨bq2, [(.int .i64 2), (.bool ng), (.slice (some ⟨b, 0, none⟩) 1 c), (.int .i64 e), (.bool false)], 38, true⟩, ⟨bq1, [(.int .i64 23), (.int .i64 8)], 67, true⟩] T.mixed (by kernel_rfl) (by kernel_rfl) (fuel := 17) rfl rfl ?_
                refine GH.take 0 (v := (.agg #[(.int .i64 23), (.int .i64 8)])) rfl (by kernel_rfl) (by kernel_rfl) (by kernel_rfl) (fun _ _ _ h => h) (Ex.loadA rfl T.ag67 T.sz67 (i := 4) rfl (vs := [(.int .i64 23), (.int .i64 8)]) rfl rfl) (ulC (ulC (ulC (ulC (ulC ulN))))) (by decide) ?_
                refine GH.take 1 (v := (.pointer (some ⟨bq2, 1, none⟩))) rfl (by kernel_rfl) (by kernel_rfl) (by kernel_rfl) (fun _ _ _ h => h) (Ex.cast (Ex.fieldAddr rfl Try.underlying38 rfl T.sz4 (by decide)) rfl) (ulC (ulC (ulC (ulC (ulC ulN))))) (by decide) ?_
                refine GH.take 2 (v := (.bool ng)) rfl (by kernel_rfl) (by kernel_rfl) (by kernel_rfl) (fun _ _ _ h => h) (Ex.load rfl T.ag4 (i := 3) rfl rfl) (ulC (ulC (ulC (ulC (ulC ulN))))) (by decide) ?_
                refine GH.take 4 (v := (.int .i64 (((((Nat.log2 v : Nat) : Int) + e - 23) + 150)))) rfl (by kernel_rfl) (by kernel_rfl) (by kernel_rfl) (fun _ _ _ h => h) (Ex.move rfl) (ulC (ulC (ulC (ulC (ulC ulN))))) (by decide) ?_
                refine GH.take 5 (v := (.int .u64 (((((Nat.log2 v : Nat) : Int) + e - 23) + 150)))) rfl (by kernel_rfl) (by kernel_rfl) (by kernel_rfl) (fun _ _ _ h => h) (Ex.conv rfl Try.underlying3 Try.underlying70 (Z := ((((Nat.log2 v : Nat) : Int) + e - 23) + 150)) (wu64b (by omega))) (ulC (ulC (ulC (ulC (ulC ulN))))) (by decide) ?_
                refine GH.take 6 (v := (.pointer (some ⟨bq1, 0, none⟩))) rfl (by kernel_rfl) (by kernel_rfl) (by kernel_rfl) (fun _ _ _ h => h) (Ex.cast (Ex.fieldAddr rfl Try.underlying67 rfl T.sz3 (by decide)) rfl) (ulC (ulC (ulC (ulC (ulC ulN))))) (by decide) ?_
                refine GH.take 7 (v := (.int .i64 23)) rfl (by kernel_rfl) (by kernel_rfl) (by kernel_rfl) (fun _ _ _ h => h) (Ex.load rfl T.ag3 (i := 4) rfl rfl) (ulC (ulC (ulC (ulC (ulC ulN))))) (by decide) ?_
                refine GH.take 8 (v := (.int .u64 (((((((((Nat.log2 v : Nat) : Int) + e - 23) + 150)).toNat : Nat) : Int) * 8388608)))) rfl (by kernel_rfl) (by kernel_rfl) (by kernel_rfl) (fun _ _ _ h => h) (Ex.shl rfl (m := 23) rfl (by decide) (Z := (((((((Nat.log2 v : Nat) : Int) + e - 23) + 150)).toNat : Nat) : Int) * 8388608) (by rw [show ((2 : Int) ^ 23) = 8388608 by decide, wu64b (by omega)]; omega)) (ulC (ulC (ulC (ulC (ulC ulN))))) (by decide) ?_
                refine GH.take 10 (v := (.int .u64 ((((v / 2 ^ ((Nat.log2 v - 23))) + 1 : Nat) : Int)))) rfl (by kernel_rfl) (by kernel_rfl) (by kernel_rfl) (fun _ _ _ h => h) (Ex.move rfl) (ulC (ulC (ulC (ulC (ulC ulN))))) (by decide) ?_
                refine GH.take 11 (v := (.pointer (some ⟨bq1, 0, none⟩))) rfl (by kernel_rfl) (by kernel_rfl) (by kernel_rfl) (fun _ _ _ h => h) (Ex.cast (Ex.fieldAddr rfl Try.underlying67 rfl T.sz3 (by decide)) rfl) (ulC (ulC (ulC (ulC (ulC ulN))))) (by decide) ?_
                refine GH.take 12 (v := (.int .i64 23)) rfl (by kernel_rfl) (by kernel_rfl) (by kernel_rfl) (fun _ _ _ h => h) (Ex.load rfl T.ag3 (i := 4) rfl rfl) (ulC (ulC (ulC (ulC (ulC ulN))))) (by decide) ?_
                refine GH.take 13 (v := (.int .u64 8388608)) rfl (by kernel_rfl) (by kernel_rfl) (by kernel_rfl) (fun _ _ _ h => h) (Ex.shl rfl (m := 23) rfl (by decide) (Z := 8388608) (by decide)) (ulC (ulC (ulC (ulC (ulC ulN))))) (by decide) ?_
                refine GH.take 14 (v := (.int .u64 8388607)) rfl (by kernel_rfl) (by kernel_rfl) (by kernel_rfl) (fun _ _ _ h => h) (Ex.sub' rfl rfl (Z := 8388607) (by decide)) (ulC (ulC (ulC (ulC (ulC ulN))))) (by decide) ?_
                refine GH.take 15 (v := (.int .u64 (((((v / 2 ^ ((Nat.log2 v - 23))) + 1 - 8388608) : Nat) : Int)))) rfl (by kernel_rfl) (by kernel_rfl) (by kernel_rfl) (fun _ _ _ h => h) (Ex.bits rfl rfl (by simp) (Z := ((((v / 2 ^ ((Nat.log2 v - 23))) + 1 - 8388608) : Nat) : Int)) (andm64 23 (by omega) (by omega) (by omega) (by omega) rfl)) (ulC (ulC (ulC (ulC (ulC ulN))))) (by decide) ?_
                refine GH.one 3 rfl (by kernel_rfl) (Stp.callR (vs := [(.agg #[(.int .i64 23), (.int .i64 8)]), (.bool ng)]) rfl rfl T.own87 (by decide) (fun wc hw => sign_p ng wc)) (fun _ => (ulC (ulC (ulC (ulC (ulC ulN)))))) (fun xq94 hq95 => ?_)
                refine GH.take 9 (v := (.int .u64 ((Lg.sg ng + (((((((Nat.log2 v : Nat) : Int) + e - 23) + 150)).toNat * 8388608 : Nat) : Int))))) rfl (by kernel_rfl) (by kernel_rfl) (by kernel_rfl) (fun _ _ _ h => h) (Ex.bits rfl rfl (by simp) (Z := Lg.sg ng + (((((((Nat.log2 v : Nat) : Int) + e - 23) + 150)).toNat * 8388608 : Nat) : Int)) (Lg.or_sign (by omega) (by omega))) (ulC (ulC (ulC (ulC (ulC ulN))))) (by decide) ?_
                refine GH.take 16 (v := (.int .u64 ((Lg.sg ng + (((((((Nat.log2 v : Nat) : Int) + e - 23) + 150)).toNat * 8388608 + ((v / 2 ^ ((Nat.log2 v - 23))) + 1 - 8388608) : Nat) : Int))))) rfl (by kernel_rfl) (by kernel_rfl) (by kernel_rfl) (fun _ _ _ h => h) (Ex.bits rfl rfl (by simp) (Z := Lg.sg ng + (((((((Nat.log2 v : Nat) : Int) + e - 23) + 150)).toNat * 8388608 + ((v / 2 ^ ((Nat.log2 v - 23))) + 1 - 8388608) : Nat) : Int)) (Lg.or_low (by omega) (by omega))) (ulC (ulC (ulC (ulC (ulC ulN))))) (by decide) ?_
                refine GH.done (by kernel_rfl) ?_
                refine GE.thenN ?_
                refine GE.tail rfl (Ex.wp (v := (.int .u64 ((Lg.sg ng + (((((((Nat.log2 v : Nat) : Int) + e - 23) + 150)).toNat * 8388608 + ((v / 2 ^ ((Nat.log2 v - 23))) + 1 - 8388608) : Nat) : Int))))) (Ex.assign rfl) (by decide)) (fun _ _ => ?_)
                refine GE.thenN ?_
                refine GC.ret ?_
                refine GC.ret1 rfl (Rv.tmp rfl) (fun wN HN => ?_)
                exact HN.ret () trivial (by rw [Lg.RD_of (v := v) (K := ((v / 2 ^ (Nat.log2 v - 23)) + 1)) (e := e) hv.1 hv.2 he ((if_pos (by omega)).trans (Lg.kept_up (by omega) (by omega) (by first | exact Or.inl (hb.1 (by assumption)) | exact Or.inr (by omega)))) (by omega)]) (List.nil_sublist _) rfl
            · replace hq60 := of_decide_eq_false hq60
              refine GC.skip ?_
              refine GE.thenN ?_
              refine GC.seq ?_
              refine GC.seq ?_
              refine GC.draw [⟨xq18.1, [(.int .u32 (((v / 2 ^ ((Nat.log2 v - 23)) : Nat) : Int)))], 23, true⟩, ⟨bq2, [(.int .i64 2), (.bool ng), (.slice (some ⟨b, 0, none⟩) 1 c), (.int .i64 e), (.bool false)], 38, true⟩, ⟨bq1, [(.int .i64 23), (.int .i64 8)], 67, true⟩] T.mixed (fuel := 6) rfl rfl ?_
              refine GH.take 0 (v := (.slice (some ⟨xq18.1, 0, none⟩) 1 1)) rfl (by kernel_rfl) (by kernel_rfl) (by kernel_rfl) (fun _ _ _ h => h) (Ex.move rfl) (ulC (ulC (ulC ulN))) (by decide) ?_
              refine GH.take 2 (v := (.pointer (some ⟨bq1, 0, none⟩))) rfl (by kernel_rfl) (by kernel_rfl) (by kernel_rfl) (fun _ _ _ h => h) (Ex.cast (Ex.fieldAddr rfl Try.underlying67 rfl T.sz3 (by decide)) rfl) (ulC (ulC (ulC ulN))) (by decide) ?_
              refine GH.take 3 (v := (.int .i64 23)) rfl (by kernel_rfl) (by kernel_rfl) (by kernel_rfl) (fun _ _ _ h => h) (Ex.load rfl T.ag3 (i := 2) rfl rfl) (ulC (ulC (ulC ulN))) (by decide) ?_
              refine GH.take 4 (v := (.int .i64 24)) rfl (by kernel_rfl) (by kernel_rfl) (by kernel_rfl) (fun _ _ _ h => h) (Ex.add rfl rfl (Z := 24) (by decide)) (ulC (ulC (ulC ulN))) (by decide) ?_
              refine GH.one 1 rfl (by kernel_rfl) (Stp.callR (vs := [(.slice (some ⟨xq18.1, 0, none⟩) 1 1)]) rfl rfl T.own88 (by decide) (fun wc hw => bits_pos (v / 2 ^ ((Nat.log2 v - 23))) xq18.1 1 wc (by omega) (Lg.rd1 (hw.rdOf (i := 0) rfl 0)))) (fun _ => (ulC (ulC (ulC ulN)))) (fun xq98 hq99 => ?_)
              refine GH.take 5 (v := (.bool false)) rfl (by kernel_rfl) (by kernel_rfl) (by kernel_rfl) (fun _ _ _ h => h) (Ex.cast (Ex.gtr rfl rfl) (congrArg Value.bool (decide_eq_false (by omega)))) (ulC (ulC (ulC ulN))) (by decide) ?_
              refine GH.done (by kernel_rfl) ?_
              refine GE.thenN ?_
              refine GC.cond rfl (fun hq100 => by cases hq100) (fun _ => ?_)
              refine GC.skip ?_
              refine GE.thenN ?_
              refine GC.seq ?_
              refine GC.region ?_
              refine GL.val (Ex.move rfl) (by decide) ?_
              refine GL.step (Stp.callR (vs := [(.slice (some ⟨xq18.1, 0, none⟩) 1 1)]) rfl rfl T.own89 (by decide) (fun wc hw => low_pos (v / 2 ^ ((Nat.log2 v - 23))) xq18.1 1 wc (by omega) (Lg.rd1 (hw.rdOf (i := 0) rfl 0)))) (fun xq101 hq102 => ?_)
              refine GL.val (Ex.assign rfl) (by decide) ?_
              refine GL.nil ?_
              refine GE.thenN ?_
              refine GC.seq ?_
              refine GC.seq ?_
              refine GC.region ?_
              refine GL.val (Ex.move rfl) (by decide) ?_
              refine GL.val (v := (.pointer (some ⟨bq1, 0, none⟩))) (Ex.cast (Ex.fieldAddr rfl Try.underlying67 rfl T.sz3 (by decide)) rfl) (by decide) ?_
              refine GL.val (Ex.load rfl T.ag3 (i := 2) rfl rfl) (by decide) ?_
              refine GL.val (v := (.int .u64 8388608)) (Ex.shl rfl (m := 23) rfl (by decide) (Z := 8388608) (by decide)) (by decide) ?_
              refine GL.val (v := (.bool false)) (Ex.cast (Ex.lss rfl rfl) (congrArg Value.bool (decide_eq_false (by omega)))) (by decide) ?_
              refine GL.nil ?_
              refine GE.thenN ?_
              refine GC.cond rfl (fun hq103 => by cases hq103) (fun _ => ?_)
              refine GC.skip ?_
              refine GE.thenN ?_
              refine GC.seq ?_
              refine GC.region ?_
              refine GL.val (Ex.move rfl) (by decide) ?_
              refine GL.val (v := (.agg #[(.int .i64 23), (.int .i64 8)])) (Ex.loadA rfl T.ag67 T.sz67 (i := 2) rfl (vs := [(.int .i64 23), (.int .i64 8)]) rfl rfl) (by decide) ?_
              refine GL.step (Stp.callR (vs := [(.agg #[(.int .i64 23), (.int .i64 8)])]) rfl rfl T.own83 (by decide) (fun wc hw => j83_2  wc )) (fun xq104 hq105 => ?_)
              refine GL.val (v := (.int .i64 (((((Nat.log2 v : Nat) : Int) + e - 23) + 150)))) (Ex.add rfl rfl (Z := ((((Nat.log2 v : Nat) : Int) + e - 23) + 150)) (w64 (by omega))) (by decide) ?_
              refine GL.val (Ex.assign rfl) (by decide) ?_
              refine GL.nil ?_
              refine GE.thenN ?_
              refine GC.seq ?_
              refine GC.seq ?_
              refine GC.region ?_
              refine GL.val (Ex.move rfl) (by decide) ?_
              refine GL.val (v := (.int .u64 (((((Nat.log2 v : Nat) : Int) + e - 23) + 150)))) (Ex.conv rfl Try.underlying3 Try.underlying70 (Z := ((((Nat.log2 v : Nat) : Int) + e - 23) + 150)) (wu64b (by omega))) (by decide) ?_
              refine GL.val (v := (.agg #[(.int .i64 23), (.int .i64 8)])) (Ex.loadA rfl T.ag67 T.sz67 (i := 2) rfl (vs := [(.int .i64 23), (.int .i64 8)]) rfl rfl) (by decide) ?_
              refine GL.step (Stp.callR (vs := [(.agg #[(.int .i64 23), (.int .i64 8)])]) rfl rfl T.own82 (by decide) (fun wc hw => j82_1  wc )) (fun xq106 hq107 => ?_)
              refine GL.val (v := (.bool false)) (Ex.cast (Ex.geq rfl rfl) (congrArg Value.bool (decide_eq_false (by omega)))) (by decide) ?_
              refine GL.nil ?_
              refine GE.thenN ?_
              refine GC.cond rfl (fun hq108 => by cases hq108) (fun _ => ?_)
              refine GC.skip ?_
              refine GE.thenN ?_
              refine GC.seq ?_
              refine GC.drawP [⟨xq18.1, [(.int .u32 (((v / 2 ^ ((Nat.log2 v - 23)) : Nat) : Int)))], 23, true⟩, ⟨bq2, [(.int .i64 2), (.bool ng), (.slice (some ⟨b, 0, none⟩) 1 c), (.int .i64 e), (.bool false)], 38, true⟩, ⟨bq1, [(.int .i64 23), (.int .i64 8)], 67, true⟩] T.mixed (by kernel_rfl) (by kernel_rfl) (fuel := 17) rfl rfl ?_
              refine GH.take 0 (v := (.agg #[(.int .i64 23), (.int .i64 8)])) rfl (by kernel_rfl) (by kernel_rfl) (by kernel_rfl) (fun _ _ _ h => h) (Ex.loadA rfl T.ag67 T.sz67 (i := 2) rfl (vs := [(.int .i64 23), (.int .i64 8)]) rfl rfl) (ulC (ulC (ulC ulN))) (by decide) ?_
              refine GH.take 1 (v := (.pointer (some ⟨bq2, 1, none⟩))) rfl (by kernel_rfl) (by kernel_rfl) (by kernel_rfl) (fun _ _ _ h => h) (Ex.cast (Ex.fieldAddr rfl Try.underlying38 rfl T.sz4 (by decide)) rfl) (ulC (ulC (ulC ulN))) (by decide) ?_
              refine GH.take 2 (v := (.bool ng)) rfl (by kernel_rfl) (by kernel_rfl) (by kernel_rfl) (fun _ _ _ h => h) (Ex.load rfl T.ag4 (i := 1) rfl rfl) (ulC (ulC (ulC ulN))) (by decide) ?_
              refine GH.take 4 (v := (.int .i64 (((((Nat.log2 v : Nat) : Int) + e - 23) + 150)))) rfl (by kernel_rfl) (by kernel_rfl) (by kernel_rfl) (fun _ _ _ h => h) (Ex.move rfl) (ulC (ulC (ulC ulN))) (by decide) ?_
              refine GH.take 5 (v := (.int .u64 (((((Nat.log2 v : Nat) : Int) + e - 23) + 150)))) rfl (by kernel_rfl) (by kernel_rfl) (by kernel_rfl) (fun _ _ _ h => h) (Ex.conv rfl Try.underlying3 Try.underlying70 (Z := ((((Nat.log2 v : Nat) : Int) + e - 23) + 150)) (wu64b (by omega))) (ulC (ulC (ulC ulN))) (by decide) ?_
              refine GH.take 6 (v := (.pointer (some ⟨bq1, 0, none⟩))) rfl (by kernel_rfl) (by kernel_rfl) (by kernel_rfl) (fun _ _ _ h => h) (Ex.cast (Ex.fieldAddr rfl Try.underlying67 rfl T.sz3 (by decide)) rfl) (ulC (ulC (ulC ulN))) (by decide) ?_
              refine GH.take 7 (v := (.int .i64 23)) rfl (by kernel_rfl) (by kernel_rfl) (by kernel_rfl) (fun _ _ _ h => h) (Ex.load rfl T.ag3 (i := 2) rfl rfl) (ulC (ulC (ulC ulN))) (by decide) ?_
              refine GH.take 8 (v := (.int .u64 (((((((((Nat.log2 v : Nat) : Int) + e - 23) + 150)).toNat : Nat) : Int) * 8388608)))) rfl (by kernel_rfl) (by kernel_rfl) (by kernel_rfl) (fun _ _ _ h => h) (Ex.shl rfl (m := 23) rfl (by decide) (Z := (((((((Nat.log2 v : Nat) : Int) + e - 23) + 150)).toNat : Nat) : Int) * 8388608) (by rw [show ((2 : Int) ^ 23) = 8388608 by decide, wu64b (by omega)]; omega)) (ulC (ulC (ulC ulN))) (by decide) ?_
              refine GH.take 10 (v := (.int .u64 (((v / 2 ^ ((Nat.log2 v - 23)) : Nat) : Int)))) rfl (by kernel_rfl) (by kernel_rfl) (by kernel_rfl) (fun _ _ _ h => h) (Ex.move rfl) (ulC (ulC (ulC ulN))) (by decide) ?_
              refine GH.take 11 (v := (.pointer (some ⟨bq1, 0, none⟩))) rfl (by kernel_rfl) (by kernel_rfl) (by kernel_rfl) (fun _ _ _ h => h) (Ex.cast (Ex.fieldAddr rfl Try.underlying67 rfl T.sz3 (by decide)) rfl) (ulC (ulC (ulC ulN))) (by decide) ?_
              refine GH.take 12 (v := (.int .i64 23)) rfl (by kernel_rfl) (by kernel_rfl) (by kernel_rfl) (fun _ _ _ h => h) (Ex.load rfl T.ag3 (i := 2) rfl rfl) (ulC (ulC (ulC ulN))) (by decide) ?_
              refine GH.take 13 (v := (.int .u64 8388608)) rfl (by kernel_rfl) (by kernel_rfl) (by kernel_rfl) (fun _ _ _ h => h) (Ex.shl rfl (m := 23) rfl (by decide) (Z := 8388608) (by decide)) (ulC (ulC (ulC ulN))) (by decide) ?_
              refine GH.take 14 (v := (.int .u64 8388607)) rfl (by kernel_rfl) (by kernel_rfl) (by kernel_rfl) (fun _ _ _ h => h) (Ex.sub' rfl rfl (Z := 8388607) (by decide)) (ulC (ulC (ulC ulN))) (by decide) ?_
              refine GH.take 15 (v := (.int .u64 ((((v / 2 ^ ((Nat.log2 v - 23)) - 8388608) : Nat) : Int)))) rfl (by kernel_rfl) (by kernel_rfl) (by kernel_rfl) (fun _ _ _ h => h) (Ex.bits rfl rfl (by simp) (Z := (((v / 2 ^ ((Nat.log2 v - 23)) - 8388608) : Nat) : Int)) (andm64 23 (by omega) (by omega) (by omega) (by omega) rfl)) (ulC (ulC (ulC ulN))) (by decide) ?_
              refine GH.one 3 rfl (by kernel_rfl) (Stp.callR (vs := [(.agg #[(.int .i64 23), (.int .i64 8)]), (.bool ng)]) rfl rfl T.own87 (by decide) (fun wc hw => sign_p ng wc)) (fun _ => (ulC (ulC (ulC ulN)))) (fun xq111 hq112 => ?_)
              refine GH.take 9 (v := (.int .u64 ((Lg.sg ng + (((((((Nat.log2 v : Nat) : Int) + e - 23) + 150)).toNat * 8388608 : Nat) : Int))))) rfl (by kernel_rfl) (by kernel_rfl) (by kernel_rfl) (fun _ _ _ h => h) (Ex.bits rfl rfl (by simp) (Z := Lg.sg ng + (((((((Nat.log2 v : Nat) : Int) + e - 23) + 150)).toNat * 8388608 : Nat) : Int)) (Lg.or_sign (by omega) (by omega))) (ulC (ulC (ulC ulN))) (by decide) ?_
              refine GH.take 16 (v := (.int .u64 ((Lg.sg ng + (((((((Nat.log2 v : Nat) : Int) + e - 23) + 150)).toNat * 8388608 + (v / 2 ^ ((Nat.log2 v - 23)) - 8388608) : Nat) : Int))))) rfl (by kernel_rfl) (by kernel_rfl) (by kernel_rfl) (fun _ _ _ h => h) (Ex.bits rfl rfl (by simp) (Z := Lg.sg ng + (((((((Nat.log2 v : Nat) : Int) + e - 23) + 150)).toNat * 8388608 + (v / 2 ^ ((Nat.log2 v - 23)) - 8388608) : Nat) : Int)) (Lg.or_low (by omega) (by omega))) (ulC (ulC (ulC ulN))) (by decide) ?_
              refine GH.done (by kernel_rfl) ?_
              refine GE.thenN ?_
              refine GE.tail rfl (Ex.wp (v := (.int .u64 ((Lg.sg ng + (((((((Nat.log2 v : Nat) : Int) + e - 23) + 150)).toNat * 8388608 + (v / 2 ^ ((Nat.log2 v - 23)) - 8388608) : Nat) : Int))))) (Ex.assign rfl) (by decide)) (fun _ _ => ?_)
              refine GE.thenN ?_
              refine GC.ret ?_
              refine GC.ret1 rfl (Rv.tmp rfl) (fun wN HN => ?_)
              exact HN.ret () trivial (by rw [Lg.RD_of (v := v) (K := (v / 2 ^ (Nat.log2 v - 23))) (e := e) hv.1 hv.2 he ((if_pos (by omega)).trans (Lg.kept_no (by omega) (by first | exact fun q => absurd q.1 (by omega) | exact fun q => by rcases q.2 with z | z; exact absurd (hb.2 z) (by assumption); omega))) (by omega)]) (List.nil_sublist _) rfl
        · refine GL.val (v := (.bool false)) (Ex.cast (Ex.move rfl) (congrArg Value.bool (decide_eq_false hq20))) (by decide) ?_
          refine GL.val (Ex.move rfl) (by decide) ?_
          refine GL.skipG (tj := 90) rfl rfl rfl (by decide) ?_
          refine GL.skipG (tj := 90) rfl rfl rfl (by decide) ?_
          refine GL.skipU (tj := 92) rfl rfl (by decide) ?_
          refine GL.skipU (tj := 92) rfl rfl (by decide) ?_
          refine GL.skipU (tj := 92) rfl rfl (by decide) ?_
          refine GL.skipG (tj := 90) rfl rfl rfl (by decide) ?_
          refine GL.val (v := (.bool false)) (Ex.pickF rfl rfl) (by decide) ?_
          refine GL.val (Ex.assign rfl) (by decide) ?_
          refine GL.nil ?_
          refine GE.thenN ?_
          refine GC.seq ?_
          refine GC.seq ?_
          refine GC.region ?_
          refine GL.val (Ex.move rfl) (by decide) ?_
          refine GL.nil ?_
          refine GE.thenN ?_
          refine GC.cond rfl (fun hq113 => by cases hq113) (fun _ => ?_)
          refine GC.skip ?_
          refine GE.thenN ?_
          refine GC.seq ?_
          refine GC.seq ?_
          refine GC.draw [⟨xq18.1, [(.int .u32 (((v / 2 ^ ((Nat.log2 v - 23)) : Nat) : Int)))], 23, true⟩, ⟨bq2, [(.int .i64 2), (.bool ng), (.slice (some ⟨b, 0, none⟩) 1 c), (.int .i64 e), (.bool false)], 38, true⟩, ⟨bq1, [(.int .i64 23), (.int .i64 8)], 67, true⟩] T.mixed (fuel := 6) rfl rfl ?_
          refine GH.take 0 (v := (.slice (some ⟨xq18.1, 0, none⟩) 1 1)) rfl (by kernel_rfl) (by kernel_rfl) (by kernel_rfl) (fun _ _ _ h => h) (Ex.move rfl) (ulC (ulC (ulC ulN))) (by decide) ?_
          refine GH.take 2 (v := (.pointer (some ⟨bq1, 0, none⟩))) rfl (by kernel_rfl) (by kernel_rfl) (by kernel_rfl) (fun _ _ _ h => h) (Ex.cast (Ex.fieldAddr rfl Try.underlying67 rfl T.sz3 (by decide)) rfl) (ulC (ulC (ulC ulN))) (by decide) ?_
          refine GH.take 3 (v := (.int .i64 23)) rfl (by kernel_rfl) (by kernel_rfl) (by kernel_rfl) (fun _ _ _ h => h) (Ex.load rfl T.ag3 (i := 2) rfl rfl) (ulC (ulC (ulC ulN))) (by decide) ?_
          refine GH.take 4 (v := (.int .i64 24)) rfl (by kernel_rfl) (by kernel_rfl) (by kernel_rfl) (fun _ _ _ h => h) (Ex.add rfl rfl (Z := 24) (by decide)) (ulC (ulC (ulC ulN))) (by decide) ?_
          refine GH.one 1 rfl (by kernel_rfl) (Stp.callR (vs := [(.slice (some ⟨xq18.1, 0, none⟩) 1 1)]) rfl rfl T.own88 (by decide) (fun wc hw => bits_pos (v / 2 ^ ((Nat.log2 v - 23))) xq18.1 1 wc (by omega) (Lg.rd1 (hw.rdOf (i := 0) rfl 0)))) (fun _ => (ulC (ulC (ulC ulN)))) (fun xq116 hq117 => ?_)
          refine GH.take 5 (v := (.bool false)) rfl (by kernel_rfl) (by kernel_rfl) (by kernel_rfl) (fun _ _ _ h => h) (Ex.cast (Ex.gtr rfl rfl) (congrArg Value.bool (decide_eq_false (by omega)))) (ulC (ulC (ulC ulN))) (by decide) ?_
          refine GH.done (by kernel_rfl) ?_
          refine GE.thenN ?_
          refine GC.cond rfl (fun hq118 => by cases hq118) (fun _ => ?_)
          refine GC.skip ?_
          refine GE.thenN ?_
          refine GC.seq ?_
          refine GC.region ?_
          refine GL.val (Ex.move rfl) (by decide) ?_
          refine GL.step (Stp.callR (vs := [(.slice (some ⟨xq18.1, 0, none⟩) 1 1)]) rfl rfl T.own89 (by decide) (fun wc hw => low_pos (v / 2 ^ ((Nat.log2 v - 23))) xq18.1 1 wc (by omega) (Lg.rd1 (hw.rdOf (i := 0) rfl 0)))) (fun xq119 hq120 => ?_)
          refine GL.val (Ex.assign rfl) (by decide) ?_
          refine GL.nil ?_
          refine GE.thenN ?_
          refine GC.seq ?_
          refine GC.seq ?_
          refine GC.region ?_
          refine GL.val (Ex.move rfl) (by decide) ?_
          refine GL.val (v := (.pointer (some ⟨bq1, 0, none⟩))) (Ex.cast (Ex.fieldAddr rfl Try.underlying67 rfl T.sz3 (by decide)) rfl) (by decide) ?_
          refine GL.val (Ex.load rfl T.ag3 (i := 2) rfl rfl) (by decide) ?_
          refine GL.val (v := (.int .u64 8388608)) (Ex.shl rfl (m := 23) rfl (by decide) (Z := 8388608) (by decide)) (by decide) ?_
          refine GL.val (v := (.bool false)) (Ex.cast (Ex.lss rfl rfl) (congrArg Value.bool (decide_eq_false (by omega)))) (by decide) ?_
          refine GL.nil ?_
          refine GE.thenN ?_
          refine GC.cond rfl (fun hq121 => by cases hq121) (fun _ => ?_)
          refine GC.skip ?_
          refine GE.thenN ?_
          refine GC.seq ?_
          refine GC.region ?_
          refine GL.val (Ex.move rfl) (by decide) ?_
          refine GL.val (v := (.agg #[(.int .i64 23), (.int .i64 8)])) (Ex.loadA rfl T.ag67 T.sz67 (i := 2) rfl (vs := [(.int .i64 23), (.int .i64 8)]) rfl rfl) (by decide) ?_
          refine GL.step (Stp.callR (vs := [(.agg #[(.int .i64 23), (.int .i64 8)])]) rfl rfl T.own83 (by decide) (fun wc hw => j83_2  wc )) (fun xq122 hq123 => ?_)
          refine GL.val (v := (.int .i64 (((((Nat.log2 v : Nat) : Int) + e - 23) + 150)))) (Ex.add rfl rfl (Z := ((((Nat.log2 v : Nat) : Int) + e - 23) + 150)) (w64 (by omega))) (by decide) ?_
          refine GL.val (Ex.assign rfl) (by decide) ?_
          refine GL.nil ?_
          refine GE.thenN ?_
          refine GC.seq ?_
          refine GC.seq ?_
          refine GC.region ?_
          refine GL.val (Ex.move rfl) (by decide) ?_
          refine GL.val (v := (.int .u64 (((((Nat.log2 v : Nat) : Int) + e - 23) + 150)))) (Ex.conv rfl Try.underlying3 Try.underlying70 (Z := ((((Nat.log2 v : Nat) : Int) + e - 23) + 150)) (wu64b (by omega))) (by decide) ?_
          refine GL.val (v := (.agg #[(.int .i64 23), (.int .i64 8)])) (Ex.loadA rfl T.ag67 T.sz67 (i := 2) rfl (vs := [(.int .i64 23), (.int .i64 8)]) rfl rfl) (by decide) ?_
          refine GL.step (Stp.callR (vs := [(.agg #[(.int .i64 23), (.int .i64 8)])]) rfl rfl T.own82 (by decide) (fun wc hw => j82_1  wc )) (fun xq124 hq125 => ?_)
          refine GL.val (v := (.bool false)) (Ex.cast (Ex.geq rfl rfl) (congrArg Value.bool (decide_eq_false (by omega)))) (by decide) ?_
          refine GL.nil ?_
          refine GE.thenN ?_
          refine GC.cond rfl (fun hq126 => by cases hq126) (fun _ => ?_)
          refine GC.skip ?_
          refine GE.thenN ?_
          refine GC.seq ?_
          refine GC.drawP [⟨xq18.1, [(.int .u32 (((v / 2 ^ ((Nat.log2 v - 23)) : Nat) : Int)))], 23, true⟩, ⟨bq2, [(.int .i64 2), (.bool ng), (.slice (some ⟨b, 0, none⟩) 1 c), (.int .i64 e), (.bool false)], 38, true⟩, ⟨bq1, [(.int .i64 23), (.int .i64 8)], 67, true⟩] T.mixed (by kernel_rfl) (by kernel_rfl) (fuel := 17) rfl rfl ?_
          refine GH.take 0 (v := (.agg #[(.int .i64 23), (.int .i64 8)])) rfl (by kernel_rfl) (by kernel_rfl) (by kernel_rfl) (fun _ _ _ h => h) (Ex.loadA rfl T.ag67 T.sz67 (i := 2) rfl (vs := [(.int .i64 23), (.int .i64 8)]) rfl rfl) (ulC (ulC (ulC ulN))) (by decide) ?_
          refine GH.take 1 (v := (.pointer (some ⟨bq2, 1, none⟩))) rfl (by kernel_rfl) (by kernel_rfl) (by kernel_rfl) (fun _ _ _ h => h) (Ex.cast (Ex.fieldAddr rfl Try.underlying38 rfl T.sz4 (by decide)) rfl) (ulC (ulC (ulC ulN))) (by decide) ?_
          refine GH.take 2 (v := (.bool ng)) rfl (by kernel_rfl) (by kernel_rfl) (by kernel_rfl) (fun _ _ _ h => h) (Ex.load rfl T.ag4 (i := 1) rfl rfl) (ulC (ulC (ulC ulN))) (by decide) ?_
          refine GH.take 4 (v := (.int .i64 (((((Nat.log2 v : Nat) : Int) + e - 23) + 150)))) rfl (by kernel_rfl) (by kernel_rfl) (by kernel_rfl) (fun _ _ _ h => h) (Ex.move rfl) (ulC (ulC (ulC ulN))) (by decide) ?_
          refine GH.take 5 (v := (.int .u64 (((((Nat.log2 v : Nat) : Int) + e - 23) + 150)))) rfl (by kernel_rfl) (by kernel_rfl) (by kernel_rfl) (fun _ _ _ h => h) (Ex.conv rfl Try.underlying3 Try.underlying70 (Z := ((((Nat.log2 v : Nat) : Int) + e - 23) + 150)) (wu64b (by omega))) (ulC (ulC (ulC ulN))) (by decide) ?_
          refine GH.take 6 (v := (.pointer (some ⟨bq1, 0, none⟩))) rfl (by kernel_rfl) (by kernel_rfl) (by kernel_rfl) (fun _ _ _ h => h) (Ex.cast (Ex.fieldAddr rfl Try.underlying67 rfl T.sz3 (by decide)) rfl) (ulC (ulC (ulC ulN))) (by decide) ?_
          refine GH.take 7 (v := (.int .i64 23)) rfl (by kernel_rfl) (by kernel_rfl) (by kernel_rfl) (fun _ _ _ h => h) (Ex.load rfl T.ag3 (i := 2) rfl rfl) (ulC (ulC (ulC ulN))) (by decide) ?_
          refine GH.take 8 (v := (.int .u64 (((((((((Nat.log2 v : Nat) : Int) + e - 23) + 150)).toNat : Nat) : Int) * 8388608)))) rfl (by kernel_rfl) (by kernel_rfl) (by kernel_rfl) (fun _ _ _ h => h) (Ex.shl rfl (m := 23) rfl (by decide) (Z := (((((((Nat.log2 v : Nat) : Int) + e - 23) + 150)).toNat : Nat) : Int) * 8388608) (by rw [show ((2 : Int) ^ 23) = 8388608 by decide, wu64b (by omega)]; omega)) (ulC (ulC (ulC ulN))) (by decide) ?_
          refine GH.take 10 (v := (.int .u64 (((v / 2 ^ ((Nat.log2 v - 23)) : Nat) : Int)))) rfl (by kernel_rfl) (by kernel_rfl) (by kernel_rfl) (fun _ _ _ h => h) (Ex.move rfl) (ulC (ulC (ulC ulN))) (by decide) ?_
          refine GH.take 11 (v := (.pointer (some ⟨bq1, 0, none⟩))) rfl (by kernel_rfl) (by kernel_rfl) (by kernel_rfl) (fun _ _ _ h => h) (Ex.cast (Ex.fieldAddr rfl Try.underlying67 rfl T.sz3 (by decide)) rfl) (ulC (ulC (ulC ulN))) (by decide) ?_
          refine GH.take 12 (v := (.int .i64 23)) rfl (by kernel_rfl) (by kernel_rfl) (by kernel_rfl) (fun _ _ _ h => h) (Ex.load rfl T.ag3 (i := 2) rfl rfl) (ulC (ulC (ulC ulN))) (by decide) ?_
          refine GH.take 13 (v := (.int .u64 8388608)) rfl (by kernel_rfl) (by kernel_rfl) (by kernel_rfl) (fun _ _ _ h => h) (Ex.shl rfl (m := 23) rfl (by decide) (Z := 8388608) (by decide)) (ulC (ulC (ulC ulN))) (by decide) ?_
          refine GH.take 14 (v := (.int .u64 8388607)) rfl (by kernel_rfl) (by kernel_rfl) (by kernel_rfl) (fun _ _ _ h => h) (Ex.sub' rfl rfl (Z := 8388607) (by decide)) (ulC (ulC (ulC ulN))) (by decide) ?_
          refine GH.take 15 (v := (.int .u64 ((((v / 2 ^ ((Nat.log2 v - 23)) - 8388608) : Nat) : Int)))) rfl (by kernel_rfl) (by kernel_rfl) (by kernel_rfl) (fun _ _ _ h => h) (Ex.bits rfl rfl (by simp) (Z := (((v / 2 ^ ((Nat.log2 v - 23)) - 8388608) : Nat) : Int)) (andm64 23 (by omega) (by omega) (by omega) (by omega) rfl)) (ulC (ulC (ulC ulN))) (by decide) ?_
          refine GH.one 3 rfl (by kernel_rfl) (Stp.callR (vs := [(.agg #[(.int .i64 23), (.int .i64 8)]), (.bool ng)]) rfl rfl T.own87 (by decide) (fun wc hw => sign_p ng wc)) (fun _ => (ulC (ulC (ulC ulN)))) (fun xq129 hq130 => ?_)
          refine GH.take 9 (v := (.int .u64 ((Lg.sg ng + (((((((Nat.log2 v : Nat) : Int) + e - 23) + 150)).toNat * 8388608 : Nat) : Int))))) rfl (by kernel_rfl) (by kernel_rfl) (by kernel_rfl) (fun _ _ _ h => h) (Ex.bits rfl rfl (by simp) (Z := Lg.sg ng + (((((((Nat.log2 v : Nat) : Int) + e - 23) + 150)).toNat * 8388608 : Nat) : Int)) (Lg.or_sign (by omega) (by omega))) (ulC (ulC (ulC ulN))) (by decide) ?_
          refine GH.take 16 (v := (.int .u64 ((Lg.sg ng + (((((((Nat.log2 v : Nat) : Int) + e - 23) + 150)).toNat * 8388608 + (v / 2 ^ ((Nat.log2 v - 23)) - 8388608) : Nat) : Int))))) rfl (by kernel_rfl) (by kernel_rfl) (by kernel_rfl) (fun _ _ _ h => h) (Ex.bits rfl rfl (by simp) (Z := Lg.sg ng + (((((((Nat.log2 v : Nat) : Int) + e - 23) + 150)).toNat * 8388608 + (v / 2 ^ ((Nat.log2 v - 23)) - 8388608) : Nat) : Int)) (Lg.or_low (by omega) (by omega))) (ulC (ulC (ulC ulN))) (by decide) ?_
          refine GH.done (by kernel_rfl) ?_
          refine GE.thenN ?_
          refine GE.tail rfl (Ex.wp (v := (.int .u64 ((Lg.sg ng + (((((((Nat.log2 v : Nat) : Int) + e - 23) + 150)).toNat * 8388608 + (v / 2 ^ ((Nat.log2 v - 23)) - 8388608) : Nat) : Int))))) (Ex.assign rfl) (by decide)) (fun _ _ => ?_)
          refine GE.thenN ?_
          refine GC.ret ?_
          refine GC.ret1 rfl (Rv.tmp rfl) (fun wN HN => ?_)
          exact HN.ret () trivial (by rw [Lg.RD_of (v := v) (K := (v / 2 ^ (Nat.log2 v - 23))) (e := e) hv.1 hv.2 he ((if_pos (by omega)).trans (Lg.kept_no (by omega) (by first | exact fun q => absurd q.1 (by omega) | exact fun q => by rcases q.2 with z | z; exact absurd (hb.2 z) (by assumption); omega))) (by omega)]) (List.nil_sublist _) rfl
    · refine GL.val (v := (.bool false)) (Ex.cast (Ex.lss rfl rfl) (congrArg Value.bool (decide_eq_false hq14))) (by decide) ?_
      refine GL.val (Ex.move rfl) (by decide) ?_
      refine GL.skipG (tj := 70) rfl rfl rfl (by decide) ?_
      refine GL.skipG (tj := 70) rfl rfl rfl (by decide) ?_
      refine GL.val (v := (.bool false)) (Ex.pickF rfl rfl) (by decide) ?_
      refine GL.nil ?_
      refine GE.thenN ?_
      refine GC.cond rfl (fun hq131 => by cases hq131) (fun _ => ?_)
      refine GC.exit ?_
      refine GE.thenE ?_
      refine GE.thenE ?_
      refine GE.blockE ?_
      refine GE.thenN ?_
      refine GC.seq ?_
      have hb := Lg.exit_bit hpi (by first | exact Or.inl (by omega) | exact Or.inr (by simpa using hq15))
      have hqf := Lg.quo_facts (v := v) (by omega)
      have hql := Lg.log_23 hqf.1 hqf.2
      refine GC.region ?_
      refine GL.val (Ex.move rfl) (by decide) ?_
      refine GL.val (Ex.move rfl) (by decide) ?_
      refine GL.val (Ex.move rfl) (by decide) ?_
      refine GL.val (v := (.int .i64 ((((Nat.log2 v - 23) : Nat) : Int)))) (Ex.sub' rfl rfl (Z := (((Nat.log2 v - 23) : Nat) : Int)) (by rw [w64 (by omega)]; omega)) (by decide) ?_
      refine GL.step (Stp.callR (vs := [(.slice (some ⟨b, 0, none⟩) 1 c), (.int .i64 ((((Nat.log2 v - 23) : Nat) : Int)))]) rfl rfl T.own77 (by decide) (fun wc hw => down_pos v b c ((Nat.log2 v - 23)) wc hv (hw.rd hc (fun x => x)) (by omega) (by omega))) (fun xq132 hq133 => ?_)
      refine GL.val (Ex.move rfl) (by decide) ?_
      refine GL.val (Ex.extract rfl rfl) (by decide) ?_
      refine GL.val (Ex.extract rfl rfl) (by decide) ?_
      refine GL.val (Ex.assign rfl) (by decide) ?_
      refine GL.val (Ex.assign rfl) (by decide) ?_
      refine GL.nil ?_
      refine GE.thenN ?_
      refine GC.seq ?_
      refine GC.region ?_
      refine GL.val (Ex.move rfl) (by decide) ?_
      refine GL.val (Ex.assign rfl) (by decide) ?_
      refine GL.nil ?_
      refine GE.thenN ?_
      refine GC.region ?_
      by_cases hq134 : ((((Lg.bt v ((Nat.log2 v - 24)) : Nat) : Int)) = 1)
      · refine GL.val (v := (.bool true)) (Ex.cast (Ex.move rfl) (congrArg Value.bool (decide_eq_true hq134))) (by decide) ?_
        refine GL.val (Ex.move rfl) (by decide) ?_
        by_cases hq135 : rb = true
        · refine GL.stepG (tj := 90) rfl rfl (Ex.wp (v := (.bool true)) (Ex.cast (Ex.move rfl) (congrArg Value.bool (hq135))) (by decide)) (fun _ _ => ?_)
          refine GL.stepG (tj := 90) rfl rfl (Ex.wp (v := (.bool true)) (Ex.move rfl) (by decide)) (fun _ _ => ?_)
          refine GL.skipG (tj := 92) rfl rfl rfl (by decide) ?_
          refine GL.skipG (tj := 92) rfl rfl rfl (by decide) ?_
          refine GL.skipG (tj := 92) rfl rfl rfl (by decide) ?_
          refine GL.stepG (tj := 90) rfl rfl (Ex.wp (v := (.bool true)) (Ex.pickT rfl rfl) (by decide)) (fun _ _ => ?_)
          refine GL.val (v := (.bool true)) (Ex.pickT rfl rfl) (by decide) ?_
          refine GL.val (Ex.assign rfl) (by decide) ?_
          refine GL.nil ?_
          refine GE.thenN ?_
          refine GC.seq ?_
          refine GC.seq ?_
          refine GC.region ?_
          refine GL.val (Ex.move rfl) (by decide) ?_
          refine GL.nil ?_
          refine GE.thenN ?_
          refine GC.cond rfl (fun _ => ?_) (fun hq136 => by cases hq136)
          refine GC.region ?_
          refine GL.val (Ex.move rfl) (by decide) ?_
          refine GL.step (Stp.callR (vs := [(.int .u64 1)]) rfl rfl T.own62 (by decide) (fun wc hw => natof_pos 1 wc (by decide))) (fun xq137 hq138 => ?_)
          refine GL.step (Stp.callR (vs := [(.slice (some ⟨xq132.1, 0, none⟩) 1 1), (.slice (some ⟨xq137, 0, none⟩) 1 2)]) rfl rfl T.own64 (by decide) (fun wc hw => plus_1 (v / 2 ^ ((Nat.log2 v - 23))) xq132.1 1 xq137 2 wc (by omega) (Lg.rd1 (hw.rdOf (i := 1) rfl 0)) (Lg.rd1 (hw.rdOf (i := 0) rfl 0)))) (fun xq139 hq140 => ?_)
          refine GL.val (Ex.assign rfl) (by decide) ?_
          refine GL.nil ?_
          refine GE.thenN ?_
          refine GC.seq ?_
          refine GC.seq ?_
          refine GC.draw [⟨xq139, [(.int .u32 ((((v / 2 ^ ((Nat.log2 v - 23))) + 1 : Nat) : Int))), (.int .u32 0)], 23, true⟩, ⟨xq137, [(.int .u32 1), (.int .u32 0)], 23, true⟩, ⟨xq132.1, [(.int .u32 (((v / 2 ^ ((Nat.log2 v - 23)) : Nat) : Int)))], 23, true⟩, ⟨bq2, [(.int .i64 2), (.bool ng), (.slice (some ⟨b, 0, none⟩) 1 c), (.int .i64 e), (.bool false)], 38, true⟩, ⟨bq1, [(.int .i64 23), (.int .i64 8)], 67, true⟩] T.mixed (fuel := 6) rfl rfl ?_
          refine GH.take 0 (v := (.slice (some ⟨xq139, 0, none⟩) 1 2)) rfl (by kernel_rfl) (by kernel_rfl) (by kernel_rfl) (fun _ _ _ h => h) (Ex.move rfl) (ulC (ulC (ulC (ulC (ulC ulN))))) (by decide) ?_
          refine GH.take 2 (v := (.pointer (some ⟨bq1, 0, none⟩))) rfl (by kernel_rfl) (by kernel_rfl) (by kernel_rfl) (fun _ _ _ h => h) (Ex.cast (Ex.fieldAddr rfl Try.underlying67 rfl T.sz3 (by decide)) rfl) (ulC (ulC (ulC (ulC (ulC ulN))))) (by decide) ?_
          refine GH.take 3 (v := (.int .i64 23)) rfl (by kernel_rfl) (by kernel_rfl) (by kernel_rfl) (fun _ _ _ h => h) (Ex.load rfl T.ag3 (i := 4) rfl rfl) (ulC (ulC (ulC (ulC (ulC ulN))))) (by decide) ?_
          refine GH.take 4 (v := (.int .i64 24)) rfl (by kernel_rfl) (by kernel_rfl) (by kernel_rfl) (fun _ _ _ h => h) (Ex.add rfl rfl (Z := 24) (by decide)) (ulC (ulC (ulC (ulC (ulC ulN))))) (by decide) ?_
          refine GH.one 1 rfl (by kernel_rfl) (Stp.callR (vs := [(.slice (some ⟨xq139, 0, none⟩) 1 2)]) rfl rfl T.own88 (by decide) (fun wc hw => bits_pos ((v / 2 ^ ((Nat.log2 v - 23))) + 1) xq139 2 wc (by omega) (Lg.rd1 (hw.rdOf (i := 0) rfl 0)))) (fun _ => (ulC (ulC (ulC (ulC (ulC ulN)))))) (fun xq143 hq144 => ?_)
          refine GH.take 5 (v := (.bool (decide (24 < (((Nat.log2 ((v / 2 ^ ((Nat.log2 v - 23))) + 1) + 1 : Nat) : Int)))))) rfl (by kernel_rfl) (by kernel_rfl) (by kernel_rfl) (fun _ _ _ h => h) (Ex.gtr rfl rfl) (ulC (ulC (ulC (ulC (ulC ulN))))) (by decide) ?_
          refine GH.done (by kernel_rfl) ?_
          refine GE.thenN ?_
          refine GC.cond rfl (fun hq145 => ?_) (fun hq145 => ?_)
          · replace hq145 := of_decide_eq_true hq145
            have hk24 : (v / 2 ^ (Nat.log2 v - 23)) + 1 = 16777216 := Lg.is_24 (by omega) (by omega)
            have hk23 : ((v / 2 ^ (Nat.log2 v - 23)) + 1) / 2 ^ 1 = 8388608 := by omega
            refine GC.seq ?_
            refine GC.region ?_
            refine GL.val (Ex.move rfl) (by decide) ?_
            refine GL.step (Stp.callR (vs := [(.slice (some ⟨xq139, 0, none⟩) 1 2), (.int .i64 1)]) rfl rfl T.own77 (by decide) (fun wc hw => down_pos ((v / 2 ^ ((Nat.log2 v - 23))) + 1) xq139 2 1 wc (by omega) (Lg.rd1 (hw.rdOf (i := 0) rfl 0)) (by omega) (by omega))) (fun xq146 hq147 => ?_)
            refine GL.val (Ex.move rfl) (by decide) ?_
            refine GL.val (Ex.extract rfl rfl) (by decide) ?_
            refine GL.val (Ex.extract rfl rfl) (by decide) ?_
            refine GL.val (Ex.assign rfl) (by decide) ?_
            refine GL.nil ?_
            refine GE.thenN ?_
            refine GC.region ?_
            refine GL.val (Ex.move rfl) (by decide) ?_
            refine GL.val (v := (.int .i64 (((((Nat.log2 v : Nat) : Int) + e - 23) + 1)))) (Ex.add rfl rfl (Z := ((((Nat.log2 v : Nat) : Int) + e - 23) + 1)) (w64 (by omega))) (by decide) ?_
            refine GL.val (Ex.assign rfl) (by decide) ?_
            refine GL.nil ?_
            refine GE.thenN ?_
            refine GC.seq ?_
            refine GC.region ?_
            refine GL.val (Ex.move rfl) (by decide) ?_
            refine GL.step (Stp.callR (vs := [(.slice (some ⟨xq146.1, 0, none⟩) 1 1)]) rfl rfl T.own89 (by decide) (fun wc hw => low_pos (((v / 2 ^ ((Nat.log2 v - 23))) + 1) / 2 ^ 1) xq146.1 1 wc (by omega) (Lg.rd1 (hw.rdOf (i := 0) rfl 0)))) (fun xq148 hq149 => ?_)
            refine GL.val (Ex.assign rfl) (by decide) ?_
            refine GL.nil ?_
            refine GE.thenN ?_
            refine GC.seq ?_
            refine GC.seq ?_
            refine GC.region ?_
            refine GL.val (Ex.move rfl) (by decide) ?_
            refine GL.val (v := (.pointer (some ⟨bq1, 0, none⟩))) (Ex.cast (Ex.fieldAddr rfl Try.underlying67 rfl T.sz3 (by decide)) rfl) (by decide) ?_
            refine GL.val (Ex.load rfl T.ag3 (i := 5) rfl rfl) (by decide) ?_
            refine GL.val (v := (.int .u64 8388608)) (Ex.shl rfl (m := 23) rfl (by decide) (Z := 8388608) (by decide)) (by decide) ?_
            refine GL.val (v := (.bool false)) (Ex.cast (Ex.lss rfl rfl) (congrArg Value.bool (decide_eq_false (by omega)))) (by decide) ?_
            refine GL.nil ?_
            refine GE.thenN ?_
            refine GC.cond rfl (fun hq150 => by cases hq150) (fun _ => ?_)
            refine GC.skip ?_
            refine GE.thenN ?_
            refine GC.seq ?_
            refine GC.region ?_
            refine GL.val (Ex.move rfl) (by decide) ?_
            refine GL.val (v := (.agg #[(.int .i64 23), (.int .i64 8)])) (Ex.loadA rfl T.ag67 T.sz67 (i := 5) rfl (vs := [(.int .i64 23), (.int .i64 8)]) rfl rfl) (by decide) ?_
            refine GL.step (Stp.callR (vs := [(.agg #[(.int .i64 23), (.int .i64 8)])]) rfl rfl T.own83 (by decide) (fun wc hw => j83_2  wc )) (fun xq151 hq152 => ?_)
            refine GL.val (v := (.int .i64 ((((((Nat.log2 v : Nat) : Int) + e - 23) + 1) + 150)))) (Ex.add rfl rfl (Z := (((((Nat.log2 v : Nat) : Int) + e - 23) + 1) + 150)) (w64 (by omega))) (by decide) ?_
            refine GL.val (Ex.assign rfl) (by decide) ?_
            refine GL.nil ?_
            refine GE.thenN ?_
            refine GC.seq ?_
            refine GC.seq ?_
            refine GC.region ?_
            refine GL.val (Ex.move rfl) (by decide) ?_
            refine GL.val (v := (.int .u64 ((((((Nat.log2 v : Nat) : Int) + e - 23) + 1) + 150)))) (Ex.conv rfl Try.underlying3 Try.underlying70 (Z := (((((Nat.log2 v : Nat) : Int) + e - 23) + 1) + 150)) (wu64b (by omega))) (by decide) ?_
            refine GL.val (v := (.agg #[(.int .i64 23), (.int .i64 8)])) (Ex.loadA rfl T.ag67 T.sz67 (i := 5) rfl (vs := [(.int .i64 23), (.int .i64 8)]) rfl rfl) (by decide) ?_
            refine GL.step (Stp.callR (vs := [(.agg #[(.int .i64 23), (.int .i64 8)])]) rfl rfl T.own82 (by decide) (fun wc hw => j82_1  wc )) (fun xq153 hq154 => ?_)
            refine GL.val (v := (.bool false)) (Ex.cast (Ex.geq rfl rfl) (congrArg Value.bool (decide_eq_false (by omega)))) (by decide) ?_
            refine GL.nil ?_
            refine GE.thenN ?_
            refine GC.cond rfl (fun hq155 => by cases hq155) (fun _ => ?_)
            refine GC.skip ?_
            refine GE.thenN ?_
            refine GC.seq ?_
            refine GC.drawP [⟨xq146.1, [(.int .u32 (((((v / 2 ^ ((Nat.log2 v - 23))) + 1) / 2 ^ 1 : Nat) : Int)))], 23, true⟩, ⟨xq139, [(.int .u32 ((((v / 2 ^ ((Nat.log2 v - 23))) + 1 : Nat) : Int))), (.int .u32 0)], 23, true⟩, ⟨xq137, [(.int .u32 1), (.int .u32 0)], 23, true⟩, ⟨xq132.1, [(.int .u32 (((v / 2 ^ ((Nat.log2 v - 23)) : Nat) : Int)))], 23, true⟩, ⟨bq2, [(.int .i64 2), (.bool ng), (.slice (some ⟨b, 0, none⟩) 1 c), (.int .i64 e), (.bool false)], 38, true⟩, ⟨bq1, [(.int .i64 23), (.int .i64 8)], 67, true⟩] T.mixed (by kernel_rfl) (by kernel_rfl) (fuel := 17) rfl rfl ?_
            refine GH.take 0 (v := (.agg #[(.int .i64 23), (.int .i64 8)])) rfl (by kernel_rfl) (by kernel_rfl) (by kernel_rfl) (fun _ _ _ h => h) (Ex.loadA rfl T.ag67 T.sz67 (i := 5) rfl (vs := [(.int .i64 23), (.int .i64 8)]) rfl rfl) (ulC (ulC (ulC (ulC (ulC (ulC ulN)))))) (by decide) ?_
            refine GH.take 1 (v := (.pointer (some ⟨bq2, 1, none⟩))) rfl (by kernel_rfl) (by kernel_rfl) (by kernel_rfl) (fun _ _ _ h => h) (Ex.cast (Ex.fieldAddr rfl Try.underlying38 rfl T.sz4 (by decide)) rfl) (ulC (ulC (ulC (ulC (ulC (ulC ulN)))))) (by decide) ?_
            refine GH.take 2 (v := (.bool ng)) rfl (by kernel_rfl) (by kernel_rfl) (by kernel_rfl) (fun _ _ _ h => h) (Ex.load rfl T.ag4 (i := 4) rfl rfl) (ulC (ulC (ulC (ulC (ulC (ulC ulN)))))) (by decide) ?_
            refine GH.take 4 (v := (.int .i64 ((((((Nat.log2 v : Nat) : Int) + e - 23) + 1) + 150)))) rfl (by kernel_rfl) (by kernel_rfl) (by kernel_rfl) (fun _ _ _ h => h) (Ex.move rfl) (ulC (ulC (ulC (ulC (ulC (ulC ulN)))))) (by decide) ?_
            refine GH.take 5 (v := (.int .u64 ((((((Nat.log2 v : Nat) : Int) + e - 23) + 1) + 150)))) rfl (by kernel_rfl) (by kernel_rfl) (by kernel_rfl) (fun _ _ _ h => h) (Ex.conv rfl Try.underlying3 Try.underlying70 (Z := (((((Nat.log2 v : Nat) : Int) + e - 23) + 1) + 150)) (wu64b (by omega))) (ulC (ulC (ulC (ulC (ulC (ulC ulN)))))) (by decide) ?_
            refine GH.take 6 (v := (.pointer (some ⟨bq1, 0, none⟩))) rfl (by kernel_rfl) (by kernel_rfl) (by kernel_rfl) (fun _ _ _ h => h) (Ex.cast (Ex.fieldAddr rfl Try.underlying67 rfl T.sz3 (by decide)) rfl) (ulC (ulC (ulC (ulC (ulC (ulC ulN)))))) (by decide) ?_
            refine GH.take 7 (v := (.int .i64 23)) rfl (by kernel_rfl) (by kernel_rfl) (by kernel_rfl) (fun _ _ _ h => h) (Ex.load rfl T.ag3 (i := 5) rfl rfl) (ulC (ulC (ulC (ulC (ulC (ulC ulN)))))) (by decide) ?_
            refine GH.take 8 (v := (.int .u64 ((((((((((Nat.log2 v : Nat) : Int) + e - 23) + 1) + 150)).toNat : Nat) : Int) * 8388608)))) rfl (by kernel_rfl) (by kernel_rfl) (by kernel_rfl) (fun _ _ _ h => h) (Ex.shl rfl (m := 23) rfl (by decide) (Z := ((((((((Nat.log2 v : Nat) : Int) + e - 23) + 1) + 150)).toNat : Nat) : Int) * 8388608) (by rw [show ((2 : Int) ^ 23) = 8388608 by decide, wu64b (by omega)]; omega)) (ulC (ulC (ulC (ulC (ulC (ulC ulN)))))) (by decide) ?_
            refine GH.take 10 (v := (.int .u64 (((((v / 2 ^ ((Nat.log2 v - 23))) + 1) / 2 ^ 1 : Nat) : Int)))) rfl (by kernel_rfl) (by kernel_rfl) (by kernel_rfl) (fun _ _ _ h => h) (Ex.move rfl) (ulC (ulC (ulC (ulC (ulC (ulC ulN)))))) (by decide) ?_
            refine GH.take 11 (v := (.pointer (some ⟨bq1, 0, none⟩))) rfl (by kernel_rfl) (by kernel_rfl) (by kernel_rfl) (fun _ _ _ h => h) (Ex.cast (Ex.fieldAddr rfl Try.underlying67 rfl T.sz3 (by decide)) rfl) (ulC (ulC (ulC (ulC (ulC (ulC ulN)))))) (by decide) ?_
            refine GH.take 12 (v := (.int .i64 23)) rfl (by kernel_rfl) (by kernel_rfl) (by kernel_rfl) (fun _ _ _ h => h) (Ex.load rfl T.ag3 (i := 5) rfl rfl) (ulC (ulC (ulC (ulC (ulC (ulC ulN)))))) (by decide) ?_
            refine GH.take 13 (v := (.int .u64 8388608)) rfl (by kernel_rfl) (by kernel_rfl) (by kernel_rfl) (fun _ _ _ h => h) (Ex.shl rfl (m := 23) rfl (by decide) (Z := 8388608) (by decide)) (ulC (ulC (ulC (ulC (ulC (ulC ulN)))))) (by decide) ?_
            refine GH.take 14 (v := (.int .u64 8388607)) rfl (by kernel_rfl) (by kernel_rfl) (by kernel_rfl) (fun _ _ _ h => h) (Ex.sub' rfl rfl (Z := 8388607) (by decide)) (ulC (ulC (ulC (ulC (ulC (ulC ulN)))))) (by decide) ?_
            refine GH.take 15 (v := (.int .u64 ((((((v / 2 ^ ((Nat.log2 v - 23))) + 1) / 2 ^ 1 - 8388608) : Nat) : Int)))) rfl (by kernel_rfl) (by kernel_rfl) (by kernel_rfl) (fun _ _ _ h => h) (Ex.bits rfl rfl (by simp) (Z := (((((v / 2 ^ ((Nat.log2 v - 23))) + 1) / 2 ^ 1 - 8388608) : Nat) : Int)) (andm64 23 (by omega) (by omega) (by omega) (by omega) rfl)) (ulC (ulC (ulC (ulC (ulC (ulC ulN)))))) (by decide) ?_
            refine GH.one 3 rfl (by kernel_rfl) (Stp.callR (vs := [(.agg #[(.int .i64 23), (.int .i64 8)]), (.bool ng)]) rfl rfl T.own87 (by decide) (fun wc hw => sign_p ng wc)) (fun _ => (ulC (ulC (ulC (ulC (ulC (ulC ulN))))))) (fun xq158 hq159 => ?_)
            refine GH.take 9 (v := (.int .u64 ((Lg.sg ng + ((((((((Nat.log2 v : Nat) : Int) + e - 23) + 1) + 150)).toNat * 8388608 : Nat) : Int))))) rfl (by kernel_rfl) (by kernel_rfl) (by kernel_rfl) (fun _ _ _ h => h) (Ex.bits rfl rfl (by simp) (Z := Lg.sg ng + ((((((((Nat.log2 v : Nat) : Int) + e - 23) + 1) + 150)).toNat * 8388608 : Nat) : Int)) (Lg.or_sign (by omega) (by omega))) (ulC (ulC (ulC (ulC (ulC (ulC ulN)))))) (by decide) ?_
            refine GH.take 16 (v := (.int .u64 ((Lg.sg ng + ((((((((Nat.log2 v : Nat) : Int) + e - 23) + 1) + 150)).toNat * 8388608 + (((v / 2 ^ ((Nat.log2 v - 23))) + 1) / 2 ^ 1 - 8388608) : Nat) : Int))))) rfl (by kernel_rfl) (by kernel_rfl) (by kernel_rfl) (fun _ _ _ h => h) (Ex.bits rfl rfl (by simp) (Z := Lg.sg ng + ((((((((Nat.log2 v : Nat) : Int) + e - 23) + 1) + 150)).toNat * 8388608 + (((v / 2 ^ ((Nat.log2 v - 23))) + 1) / 2 ^ 1 - 8388608) : Nat) : Int)) (Lg.or_low (by omega) (by omega))) (ulC (ulC (ulC (ulC (ulC (ulC ulN)))))) (by decide) ?_
            refine GH.done (by kernel_rfl) ?_
            refine GE.thenN ?_
            refine GE.tail rfl (Ex.wp (v := (.int .u64 ((Lg.sg ng + ((((((((Nat.log2 v : Nat) : Int) + e - 23) + 1) + 150)).toNat * 8388608 + (((v / 2 ^ ((Nat.log2 v - 23))) + 1) / 2 ^ 1 - 8388608) : Nat) : Int))))) (Ex.assign rfl) (by decide)) (fun _ _ => ?_)
            refine GE.thenN ?_
            refine GC.ret ?_
            refine GC.ret1 rfl (Rv.tmp rfl) (fun wN HN => ?_)
            exact HN.ret () trivial (by rw [Lg.RD_of (v := v) (K := ((v / 2 ^ (Nat.log2 v - 23)) + 1)) (e := e) hv.1 hv.2 he ((if_pos (by omega)).trans (Lg.kept_up (by omega) (by omega) (by first | exact Or.inl (hb.1 (by assumption)) | exact Or.inr (by omega)))) (by omega)]) (List.nil_sublist _) rfl
          · replace hq145 := of_decide_eq_false hq145
            have hk24 : (v / 2 ^ (Nat.log2 v - 23)) + 1 < 16777216 := Lg.lt_24 (by omega)
            refine GC.skip ?_
            refine GE.thenN ?_
            refine GC.seq ?_
            refine GC.region ?_
            refine GL.val (Ex.move rfl) (by decide) ?_
            refine GL.step (Stp.callR (vs := [(.slice (some ⟨xq139, 0, none⟩) 1 2)]) rfl rfl T.own89 (by decide) (fun wc hw => low_pos ((v / 2 ^ ((Nat.log2 v - 23))) + 1) xq139 2 wc (by omega) (Lg.rd1 (hw.rdOf (i := 0) rfl 0)))) (fun xq160 hq161 => ?_)
            refine GL.val (Ex.assign rfl) (by decide) ?_
            refine GL.nil ?_
            refine GE.thenN ?_
            refine GC.seq ?_
            refine GC.seq ?_
            refine GC.region ?_
            refine GL.val (Ex.move rfl) (by decide) ?_
            refine GL.val (v := (.pointer (some ⟨bq1, 0, none⟩))) (Ex.cast (Ex.fieldAddr rfl Try.underlying67 rfl T.sz3 (by decide)) rfl) (by decide) ?_
            refine GL.val (Ex.load rfl T.ag3 (i := 4) rfl rfl) (by decide) ?_
            refine GL.val (v := (.int .u64 8388608)) (Ex.shl rfl (m := 23) rfl (by decide) (Z := 8388608) (by decide)) (by decide) ?_
            refine GL.val (v := (.bool false)) (Ex.cast (Ex.lss rfl rfl) (congrArg Value.bool (decide_eq_false (by omega)))) (by decide) ?_
            refine GL.nil ?_
            refine GE.thenN ?_
            refine GC.cond rfl (fun hq162 => by cases hq162) (fun _ => ?_)
            refine GC.skip ?_
            refine GE.thenN ?_
            refine GC.seq ?_
            refine GC.region ?_
            refine GL.val (Ex.move rfl) (by decide) ?_
            refine GL.val (v := (.agg #[(.int .i64 23), (.int .i64 8)])) (Ex.loadA rfl T.ag67 T.sz67 (i := 4) rfl (vs := [(.int .i64 23), (.int .i64 8)]) rfl rfl) (by decide) ?_
            refine GL.step (Stp.callR (vs := [(.agg #[(.int .i64 23), (.int .i64 8)])]) rfl rfl T.own83 (by decide) (fun wc hw => j83_2  wc )) (fun xq163 hq164 => ?_)
            refine GL.val (v := (.int .i64 (((((Nat.log2 v : Nat) : Int) + e - 23) + 150)))) (Ex.add rfl rfl (Z := ((((Nat.log2 v : Nat) : Int) + e - 23) + 150)) (w64 (by omega))) (by decide) ?_
            refine GL.val (Ex.assign rfl) (by decide) ?_
            refine GL.nil ?_
            refine GE.thenN ?_
            refine GC.seq ?_
            refine GC.seq ?_
            refine GC.region ?_
            refine GL.val (Ex.move rfl) (by decide) ?_
            refine GL.val (v := (.int .u64 (((((Nat.log2 v : Nat) : Int) + e - 23) + 150)))) (Ex.conv rfl Try.underlying3 Try.underlying70 (Z := ((((Nat.log2 v : Nat) : Int) + e - 23) + 150)) (wu64b (by omega))) (by decide) ?_
            refine GL.val (v := (.agg #[(.int .i64 23), (.int .i64 8)])) (Ex.loadA rfl T.ag67 T.sz67 (i := 4) rfl (vs := [(.int .i64 23), (.int .i64 8)]) rfl rfl) (by decide) ?_
            refine GL.step (Stp.callR (vs := [(.agg #[(.int .i64 23), (.int .i64 8)])]) rfl rfl T.own82 (by decide) (fun wc hw => j82_1  wc )) (fun xq165 hq166 => ?_)
            refine GL.val (v := (.bool false)) (Ex.cast (Ex.geq rfl rfl) (congrArg Value.bool (decide_eq_false (by omega)))) (by decide) ?_
            refine GL.nil ?_
            refine GE.thenN ?_
            refine GC.cond rfl (fun hq167 => by cases hq167) (fun _ => ?_)
            refine GC.skip ?_
            refine GE.thenN ?_
            refine GC.seq ?_
            refine GC.drawP [⟨xq139, [(.int .u32 ((((v / 2 ^ ((Nat.log2 v - 23))) + 1 : Nat) : Int))), (.int .u32 0)], 23, true⟩, ⟨xq137, [(.int .u32 1), (.int .u32 0)], 23, true⟩, ⟨xq132.1, [(.int .u32 (((v / 2 ^ ((Nat.log2 v - 23)) : Nat) : Int)))], 23, true⟩, ⟨bq2, [(.int .i64 2), (.bool ng), (.slice (some ⟨b, 0, none⟩) 1 c), (.int .i64 e), (.bool false)], 38, true⟩, ⟨bq1, [(.int .i64 23), (.int .i64 8)], 67, true⟩] T.mixed (by kernel_rfl) (by kernel_rfl) (fuel := 17) rfl rfl ?_
            refine GH.take 0 (v := (.agg #[(.int .i64 23), (.int .i64 8)])) rfl (by kernel_rfl) (by kernel_rfl) (by kernel_rfl) (fun _ _ _ h => h) (Ex.loadA rfl T.ag67 T.sz67 (i := 4) rfl (vs := [(.int .i64 23), (.int .i64 8)]) rfl rfl) (ulC (ulC (ulC (ulC (ulC ulN))))) (by decide) ?_
            refine GH.take 1 (v := (.pointer (some ⟨bq2, 1, none⟩))) rfl (by kernel_rfl) (by kernel_rfl) (by kernel_rfl) (fun _ _ _ h => h) (Ex.cast (Ex.fieldAddr rfl Try.underlying38 rfl T.sz4 (by decide)) rfl) (ulC (ulC (ulC (ulC (ulC ulN))))) (by decide) ?_
            refine GH.take 2 (v := (.bool ng)) rfl (by kernel_rfl) (by kernel_rfl) (by kernel_rfl) (fun _ _ _ h => h) (Ex.load rfl T.ag4 (i := 3) rfl rfl) (ulC (ulC (ulC (ulC (ulC ulN))))) (by decide) ?_
            refine GH.take 4 (v := (.int .i64 (((((Nat.log2 v : Nat) : Int) + e - 23) + 150)))) rfl (by kernel_rfl) (by kernel_rfl) (by kernel_rfl) (fun _ _ _ h => h) (Ex.move rfl) (ulC (ulC (ulC (ulC (ulC ulN))))) (by decide) ?_
            refine GH.take 5 (v := (.int .u64 (((((Nat.log2 v : Nat) : Int) + e - 23) + 150)))) rfl (by kernel_rfl) (by kernel_rfl) (by kernel_rfl) (fun _ _ _ h => h) (Ex.conv rfl Try.underlying3 Try.underlying70 (Z := ((((Nat.log2 v : Nat) : Int) + e - 23) + 150)) (wu64b (by omega))) (ulC (ulC (ulC (ulC (ulC ulN))))) (by decide) ?_
            refine GH.take 6 (v := (.pointer (some ⟨bq1, 0, none⟩))) rfl (by kernel_rfl) (by kernel_rfl) (by kernel_rfl) (fun _ _ _ h => h) (Ex.cast (Ex.fieldAddr rfl Try.underlying67 rfl T.sz3 (by decide)) rfl) (ulC (ulC (ulC (ulC (ulC ulN))))) (by decide) ?_
            refine GH.take 7 (v := (.int .i64 23)) rfl (by kernel_rfl) (by kernel_rfl) (by kernel_rfl) (fun _ _ _ h => h) (Ex.load rfl T.ag3 (i := 4) rfl rfl) (ulC (ulC (ulC (ulC (ulC ulN))))) (by decide) ?_
            refine GH.take 8 (v := (.int .u64 (((((((((Nat.log2 v : Nat) : Int) + e - 23) + 150)).toNat : Nat) : Int) * 8388608)))) rfl (by kernel_rfl) (by kernel_rfl) (by kernel_rfl) (fun _ _ _ h => h) (Ex.shl rfl (m := 23) rfl (by decide) (Z := (((((((Nat.log2 v : Nat) : Int) + e - 23) + 150)).toNat : Nat) : Int) * 8388608) (by rw [show ((2 : Int) ^ 23) = 8388608 by decide, wu64b (by omega)]; omega)) (ulC (ulC (ulC (ulC (ulC ulN))))) (by decide) ?_
            refine GH.take 10 (v := (.int .u64 ((((v / 2 ^ ((Nat.log2 v - 23))) + 1 : Nat) : Int)))) rfl (by kernel_rfl) (by kernel_rfl) (by kernel_rfl) (fun _ _ _ h => h) (Ex.move rfl) (ulC (ulC (ulC (ulC (ulC ulN))))) (by decide) ?_
            refine GH.take 11 (v := (.pointer (some ⟨bq1, 0, none⟩))) rfl (by kernel_rfl) (by kernel_rfl) (by kernel_rfl) (fun _ _ _ h => h) (Ex.cast (Ex.fieldAddr rfl Try.underlying67 rfl T.sz3 (by decide)) rfl) (ulC (ulC (ulC (ulC (ulC ulN))))) (by decide) ?_
            refine GH.take 12 (v := (.int .i64 23)) rfl (by kernel_rfl) (by kernel_rfl) (by kernel_rfl) (fun _ _ _ h => h) (Ex.load rfl T.ag3 (i := 4) rfl rfl) (ulC (ulC (ulC (ulC (ulC ulN))))) (by decide) ?_
            refine GH.take 13 (v := (.int .u64 8388608)) rfl (by kernel_rfl) (by kernel_rfl) (by kernel_rfl) (fun _ _ _ h => h) (Ex.shl rfl (m := 23) rfl (by decide) (Z := 8388608) (by decide)) (ulC (ulC (ulC (ulC (ulC ulN))))) (by decide) ?_
            refine GH.take 14 (v := (.int .u64 8388607)) rfl (by kernel_rfl) (by kernel_rfl) (by kernel_rfl) (fun _ _ _ h => h) (Ex.sub' rfl rfl (Z := 8388607) (by decide)) (ulC (ulC (ulC (ulC (ulC ulN))))) (by decide) ?_
            refine GH.take 15 (v := (.int .u64 (((((v / 2 ^ ((Nat.log2 v - 23))) + 1 - 8388608) : Nat) : Int)))) rfl (by kernel_rfl) (by kernel_rfl) (by kernel_rfl) (fun _ _ _ h => h) (Ex.bits rfl rfl (by simp) (Z := ((((v / 2 ^ ((Nat.log2 v - 23))) + 1 - 8388608) : Nat) : Int)) (andm64 23 (by omega) (by omega) (by omega) (by omega) rfl)) (ulC (ulC (ulC (ulC (ulC ulN))))) (by decide) ?_
            refine GH.one 3 rfl (by kernel_rfl) (Stp.callR (vs := [(.agg #[(.int .i64 23), (.int .i64 8)]), (.bool ng)]) rfl rfl T.own87 (by decide) (fun wc hw => sign_p ng wc)) (fun _ => (ulC (ulC (ulC (ulC (ulC ulN)))))) (fun xq170 hq171 => ?_)
            refine GH.take 9 (v := (.int .u64 ((Lg.sg ng + (((((((Nat.log2 v : Nat) : Int) + e - 23) + 150)).toNat * 8388608 : Nat) : Int))))) rfl (by kernel_rfl) (by kernel_rfl) (by kernel_rfl) (fun _ _ _ h => h) (Ex.bits rfl rfl (by simp) (Z := Lg.sg ng + (((((((Nat.log2 v : Nat) : Int) + e - 23) + 150)).toNat * 8388608 : Nat) : Int)) (Lg.or_sign (by omega) (by omega))) (ulC (ulC (ulC (ulC (ulC ulN))))) (by decide) ?_
            refine GH.take 16 (v := (.int .u64 ((Lg.sg ng + (((((((Nat.log2 v : Nat) : Int) + e - 23) + 150)).toNat * 8388608 + ((v / 2 ^ ((Nat.log2 v - 23))) + 1 - 8388608) : Nat) : Int))))) rfl (by kernel_rfl) (by kernel_rfl) (by kernel_rfl) (fun _ _ _ h => h) (Ex.bits rfl rfl (by simp) (Z := Lg.sg ng + (((((((Nat.log2 v : Nat) : Int) + e - 23) + 150)).toNat * 8388608 + ((v / 2 ^ ((Nat.log2 v - 23))) + 1 - 8388608) : Nat) : Int)) (Lg.or_low (by omega) (by omega))) (ulC (ulC (ulC (ulC (ulC ulN))))) (by decide) ?_
            refine GH.done (by kernel_rfl) ?_
            refine GE.thenN ?_
            refine GE.tail rfl (Ex.wp (v := (.int .u64 ((Lg.sg ng + (((((((Nat.log2 v : Nat) : Int) + e - 23) + 150)).toNat * 8388608 + ((v / 2 ^ ((Nat.log2 v - 23))) + 1 - 8388608) : Nat) : Int))))) (Ex.assign rfl) (by decide)) (fun _ _ => ?_)
            refine GE.thenN ?_
            refine GC.ret ?_
            refine GC.ret1 rfl (Rv.tmp rfl) (fun wN HN => ?_)
            exact HN.ret () trivial (by rw [Lg.RD_of (v := v) (K := ((v / 2 ^ (Nat.log2 v - 23)) + 1)) (e := e) hv.1 hv.2 he ((if_pos (by omega)).trans (Lg.kept_up (by omega) (by omega) (by first | exact Or.inl (hb.1 (by assumption)) | exact Or.inr (by omega)))) (by omega)]) (List.nil_sublist _) rfl
        · refine GL.stepG (tj := 90) rfl rfl (Ex.wp (v := (.bool false)) (Ex.cast (Ex.move rfl) (congrArg Value.bool ((Bool.eq_false_iff.2 hq135)))) (by decide)) (fun _ _ => ?_)
          refine GL.stepG (tj := 90) rfl rfl (Ex.wp (v := (.bool false)) (Ex.move rfl) (by decide)) (fun _ _ => ?_)
          refine GL.stepG (tj := 92) rfl rfl (Ex.wp (v := (.slice (some ⟨xq132.1, 0, none⟩) 1 1)) (Ex.move rfl) (by decide)) (fun _ _ => ?_)
          refine GL.stepG (tj := 92) rfl rfl (Stp.callR (vs := [(.slice (some ⟨xq132.1, 0, none⟩) 1 1), (.int .i64 0)]) rfl rfl T.own78 (by decide) (fun wc hw => bit_p (v / 2 ^ ((Nat.log2 v - 23))) xq132.1 1 0 wc (by omega) (Lg.rd1 (hw.rdOf (i := 0) rfl 0)) (by omega))) (fun xq172 hq173 => ?_)
          refine GL.stepG (tj := 92) rfl rfl (Ex.wp (v := (.bool (decide ((((Lg.bt (v / 2 ^ ((Nat.log2 v - 23))) 0 : Nat) : Int)) = 1)))) (Ex.eql rfl rfl) (by decide)) (fun _ _ => ?_)
          refine GL.stepG (tj := 90) rfl rfl (Ex.wp (v := (.bool (decide ((((Lg.bt (v / 2 ^ ((Nat.log2 v - 23))) 0 : Nat) : Int)) = 1)))) (Ex.pickF rfl rfl) (by decide)) (fun _ _ => ?_)
          refine GL.val (v := (.bool (decide ((((Lg.bt (v / 2 ^ ((Nat.log2 v - 23))) 0 : Nat) : Int)) = 1)))) (Ex.pickT rfl rfl) (by decide) ?_
          refine GL.val (Ex.assign rfl) (by decide) ?_
          refine GL.nil ?_
          refine GE.thenN ?_
          refine GC.seq ?_
          refine GC.seq ?_
          refine GC.region ?_
          refine GL.val (Ex.move rfl) (by decide) ?_
          refine GL.nil ?_
          refine GE.thenN ?_
          refine GC.cond rfl (fun hq174 => ?_) (fun hq174 => ?_)
          · replace hq174 := of_decide_eq_true hq174
            refine GC.region ?_
            refine GL.val (Ex.move rfl) (by decide) ?_
            refine GL.step (Stp.callR (vs := [(.int .u64 1)]) rfl rfl T.own62 (by decide) (fun wc hw => natof_pos 1 wc (by decide))) (fun xq175 hq176 => ?_)
            refine GL.step (Stp.callR (vs := [(.slice (some ⟨xq132.1, 0, none⟩) 1 1), (.slice (some ⟨xq175, 0, none⟩) 1 2)]) rfl rfl T.own64 (by decide) (fun wc hw => plus_1 (v / 2 ^ ((Nat.log2 v - 23))) xq132.1 1 xq175 2 wc (by omega) (Lg.rd1 (hw.rdOf (i := 1) rfl 0)) (Lg.rd1 (hw.rdOf (i := 0) rfl 0)))) (fun xq177 hq178 => ?_)
            refine GL.val (Ex.assign rfl) (by decide) ?_
            refine GL.nil ?_
            refine GE.thenN ?_
            refine GC.seq ?_
            refine GC.seq ?_
            refine GC.draw [⟨xq177, [(.int .u32 ((((v / 2 ^ ((Nat.log2 v - 23))) + 1 : Nat) : Int))), (.int .u32 0)], 23, true⟩, ⟨xq175, [(.int .u32 1), (.int .u32 0)], 23, true⟩, ⟨xq132.1, [(.int .u32 (((v / 2 ^ ((Nat.log2 v - 23)) : Nat) : Int)))], 23, true⟩, ⟨bq2, [(.int .i64 2), (.bool ng), (.slice (some ⟨b, 0, none⟩) 1 c), (.int .i64 e), (.bool false)], 38, true⟩, ⟨bq1, [(.int .i64 23), (.int .i64 8)], 67, true⟩] T.mixed (fuel := 6) rfl rfl ?_
            refine GH.take 0 (v := (.slice (some ⟨xq177, 0, none⟩) 1 2)) rfl (by kernel_rfl) (by kernel_rfl) (by kernel_rfl) (fun _ _ _ h => h) (Ex.move rfl) (ulC (ulC (ulC (ulC (ulC ulN))))) (by decide) ?_
            refine GH.take 2 (v := (.pointer (some ⟨bq1, 0, none⟩))) rfl (by kernel_rfl) (by kernel_rfl) (by kernel_rfl) (fun _ _ _ h => h) (Ex.cast (Ex.fieldAddr rfl Try.underlying67 rfl T.sz3 (by decide)) rfl) (ulC (ulC (ulC (ulC (ulC ulN))))) (by decide) ?_
            refine GH.take 3 (v := (.int .i64 23)) rfl (by kernel_rfl) (by kernel_rfl) (by kernel_rfl) (fun _ _ _ h => h) (Ex.load rfl T.ag3 (i := 4) rfl rfl) (ulC (ulC (ulC (ulC (ulC ulN))))) (by decide) ?_
            refine GH.take 4 (v := (.int .i64 24)) rfl (by kernel_rfl) (by kernel_rfl) (by kernel_rfl) (fun _ _ _ h => h) (Ex.add rfl rfl (Z := 24) (by decide)) (ulC (ulC (ulC (ulC (ulC ulN))))) (by decide) ?_
            refine GH.one 1 rfl (by kernel_rfl) (Stp.callR (vs := [(.slice (some ⟨xq177, 0, none⟩) 1 2)]) rfl rfl T.own88 (by decide) (fun wc hw => bits_pos ((v / 2 ^ ((Nat.log2 v - 23))) + 1) xq177 2 wc (by omega) (Lg.rd1 (hw.rdOf (i := 0) rfl 0)))) (fun _ => (ulC (ulC (ulC (ulC (ulC ulN)))))) (fun xq181 hq182 => ?_)
            refine GH.take 5 (v := (.bool (decide (24 < (((Nat.log2 ((v / 2 ^ ((Nat.log2 v - 23))) + 1) + 1 : Nat) : Int)))))) rfl (by kernel_rfl) (by kernel_rfl) (by kernel_rfl) (fun _ _ _ h => h) (Ex.gtr rfl rfl) (ulC (ulC (ulC (ulC (ulC ulN))))) (by decide) ?_
            refine GH.done (by kernel_rfl) ?_
            refine GE.thenN ?_
            refine GC.cond rfl (fun hq183 => ?_) (fun hq183 => ?_)
            · replace hq183 := of_decide_eq_true hq183
              have hk24 : (v / 2 ^ (Nat.log2 v - 23)) + 1 = 16777216 := Lg.is_24 (by omega) (by omega)
              have hk23 : ((v / 2 ^ (Nat.log2 v - 23)) + 1) / 2 ^ 1 = 8388608 := by omega
              refine GC.seq ?_
              refine GC.region ?_
              refine GL.val (Ex.move rfl) (by decide) ?_
              refine GL.step (Stp.callR (vs := [(.slice (some ⟨xq177, 0, none⟩) 1 2), (.int .i64 1)]) rfl rfl T.own77 (by decide) (fun wc hw => down_pos ((v / 2 ^ ((Nat.log2 v - 23))) + 1) xq177 2 1 wc (by omega) (Lg.rd1 (hw.rdOf (i := 0) rfl 0)) (by omega) (by omega))) (fun xq184 hq185 => ?_)
              refine GL.val (Ex.move rfl) (by decide) ?_
              refine GL.val (Ex.extract rfl rfl) (by decide) ?_
              refine GL.val (Ex.extract rfl rfl) (by decide) ?_
              refine GL.val (Ex.assign rfl) (by decide) ?_
              refine GL.nil ?_
              refine GE.thenN ?_
              refine GC.region ?_
              refine GL.val (Ex.move rfl) (by decide) ?_
              refine GL.val (v := (.int .i64 (((((Nat.log2 v : Nat) : Int) + e - 23) + 1)))) (Ex.add rfl rfl (Z := ((((Nat.log2 v : Nat) : Int) + e - 23) + 1)) (w64 (by omega))) (by decide) ?_
              refine GL.val (Ex.assign rfl) (by decide) ?_
              refine GL.nil ?_
              refine GE.thenN ?_
              refine GC.seq ?_
              refine GC.region ?_
              refine GL.val (Ex.move rfl) (by decide) ?_
              refine GL.step (Stp.callR (vs := [(.slice (some ⟨xq184.1, 0, none⟩) 1 1)]) rfl rfl T.own89 (by decide) (fun wc hw => low_pos (((v / 2 ^ ((Nat.log2 v - 23))) + 1) / 2 ^ 1) xq184.1 1 wc (by omega) (Lg.rd1 (hw.rdOf (i := 0) rfl 0)))) (fun xq186 hq187 => ?_)
              refine GL.val (Ex.assign rfl) (by decide) ?_
              refine GL.nil ?_
              refine GE.thenN ?_
              refine GC.seq ?_
              refine GC.seq ?_
              refine GC.region ?_
              refine GL.val (Ex.move rfl) (by decide) ?_
              refine GL.val (v := (.pointer (some ⟨bq1, 0, none⟩))) (Ex.cast (Ex.fieldAddr rfl Try.underlying67 rfl T.sz3 (by decide)) rfl) (by decide) ?_
              refine GL.val (Ex.load rfl T.ag3 (i := 5) rfl rfl) (by decide) ?_
              refine GL.val (v := (.int .u64 8388608)) (Ex.shl rfl (m := 23) rfl (by decide) (Z := 8388608) (by decide)) (by decide) ?_
              refine GL.val (v := (.bool false)) (Ex.cast (Ex.lss rfl rfl) (congrArg Value.bool (decide_eq_false (by omega)))) (by decide) ?_
              refine GL.nil ?_
              refine GE.thenN ?_
              refine GC.cond rfl (fun hq188 => by cases hq188) (fun _ => ?_)
              refine GC.skip ?_
              refine GE.thenN ?_
              refine GC.seq ?_
              refine GC.region ?_
              refine GL.val (Ex.move rfl) (by decide) ?_
              refine GL.val (v := (.agg #[(.int .i64 23), (.int .i64 8)])) (Ex.loadA rfl T.ag67 T.sz67 (i := 5) rfl (vs := [(.int .i64 23), (.int .i64 8)]) rfl rfl) (by decide) ?_
              refine GL.step (Stp.callR (vs := [(.agg #[(.int .i64 23), (.int .i64 8)])]) rfl rfl T.own83 (by decide) (fun wc hw => j83_2  wc )) (fun xq189 hq190 => ?_)
              refine GL.val (v := (.int .i64 ((((((Nat.log2 v : Nat) : Int) + e - 23) + 1) + 150)))) (Ex.add rfl rfl (Z := (((((Nat.log2 v : Nat) : Int) + e - 23) + 1) + 150)) (w64 (by omega))) (by decide) ?_
              refine GL.val (Ex.assign rfl) (by decide) ?_
              refine GL.nil ?_
              refine GE.thenN ?_
              refine GC.seq ?_
              refine GC.seq ?_
              refine GC.region ?_
              refine GL.val (Ex.move rfl) (by decide) ?_
              refine GL.val (v := (.int .u64 ((((((Nat.log2 v : Nat) : Int) + e - 23) + 1) + 150)))) (Ex.conv rfl Try.underlying3 Try.underlying70 (Z := (((((Nat.log2 v : Nat) : Int) + e - 23) + 1) + 150)) (wu64b (by omega))) (by decide) ?_
              refine GL.val (v := (.agg #[(.int .i64 23), (.int .i64 8)])) (Ex.loadA rfl T.ag67 T.sz67 (i := 5) rfl (vs := [(.int .i64 23), (.int .i64 8)]) rfl rfl) (by decide) ?_
              refine GL.step (Stp.callR (vs := [(.agg #[(.int .i64 23), (.int .i64 8)])]) rfl rfl T.own82 (by decide) (fun wc hw => j82_1  wc )) (fun xq191 hq192 => ?_)
              refine GL.val (v := (.bool false)) (Ex.cast (Ex.geq rfl rfl) (congrArg Value.bool (decide_eq_false (by omega)))) (by decide) ?_
              refine GL.nil ?_
              refine GE.thenN ?_
              refine GC.cond rfl (fun hq193 => by cases hq193) (fun _ => ?_)
              refine GC.skip ?_
              refine GE.thenN ?_
              refine GC.seq ?_
              refine GC.drawP [⟨xq184.1, [(.int .u32 (((((v / 2 ^ ((Nat.log2 v - 23))) + 1) / 2 ^ 1 : Nat) : Int)))], 23, true⟩, ⟨xq177, [(.int .u32 ((((v / 2 ^ ((Nat.log2 v - 23))) + 1 : Nat) : Int))), (.int .u32 0)], 23, true⟩, ⟨xq175, [(.int .u32 1), (.int .u32 0)], 23, true⟩, ⟨xq132.1, [(.int .u32 (((v / 2 ^ ((Nat.log2 v - 23)) : Nat) : Int)))], 23, true⟩, ⟨bq2, [(.int .i64 2), (.bool ng), (.slice (some ⟨b, 0, none⟩) 1 c), (.int .i64 e), (.bool false)], 38, true⟩, ⟨bq1, [(.int .i64 23), (.int .i64 8)], 67, true⟩] T.mixed (by kernel_rfl) (by kernel_rfl) (fuel := 17) rfl rfl ?_
              refine GH.take 0 (v := (.agg #[(.int .i64 23), (.int .i64 8)])) rfl (by kernel_rfl) (by kernel_rfl) (by kernel_rfl) (fun _ _ _ h => h) (Ex.loadA rfl T.ag67 T.sz67 (i := 5) rfl (vs := [(.int .i64 23), (.int .i64 8)]) rfl rfl) (ulC (ulC (ulC (ulC (ulC (ulC ulN)))))) (by decide) ?_
              refine GH.take 1 (v := (.pointer (some ⟨bq2, 1, none⟩))) rfl (by kernel_rfl) (by kernel_rfl) (by kernel_rfl) (fun _ _ _ h => h) (Ex.cast (Ex.fieldAddr rfl Try.underlying38 rfl T.sz4 (by decide)) rfl) (ulC (ulC (ulC (ulC (ulC (ulC ulN)))))) (by decide) ?_
              refine GH.take 2 (v := (.bool ng)) rfl (by kernel_rfl) (by kernel_rfl) (by kernel_rfl) (fun _ _ _ h => h) (Ex.load rfl T.ag4 (i := 4) rfl rfl) (ulC (ulC (ulC (ulC (ulC (ulC ulN)))))) (by decide) ?_
              refine GH.take 4 (v := (.int .i64 ((((((Nat.log2 v : Nat) : Int) + e - 23) + 1) + 150)))) rfl (by kernel_rfl) (by kernel_rfl) (by kernel_rfl) (fun _ _ _ h => h) (Ex.move rfl) (ulC (ulC (ulC (ulC (ulC (ulC ulN)))))) (by decide) ?_
              refine GH.take 5 (v := (.int .u64 ((((((Nat.log2 v : Nat) : Int) + e - 23) + 1) + 150)))) rfl (by kernel_rfl) (by kernel_rfl) (by kernel_rfl) (fun _ _ _ h => h) (Ex.conv rfl Try.underlying3 Try.underlying70 (Z := (((((Nat.log2 v : Nat) : Int) + e - 23) + 1) + 150)) (wu64b (by omega))) (ulC (ulC (ulC (ulC (ulC (ulC ulN)))))) (by decide) ?_
              refine GH.take 6 (v := (.pointer (some ⟨bq1, 0, none⟩))) rfl (by kernel_rfl) (by kernel_rfl) (by kernel_rfl) (fun _ _ _ h => h) (Ex.cast (Ex.fieldAddr rfl Try.underlying67 rfl T.sz3 (by decide)) rfl) (ulC (ulC (ulC (ulC (ulC (ulC ulN)))))) (by decide) ?_
              refine GH.take 7 (v := (.int .i64 23)) rfl (by kernel_rfl) (by kernel_rfl) (by kernel_rfl) (fun _ _ _ h => h) (Ex.load rfl T.ag3 (i := 5) rfl rfl) (ulC (ulC (ulC (ulC (ulC (ulC ulN)))))) (by decide) ?_
              refine GH.take 8 (v := (.int .u64 ((((((((((Nat.log2 v : Nat) : Int) + e - 23) + 1) + 150)).toNat : Nat) : Int) * 8388608)))) rfl (by kernel_rfl) (by kernel_rfl) (by kernel_rfl) (fun _ _ _ h => h) (Ex.shl rfl (m := 23) rfl (by decide) (Z := ((((((((Nat.log2 v : Nat) : Int) + e - 23) + 1) + 150)).toNat : Nat) : Int) * 8388608) (by rw [show ((2 : Int) ^ 23) = 8388608 by decide, wu64b (by omega)]; omega)) (ulC (ulC (ulC (ulC (ulC (ulC ulN)))))) (by decide) ?_
              refine GH.take 10 (v := (.int .u64 (((((v / 2 ^ ((Nat.log2 v - 23))) + 1) / 2 ^ 1 : Nat) : Int)))) rfl (by kernel_rfl) (by kernel_rfl) (by kernel_rfl) (fun _ _ _ h => h) (Ex.move rfl) (ulC (ulC (ulC (ulC (ulC (ulC ulN)))))) (by decide) ?_
              refine GH.take 11 (v := (.pointer (some ⟨bq1, 0, none⟩))) rfl (by kernel_rfl) (by kernel_rfl) (by kernel_rfl) (fun _ _ _ h => h) (Ex.cast (Ex.fieldAddr rfl Try.underlying67 rfl T.sz3 (by decide)) rfl) (ulC (ulC (ulC (ulC (ulC (ulC ulN)))))) (by decide) ?_
              refine GH.take 12 (v := (.int .i64 23)) rfl (by kernel_rfl) (by kernel_rfl) (by kernel_rfl) (fun _ _ _ h => h) (Ex.load rfl T.ag3 (i := 5) rfl rfl) (ulC (ulC (ulC (ulC (ulC (ulC ulN)))))) (by decide) ?_
              refine GH.take 13 (v := (.int .u64 8388608)) rfl (by kernel_rfl) (by kernel_rfl) (by kernel_rfl) (fun _ _ _ h => h) (Ex.shl rfl (m := 23) rfl (by decide) (Z := 8388608) (by decide)) (ulC (ulC (ulC (ulC (ulC (ulC ulN)))))) (by decide) ?_
              refine GH.take 14 (v := (.int .u64 8388607)) rfl (by kernel_rfl) (by kernel_rfl) (by kernel_rfl) (fun _ _ _ h => h) (Ex.sub' rfl rfl (Z := 8388607) (by decide)) (ulC (ulC (ulC (ulC (ulC (ulC ulN)))))) (by decide) ?_
              refine GH.take 15 (v := (.int .u64 ((((((v / 2 ^ ((Nat.log2 v - 23))) + 1) / 2 ^ 1 - 8388608) : Nat) : Int)))) rfl (by kernel_rfl) (by kernel_rfl) (by kernel_rfl) (fun _ _ _ h => h) (Ex.bits rfl rfl (by simp) (Z := (((((v / 2 ^ ((Nat.log2 v - 23))) + 1) / 2 ^ 1 - 8388608) : Nat) : Int)) (andm64 23 (by omega) (by omega) (by omega) (by omega) rfl)) (ulC (ulC (ulC (ulC (ulC (ulC ulN)))))) (by decide) ?_
              refine GH.one 3 rfl (by kernel_rfl) (Stp.callR (vs := [(.agg #[(.int .i64 23), (.int .i64 8)]), (.bool ng)]) rfl rfl T.own87 (by decide) (fun wc hw => sign_p ng wc)) (fun _ => (ulC (ulC (ulC (ulC (ulC (ulC ulN))))))) (fun xq196 hq197 => ?_)
              refine GH.take 9 (v := (.int .u64 ((Lg.sg ng + ((((((((Nat.log2 v : Nat) : Int) + e - 23) + 1) + 150)).toNat * 8388608 : Nat) : Int))))) rfl (by kernel_rfl) (by kernel_rfl) (by kernel_rfl) (fun _ _ _ h => h) (Ex.bits rfl rfl (by simp) (Z := Lg.sg ng + ((((((((Nat.log2 v : Nat) : Int) + e - 23) + 1) + 150)).toNat * 8388608 : Nat) : Int)) (Lg.or_sign (by omega) (by omega))) (ulC (ulC (ulC (ulC (ulC (ulC ulN)))))) (by decide) ?_
              refine GH.take 16 (v := (.int .u64 ((Lg.sg ng + ((((((((Nat.log2 v : Nat) : Int) + e - 23) + 1) + 150)).toNat * 8388608 + (((v / 2 ^ ((Nat.log2 v - 23))) + 1) / 2 ^ 1 - 8388608) : Nat) : Int))))) rfl (by kernel_rfl) (by kernel_rfl) (by kernel_rfl) (fun _ _ _ h => h) (Ex.bits rfl rfl (by simp) (Z := Lg.sg ng + ((((((((Nat.log2 v : Nat) : Int) + e - 23) + 1) + 150)).toNat * 8388608 + (((v / 2 ^ ((Nat.log2 v - 23))) + 1) / 2 ^ 1 - 8388608) : Nat) : Int)) (Lg.or_low (by omega) (by omega))) (ulC (ulC (ulC (ulC (ulC (ulC ulN)))))) (by decide) ?_
              refine GH.done (by kernel_rfl) ?_
              refine GE.thenN ?_
              refine GE.tail rfl (Ex.wp (v := (.int .u64 ((Lg.sg ng + ((((((((Nat.log2 v : Nat) : Int) + e - 23) + 1) + 150)).toNat * 8388608 + (((v / 2 ^ ((Nat.log2 v - 23))) + 1) / 2 ^ 1 - 8388608) : Nat) : Int))))) (Ex.assign rfl) (by decide)) (fun _ _ => ?_)
              refine GE.thenN ?_
              refine GC.ret ?_
              refine GC.ret1 rfl (Rv.tmp rfl) (fun wN HN => ?_)
              exact HN.ret () trivial (by rw [Lg.RD_of (v := v) (K := ((v / 2 ^ (Nat.log2 v - 23)) + 1)) (e := e) hv.1 hv.2 he ((if_pos (by omega)).trans (Lg.kept_up (by omega) (by omega) (by first | exact Or.inl (hb.1 (by assumption)) | exact Or.inr (by omega)))) (by omega)]) (List.nil_sublist _) rfl
            · replace hq183 := of_decide_eq_false hq183
              have hk24 : (v / 2 ^ (Nat.log2 v - 23)) + 1 < 16777216 := Lg.lt_24 (by omega)
              refine GC.skip ?_
              refine GE.thenN ?_
              refine GC.seq ?_
              refine GC.region ?_
              refine GL.val (Ex.move rfl) (by decide) ?_
              refine GL.step (Stp.callR (vs := [(.slice (some ⟨xq177, 0, none⟩) 1 2)]) rfl rfl T.own89 (by decide) (fun wc hw => low_pos ((v / 2 ^ ((Nat.log2 v - 23))) + 1) xq177 2 wc (by omega) (Lg.rd1 (hw.rdOf (i := 0) rfl 0)))) (fun xq198 hq199 => ?_)
              refine GL.val (Ex.assign rfl) (by decide) ?_
              refine GL.nil ?_
              refine GE.thenN ?_
              refine GC.seq ?_
              refine GC.seq ?_
              refine GC.region ?_
              refine GL.val (Ex.move rfl) (by decide) ?_
              refine GL.val (v := (.pointer (some ⟨bq1, 0, none⟩))) (Ex.cast (Ex.fieldAddr rfl Try.underlying67 rfl T.sz3 (by decide)) rfl) (by decide) ?_
              refine GL.val (Ex.load rfl T.ag3 (i := 4) rfl rfl) (by decide) ?_
              refine GL.val (v := (.int .u64 8388608)) (Ex.shl rfl (m := 23) rfl (by decide) (Z := 8388608) (by decide)) (by decide) ?_
              refine GL.val (v := (.bool false)) (Ex.cast (Ex.lss rfl rfl) (congrArg Value.bool (decide_eq_false (by omega)))) (by decide) ?_
              refine GL.nil ?_
              refine GE.thenN ?_
              refine GC.cond rfl (fun hq200 => by cases hq200) (fun _ => ?_)
              refine GC.skip ?_
              refine GE.thenN ?_
              refine GC.seq ?_
              refine GC.region ?_
              refine GL.val (Ex.move rfl) (by decide) ?_
              refine GL.val (v := (.agg #[(.int .i64 23), (.int .i64 8)])) (Ex.loadA rfl T.ag67 T.sz67 (i := 4) rfl (vs := [(.int .i64 23), (.int .i64 8)]) rfl rfl) (by decide) ?_
              refine GL.step (Stp.callR (vs := [(.agg #[(.int .i64 23), (.int .i64 8)])]) rfl rfl T.own83 (by decide) (fun wc hw => j83_2  wc )) (fun xq201 hq202 => ?_)
              refine GL.val (v := (.int .i64 (((((Nat.log2 v : Nat) : Int) + e - 23) + 150)))) (Ex.add rfl rfl (Z := ((((Nat.log2 v : Nat) : Int) + e - 23) + 150)) (w64 (by omega))) (by decide) ?_
              refine GL.val (Ex.assign rfl) (by decide) ?_
              refine GL.nil ?_
              refine GE.thenN ?_
              refine GC.seq ?_
              refine GC.seq ?_
              refine GC.region ?_
              refine GL.val (Ex.move rfl) (by decide) ?_
              refine GL.val (v := (.int .u64 (((((Nat.log2 v : Nat) : Int) + e - 23) + 150)))) (Ex.conv rfl Try.underlying3 Try.underlying70 (Z := ((((Nat.log2 v : Nat) : Int) + e - 23) + 150)) (wu64b (by omega))) (by decide) ?_
              refine GL.val (v := (.agg #[(.int .i64 23), (.int .i64 8)])) (Ex.loadA rfl T.ag67 T.sz67 (i := 4) rfl (vs := [(.int .i64 23), (.int .i64 8)]) rfl rfl) (by decide) ?_
              refine GL.step (Stp.callR (vs := [(.agg #[(.int .i64 23), (.int .i64 8)])]) rfl rfl T.own82 (by decide) (fun wc hw => j82_1  wc )) (fun xq203 hq204 => ?_)
              refine GL.val (v := (.bool false)) (Ex.cast (Ex.geq rfl rfl) (congrArg Value.bool (decide_eq_false (by omega)))) (by decide) ?_
              refine GL.nil ?_
              refine GE.thenN ?_
              refine GC.cond rfl (fun hq205 => by cases hq205) (fun _ => ?_)
              refine GC.skip ?_
              refine GE.thenN ?_
              refine GC.seq ?_
              refine GC.drawP [⟨xq177, [(.int .u32 ((((v / 2 ^ ((Nat.log2 v - 23))) + 1 : Nat) : Int))), (.int .u32 0)], 23, true⟩, ⟨xq175, [(.int .u32 1), (.int .u32 0)], 23, true⟩, ⟨xq132.1, [(.int .u32 (((v / 2 ^ ((Nat.log2 v - 23)) : Nat) : Int)))], 23, true⟩, ⟨bq2, [(.int .i64 2), (.bool ng), (.slice (some ⟨b, 0, none⟩) 1 c), (.int .i64 e), (.bool false)], 38, true⟩, ⟨bq1, [(.int .i64 23), (.int .i64 8)], 67, true⟩] T.mixed (by kernel_rfl) (by kernel_rfl) (fuel := 17) rfl rfl ?_
              refine GH.take 0 (v := (.agg #[(.int .i64 23), (.int .i64 8)])) rfl (by kernel_rfl) (by kernel_rfl) (by kernel_rfl) (fun _ _ _ h => h) (Ex.loadA rfl T.ag67 T.sz67 (i := 4) rfl (vs := [(.int .i64 23), (.int .i64 8)]) rfl rfl) (ulC (ulC (ulC (ulC (ulC ulN))))) (by decide) ?_
              refine GH.take 1 (v := (.pointer (some ⟨bq2, 1, none⟩))) rfl (by kernel_rfl) (by kernel_rfl) (by kernel_rfl) (fun _ _ _ h => h) (Ex.cast (Ex.fieldAddr rfl Try.underlying38 rfl T.sz4 (by decide)) rfl) (ulC (ulC (ulC (ulC (ulC ulN))))) (by decide) ?_
              refine GH.take 2 (v := (.bool ng)) rfl (by kernel_rfl) (by kernel_rfl) (by kernel_rfl) (fun _ _ _ h => h) (Ex.load rfl T.ag4 (i := 3) rfl rfl) (ulC (ulC (ulC (ulC (ulC ulN))))) (by decide) ?_
              refine GH.take 4 (v := (.int .i64 (((((Nat.log2 v : Nat) : Int) + e - 23) + 150)))) rfl (by kernel_rfl) (by kernel_rfl) (by kernel_rfl) (fun _ _ _ h => h) (Ex.move rfl) (ulC (ulC (ulC (ulC (ulC ulN))))) (by decide) ?_
              refine GH.take 5 (v := (.int .u64 (((((Nat.log2 v : Nat) : Int) + e - 23) + 150)))) rfl (by kernel_rfl) (by kernel_rfl) (by kernel_rfl) (fun _ _ _ h => h) (Ex.conv rfl Try.underlying3 Try.underlying70 (Z := ((((Nat.log2 v : Nat) : Int) + e - 23) + 150)) (wu64b (by omega))) (ulC (ulC (ulC (ulC (ulC ulN))))) (by decide) ?_
              refine GH.take 6 (v := (.pointer (some ⟨bq1, 0, none⟩))) rfl (by kernel_rfl) (by kernel_rfl) (by kernel_rfl) (fun _ _ _ h => h) (Ex.cast (Ex.fieldAddr rfl Try.underlying67 rfl T.sz3 (by decide)) rfl) (ulC (ulC (ulC (ulC (ulC ulN))))) (by decide) ?_
              refine GH.take 7 (v := (.int .i64 23)) rfl (by kernel_rfl) (by kernel_rfl) (by kernel_rfl) (fun _ _ _ h => h) (Ex.load rfl T.ag3 (i := 4) rfl rfl) (ulC (ulC (ulC (ulC (ulC ulN))))) (by decide) ?_
              refine GH.take 8 (v := (.int .u64 (((((((((Nat.log2 v : Nat) : Int) + e - 23) + 150)).toNat : Nat) : Int) * 8388608)))) rfl (by kernel_rfl) (by kernel_rfl) (by kernel_rfl) (fun _ _ _ h => h) (Ex.shl rfl (m := 23) rfl (by decide) (Z := (((((((Nat.log2 v : Nat) : Int) + e - 23) + 150)).toNat : Nat) : Int) * 8388608) (by rw [show ((2 : Int) ^ 23) = 8388608 by decide, wu64b (by omega)]; omega)) (ulC (ulC (ulC (ulC (ulC ulN))))) (by decide) ?_
              refine GH.take 10 (v := (.int .u64 ((((v / 2 ^ ((Nat.log2 v - 23))) + 1 : Nat) : Int)))) rfl (by kernel_rfl) (by kernel_rfl) (by kernel_rfl) (fun _ _ _ h => h) (Ex.move rfl) (ulC (ulC (ulC (ulC (ulC ulN))))) (by decide) ?_
              refine GH.take 11 (v := (.pointer (some ⟨bq1, 0, none⟩))) rfl (by kernel_rfl) (by kernel_rfl) (by kernel_rfl) (fun _ _ _ h => h) (Ex.cast (Ex.fieldAddr rfl Try.underlying67 rfl T.sz3 (by decide)) rfl) (ulC (ulC (ulC (ulC (ulC ulN))))) (by decide) ?_
              refine GH.take 12 (v := (.int .i64 23)) rfl (by kernel_rfl) (by kernel_rfl) (by kernel_rfl) (fun _ _ _ h => h) (Ex.load rfl T.ag3 (i := 4) rfl rfl) (ulC (ulC (ulC (ulC (ulC ulN))))) (by decide) ?_
              refine GH.take 13 (v := (.int .u64 8388608)) rfl (by kernel_rfl) (by kernel_rfl) (by kernel_rfl) (fun _ _ _ h => h) (Ex.shl rfl (m := 23) rfl (by decide) (Z := 8388608) (by decide)) (ulC (ulC (ulC (ulC (ulC ulN))))) (by decide) ?_
              refine GH.take 14 (v := (.int .u64 8388607)) rfl (by kernel_rfl) (by kernel_rfl) (by kernel_rfl) (fun _ _ _ h => h) (Ex.sub' rfl rfl (Z := 8388607) (by decide)) (ulC (ulC (ulC (ulC (ulC ulN))))) (by decide) ?_
              refine GH.take 15 (v := (.int .u64 (((((v / 2 ^ ((Nat.log2 v - 23))) + 1 - 8388608) : Nat) : Int)))) rfl (by kernel_rfl) (by kernel_rfl) (by kernel_rfl) (fun _ _ _ h => h) (Ex.bits rfl rfl (by simp) (Z := ((((v / 2 ^ ((Nat.log2 v - 23))) + 1 - 8388608) : Nat) : Int)) (andm64 23 (by omega) (by omega) (by omega) (by omega) rfl)) (ulC (ulC (ulC (ulC (ulC ulN))))) (by decide) ?_
              refine GH.one 3 rfl (by kernel_rfl) (Stp.callR (vs := [(.agg #[(.int .i64 23), (.int .i64 8)]), (.bool ng)]) rfl rfl T.own87 (by decide) (fun wc hw => sign_p ng wc)) (fun _ => (ulC (ulC (ulC (ulC (ulC ulN)))))) (fun xq208 hq209 => ?_)
              refine GH.take 9 (v := (.int .u64 ((Lg.sg ng + (((((((Nat.log2 v : Nat) : Int) + e - 23) + 150)).toNat * 8388608 : Nat) : Int))))) rfl (by kernel_rfl) (by kernel_rfl) (by kernel_rfl) (fun _ _ _ h => h) (Ex.bits rfl rfl (by simp) (Z := Lg.sg ng + (((((((Nat.log2 v : Nat) : Int) + e - 23) + 150)).toNat * 8388608 : Nat) : Int)) (Lg.or_sign (by omega) (by omega))) (ulC (ulC (ulC (ulC (ulC ulN))))) (by decide) ?_
              refine GH.take 16 (v := (.int .u64 ((Lg.sg ng + (((((((Nat.log2 v : Nat) : Int) + e - 23) + 150)).toNat * 8388608 + ((v / 2 ^ ((Nat.log2 v - 23))) + 1 - 8388608) : Nat) : Int))))) rfl (by kernel_rfl) (by kernel_rfl) (by kernel_rfl) (fun _ _ _ h => h) (Ex.bits rfl rfl (by simp) (Z := Lg.sg ng + (((((((Nat.log2 v : Nat) : Int) + e - 23) + 150)).toNat * 8388608 + ((v / 2 ^ ((Nat.log2 v - 23))) + 1 - 8388608) : Nat) : Int)) (Lg.or_low (by omega) (by omega))) (ulC (ulC (ulC (ulC (ulC ulN))))) (by decide) ?_
              refine GH.done (by kernel_rfl) ?_
              refine GE.thenN ?_
              refine GE.tail rfl (Ex.wp (v := (.int .u64 ((Lg.sg ng + (((((((Nat.log2 v : Nat) : Int) + e - 23) + 150)).toNat * 8388608 + ((v / 2 ^ ((Nat.log2 v - 23))) + 1 - 8388608) : Nat) : Int))))) (Ex.assign rfl) (by decide)) (fun _ _ => ?_)
              refine GE.thenN ?_
              refine GC.ret ?_
              refine GC.ret1 rfl (Rv.tmp rfl) (fun wN HN => ?_)
              exact HN.ret () trivial (by rw [Lg.RD_of (v := v) (K := ((v / 2 ^ (Nat.log2 v - 23)) + 1)) (e := e) hv.1 hv.2 he ((if_pos (by omega)).trans (Lg.kept_up (by omega) (by omega) (by first | exact Or.inl (hb.1 (by assumption)) | exact Or.inr (by omega)))) (by omega)]) (List.nil_sublist _) rfl
          · replace hq174 := of_decide_eq_false hq174
            refine GC.skip ?_
            refine GE.thenN ?_
            refine GC.seq ?_
            refine GC.seq ?_
            refine GC.draw [⟨xq132.1, [(.int .u32 (((v / 2 ^ ((Nat.log2 v - 23)) : Nat) : Int)))], 23, true⟩, ⟨bq2, [(.int .i64 2), (.bool ng), (.slice (some ⟨b, 0, none⟩) 1 c), (.int .i64 e), (.bool false)], 38, true⟩, ⟨bq1, [(.int .i64 23), (.int .i64 8)], 67, true⟩] T.mixed (fuel := 6) rfl rfl ?_
            refine GH.take 0 (v := (.slice (some ⟨xq132.1, 0, none⟩) 1 1)) rfl (by kernel_rfl) (by kernel_rfl) (by kernel_rfl) (fun _ _ _ h => h) (Ex.move rfl) (ulC (ulC (ulC ulN))) (by decide) ?_
            refine GH.take 2 (v := (.pointer (some ⟨bq1, 0, none⟩))) rfl (by kernel_rfl) (by kernel_rfl) (by kernel_rfl) (fun _ _ _ h => h) (Ex.cast (Ex.fieldAddr rfl Try.underlying67 rfl T.sz3 (by decide)) rfl) (ulC (ulC (ulC ulN))) (by decide) ?_
            refine GH.take 3 (v := (.int .i64 23)) rfl (by kernel_rfl) (by kernel_rfl) (by kernel_rfl) (fun _ _ _ h => h) (Ex.load rfl T.ag3 (i := 2) rfl rfl) (ulC (ulC (ulC ulN))) (by decide) ?_
            refine GH.take 4 (v := (.int .i64 24)) rfl (by kernel_rfl) (by kernel_rfl) (by kernel_rfl) (fun _ _ _ h => h) (Ex.add rfl rfl (Z := 24) (by decide)) (ulC (ulC (ulC ulN))) (by decide) ?_
            refine GH.one 1 rfl (by kernel_rfl) (Stp.callR (vs := [(.slice (some ⟨xq132.1, 0, none⟩) 1 1)]) rfl rfl T.own88 (by decide) (fun wc hw => bits_pos (v / 2 ^ ((Nat.log2 v - 23))) xq132.1 1 wc (by omega) (Lg.rd1 (hw.rdOf (i := 0) rfl 0)))) (fun _ => (ulC (ulC (ulC ulN)))) (fun xq212 hq213 => ?_)
            refine GH.take 5 (v := (.bool false)) rfl (by kernel_rfl) (by kernel_rfl) (by kernel_rfl) (fun _ _ _ h => h) (Ex.cast (Ex.gtr rfl rfl) (congrArg Value.bool (decide_eq_false (by omega)))) (ulC (ulC (ulC ulN))) (by decide) ?_
            refine GH.done (by kernel_rfl) ?_
            refine GE.thenN ?_
            refine GC.cond rfl (fun hq214 => by cases hq214) (fun _ => ?_)
            refine GC.skip ?_
            refine GE.thenN ?_
            refine GC.seq ?_
            refine GC.region ?_
            refine GL.val (Ex.move rfl) (by decide) ?_
            refine GL.step (Stp.callR (vs := [(.slice (some ⟨xq132.1, 0, none⟩) 1 1)]) rfl rfl T.own89 (by decide) (fun wc hw => low_pos (v / 2 ^ ((Nat.log2 v - 23))) xq132.1 1 wc (by omega) (Lg.rd1 (hw.rdOf (i := 0) rfl 0)))) (fun xq215 hq216 => ?_)
            refine GL.val (Ex.assign rfl) (by decide) ?_
            refine GL.nil ?_
            refine GE.thenN ?_
            refine GC.seq ?_
            refine GC.seq ?_
            refine GC.region ?_
            refine GL.val (Ex.move rfl) (by decide) ?_
            refine GL.val (v := (.pointer (some ⟨bq1, 0, none⟩))) (Ex.cast (Ex.fieldAddr rfl Try.underlying67 rfl T.sz3 (by decide)) rfl) (by decide) ?_
            refine GL.val (Ex.load rfl T.ag3 (i := 2) rfl rfl) (by decide) ?_
            refine GL.val (v := (.int .u64 8388608)) (Ex.shl rfl (m := 23) rfl (by decide) (Z := 8388608) (by decide)) (by decide) ?_
            refine GL.val (v := (.bool false)) (Ex.cast (Ex.lss rfl rfl) (congrArg Value.bool (decide_eq_false (by omega)))) (by decide) ?_
            refine GL.nil ?_
            refine GE.thenN ?_
            refine GC.cond rfl (fun hq217 => by cases hq217) (fun _ => ?_)
            refine GC.skip ?_
            refine GE.thenN ?_
            refine GC.seq ?_
            refine GC.region ?_
            refine GL.val (Ex.move rfl) (by decide) ?_
            refine GL.val (v := (.agg #[(.int .i64 23), (.int .i64 8)])) (Ex.loadA rfl T.ag67 T.sz67 (i := 2) rfl (vs := [(.int .i64 23), (.int .i64 8)]) rfl rfl) (by decide) ?_
            refine GL.step (Stp.callR (vs := [(.agg #[(.int .i64 23), (.int .i64 8)])]) rfl rfl T.own83 (by decide) (fun wc hw => j83_2  wc )) (fun xq218 hq219 => ?_)
            refine GL.val (v := (.int .i64 (((((Nat.log2 v : Nat) : Int) + e - 23) + 150)))) (Ex.add rfl rfl (Z := ((((Nat.log2 v : Nat) : Int) + e - 23) + 150)) (w64 (by omega))) (by decide) ?_
            refine GL.val (Ex.assign rfl) (by decide) ?_
            refine GL.nil ?_
            refine GE.thenN ?_
            refine GC.seq ?_
            refine GC.seq ?_
            refine GC.region ?_
            refine GL.val (Ex.move rfl) (by decide) ?_
            refine GL.val (v := (.int .u64 (((((Nat.log2 v : Nat) : Int) + e - 23) + 150)))) (Ex.conv rfl Try.underlying3 Try.underlying70 (Z := ((((Nat.log2 v : Nat) : Int) + e - 23) + 150)) (wu64b (by omega))) (by decide) ?_
            refine GL.val (v := (.agg #[(.int .i64 23), (.int .i64 8)])) (Ex.loadA rfl T.ag67 T.sz67 (i := 2) rfl (vs := [(.int .i64 23), (.int .i64 8)]) rfl rfl) (by decide) ?_
            refine GL.step (Stp.callR (vs := [(.agg #[(.int .i64 23), (.int .i64 8)])]) rfl rfl T.own82 (by decide) (fun wc hw => j82_1  wc )) (fun xq220 hq221 => ?_)
            refine GL.val (v := (.bool false)) (Ex.cast (Ex.geq rfl rfl) (congrArg Value.bool (decide_eq_false (by omega)))) (by decide) ?_
            refine GL.nil ?_
            refine GE.thenN ?_
            refine GC.cond rfl (fun hq222 => by cases hq222) (fun _ => ?_)
            refine GC.skip ?_
            refine GE.thenN ?_
            refine GC.seq ?_
            refine GC.drawP [⟨xq132.1, [(.int .u32 (((v / 2 ^ ((Nat.log2 v - 23)) : Nat) : Int)))], 23, true⟩, ⟨bq2, [(.int .i64 2), (.bool ng), (.slice (some ⟨b, 0, none⟩) 1 c), (.int .i64 e), (.bool false)], 38, true⟩, ⟨bq1, [(.int .i64 23), (.int .i64 8)], 67, true⟩] T.mixed (by kernel_rfl) (by kernel_rfl) (fuel := 17) rfl rfl ?_
            refine GH.take 0 (v := (.agg #[(.int .i64 23), (.int .i64 8)])) rfl (by kernel_rfl) (by kernel_rfl) (by kernel_rfl) (fun _ _ _ h => h) (Ex.loadA rfl T.ag67 T.sz67 (i := 2) rfl (vs := [(.int .i64 23), (.int .i64 8)]) rfl rfl) (ulC (ulC (ulC ulN))) (by decide) ?_
            refine GH.take 1 (v := (.pointer (some ⟨bq2, 1, none⟩))) rfl (by kernel_rfl) (by kernel_rfl) (by kernel_rfl) (fun _ _ _ h => h) (Ex.cast (Ex.fieldAddr rfl Try.underlying38 rfl T.sz4 (by decide)) rfl) (ulC (ulC (ulC ulN))) (by decide) ?_
            refine GH.take 2 (v := (.bool ng)) rfl (by kernel_rfl) (by kernel_rfl) (by kernel_rfl) (fun _ _ _ h => h) (Ex.load rfl T.ag4 (i := 1) rfl rfl) (ulC (ulC (ulC ulN))) (by decide) ?_
            refine GH.take 4 (v := (.int .i64 (((((Nat.log2 v : Nat) : Int) + e - 23) + 150)))) rfl (by kernel_rfl) (by kernel_rfl) (by kernel_rfl) (fun _ _ _ h => h) (Ex.move rfl) (ulC (ulC (ulC ulN))) (by decide) ?_
            refine GH.take 5 (v := (.int .u64 (((((Nat.log2 v : Nat) : Int) + e - 23) + 150)))) rfl (by kernel_rfl) (by kernel_rfl) (by kernel_rfl) (fun _ _ _ h => h) (Ex.conv rfl Try.underlying3 Try.underlying70 (Z := ((((Nat.log2 v : Nat) : Int) + e - 23) + 150)) (wu64b (by omega))) (ulC (ulC (ulC ulN))) (by decide) ?_
            refine GH.take 6 (v := (.pointer (some ⟨bq1, 0, none⟩))) rfl (by kernel_rfl) (by kernel_rfl) (by kernel_rfl) (fun _ _ _ h => h) (Ex.cast (Ex.fieldAddr rfl Try.underlying67 rfl T.sz3 (by decide)) rfl) (ulC (ulC (ulC ulN))) (by decide) ?_
            refine GH.take 7 (v := (.int .i64 23)) rfl (by kernel_rfl) (by kernel_rfl) (by kernel_rfl) (fun _ _ _ h => h) (Ex.load rfl T.ag3 (i := 2) rfl rfl) (ulC (ulC (ulC ulN))) (by decide) ?_
            refine GH.take 8 (v := (.int .u64 (((((((((Nat.log2 v : Nat) : Int) + e - 23) + 150)).toNat : Nat) : Int) * 8388608)))) rfl (by kernel_rfl) (by kernel_rfl) (by kernel_rfl) (fun _ _ _ h => h) (Ex.shl rfl (m := 23) rfl (by decide) (Z := (((((((Nat.log2 v : Nat) : Int) + e - 23) + 150)).toNat : Nat) : Int) * 8388608) (by rw [show ((2 : Int) ^ 23) = 8388608 by decide, wu64b (by omega)]; omega)) (ulC (ulC (ulC ulN))) (by decide) ?_
            refine GH.take 10 (v := (.int .u64 (((v / 2 ^ ((Nat.log2 v - 23)) : Nat) : Int)))) rfl (by kernel_rfl) (by kernel_rfl) (by kernel_rfl) (fun _ _ _ h => h) (Ex.move rfl) (ulC (ulC (ulC ulN))) (by decide) ?_
            refine GH.take 11 (v := (.pointer (some ⟨bq1, 0, none⟩))) rfl (by kernel_rfl) (by kernel_rfl) (by kernel_rfl) (fun _ _ _ h => h) (Ex.cast (Ex.fieldAddr rfl Try.underlying67 rfl T.sz3 (by decide)) rfl) (ulC (ulC (ulC ulN))) (by decide) ?_
            refine GH.take 12 (v := (.int .i64 23)) rfl (by kernel_rfl) (by kernel_rfl) (by kernel_rfl) (fun _ _ _ h => h) (Ex.load rfl T.ag3 (i := 2) rfl rfl) (ulC (ulC (ulC ulN))) (by decide) ?_
            refine GH.take 13 (v := (.int .u64 8388608)) rfl (by kernel_rfl) (by kernel_rfl) (by kernel_rfl) (fun _ _ _ h => h) (Ex.shl rfl (m := 23) rfl (by decide) (Z := 8388608) (by decide)) (ulC (ulC (ulC ulN))) (by decide) ?_
            refine GH.take 14 (v := (.int .u64 8388607)) rfl (by kernel_rfl) (by kernel_rfl) (by kernel_rfl) (fun _ _ _ h => h) (Ex.sub' rfl rfl (Z := 8388607) (by decide)) (ulC (ulC (ulC ulN))) (by decide) ?_
            refine GH.take 15 (v := (.int .u64 ((((v / 2 ^ ((Nat.log2 v - 23)) - 8388608) : Nat) : Int)))) rfl (by kernel_rfl) (by kernel_rfl) (by kernel_rfl) (fun _ _ _ h => h) (Ex.bits rfl rfl (by simp) (Z := (((v / 2 ^ ((Nat.log2 v - 23)) - 8388608) : Nat) : Int)) (andm64 23 (by omega) (by omega) (by omega) (by omega) rfl)) (ulC (ulC (ulC ulN))) (by decide) ?_
            refine GH.one 3 rfl (by kernel_rfl) (Stp.callR (vs := [(.agg #[(.int .i64 23), (.int .i64 8)]), (.bool ng)]) rfl rfl T.own87 (by decide) (fun wc hw => sign_p ng wc)) (fun _ => (ulC (ulC (ulC ulN)))) (fun xq225 hq226 => ?_)
            refine GH.take 9 (v := (.int .u64 ((Lg.sg ng + (((((((Nat.log2 v : Nat) : Int) + e - 23) + 150)).toNat * 8388608 : Nat) : Int))))) rfl (by kernel_rfl) (by kernel_rfl) (by kernel_rfl) (fun _ _ _ h => h) (Ex.bits rfl rfl (by simp) (Z := Lg.sg ng + (((((((Nat.log2 v : Nat) : Int) + e - 23) + 150)).toNat * 8388608 : Nat) : Int)) (Lg.or_sign (by omega) (by omega))) (ulC (ulC (ulC ulN))) (by decide) ?_
            refine GH.take 16 (v := (.int .u64 ((Lg.sg ng + (((((((Nat.log2 v : Nat) : Int) + e - 23) + 150)).toNat * 8388608 + (v / 2 ^ ((Nat.log2 v - 23)) - 8388608) : Nat) : Int))))) rfl (by kernel_rfl) (by kernel_rfl) (by kernel_rfl) (fun _ _ _ h => h) (Ex.bits rfl rfl (by simp) (Z := Lg.sg ng + (((((((Nat.log2 v : Nat) : Int) + e - 23) + 150)).toNat * 8388608 + (v / 2 ^ ((Nat.log2 v - 23)) - 8388608) : Nat) : Int)) (Lg.or_low (by omega) (by omega))) (ulC (ulC (ulC ulN))) (by decide) ?_
            refine GH.done (by kernel_rfl) ?_
            refine GE.thenN ?_
            refine GE.tail rfl (Ex.wp (v := (.int .u64 ((Lg.sg ng + (((((((Nat.log2 v : Nat) : Int) + e - 23) + 150)).toNat * 8388608 + (v / 2 ^ ((Nat.log2 v - 23)) - 8388608) : Nat) : Int))))) (Ex.assign rfl) (by decide)) (fun _ _ => ?_)
            refine GE.thenN ?_
            refine GC.ret ?_
            refine GC.ret1 rfl (Rv.tmp rfl) (fun wN HN => ?_)
            exact HN.ret () trivial (by rw [Lg.RD_of (v := v) (K := (v / 2 ^ (Nat.log2 v - 23))) (e := e) hv.1 hv.2 he ((if_pos (by omega)).trans (Lg.kept_no (by omega) (by first | exact fun q => absurd q.1 (by omega) | exact fun q => by rcases q.2 with z | z; exact absurd (hb.2 z) (by assumption); omega))) (by omega)]) (List.nil_sublist _) rfl
      · refine GL.val (v := (.bool false)) (Ex.cast (Ex.move rfl) (congrArg Value.bool (decide_eq_false hq134))) (by decide) ?_
        refine GL.val (Ex.move rfl) (by decide) ?_
        refine GL.skipG (tj := 90) rfl rfl rfl (by decide) ?_
        refine GL.skipG (tj := 90) rfl rfl rfl (by decide) ?_
        refine GL.skipU (tj := 92) rfl rfl (by decide) ?_
        refine GL.skipU (tj := 92) rfl rfl (by decide) ?_
        refine GL.skipU (tj := 92) rfl rfl (by decide) ?_
        refine GL.skipG (tj := 90) rfl rfl rfl (by decide) ?_
        refine GL.val (v := (.bool false)) (Ex.pickF rfl rfl) (by decide) ?_
        refine GL.val (Ex.assign rfl) (by decide) ?_
        refine GL.nil ?_
        refine GE.thenN ?_
        refine GC.seq ?_
        refine GC.seq ?_
        refine GC.region ?_
        refine GL.val (Ex.move rfl) (by decide) ?_
        refine GL.nil ?_
        refine GE.thenN ?_
        refine GC.cond rfl (fun hq227 => by cases hq227) (fun _ => ?_)
        refine GC.skip ?_
        refine GE.thenN ?_
        refine GC.seq ?_
        refine GC.seq ?_
        refine GC.draw [⟨xq132.1, [(.int .u32 (((v / 2 ^ ((Nat.log2 v - 23)) : Nat) : Int)))], 23, true⟩, ⟨bq2, [(.int .i64 2), (.bool ng), (.slice (some ⟨b, 0, none⟩) 1 c), (.int .i64 e), (.bool false)], 38, true⟩, ⟨bq1, [(.int .i64 23), (.int .i64 8)], 67, true⟩] T.mixed (fuel := 6) rfl rfl ?_
        refine GH.take 0 (v := (.slice (some ⟨xq132.1, 0, none⟩) 1 1)) rfl (by kernel_rfl) (by kernel_rfl) (by kernel_rfl) (fun _ _ _ h => h) (Ex.move rfl) (ulC (ulC (ulC ulN))) (by decide) ?_
        refine GH.take 2 (v := (.pointer (some ⟨bq1, 0, none⟩))) rfl (by kernel_rfl) (by kernel_rfl) (by kernel_rfl) (fun _ _ _ h => h) (Ex.cast (Ex.fieldAddr rfl Try.underlying67 rfl T.sz3 (by decide)) rfl) (ulC (ulC (ulC ulN))) (by decide) ?_
        refine GH.take 3 (v := (.int .i64 23)) rfl (by kernel_rfl) (by kernel_rfl) (by kernel_rfl) (fun _ _ _ h => h) (Ex.load rfl T.ag3 (i := 2) rfl rfl) (ulC (ulC (ulC ulN))) (by decide) ?_
        refine GH.take 4 (v := (.int .i64 24)) rfl (by kernel_rfl) (by kernel_rfl) (by kernel_rfl) (fun _ _ _ h => h) (Ex.add rfl rfl (Z := 24) (by decide)) (ulC (ulC (ulC ulN))) (by decide) ?_
        refine GH.one 1 rfl (by kernel_rfl) (Stp.callR (vs := [(.slice (some ⟨xq132.1, 0, none⟩) 1 1)]) rfl rfl T.own88 (by decide) (fun wc hw => bits_pos (v / 2 ^ ((Nat.log2 v - 23))) xq132.1 1 wc (by omega) (Lg.rd1 (hw.rdOf (i := 0) rfl 0)))) (fun _ => (ulC (ulC (ulC ulN)))) (fun xq230 hq231 => ?_)
        refine GH.take 5 (v := (.bool false)) rfl (by kernel_rfl) (by kernel_rfl) (by kernel_rfl) (fun _ _ _ h => h) (Ex.cast (Ex.gtr rfl rfl) (congrArg Value.bool (decide_eq_false (by omega)))) (ulC (ulC (ulC ulN))) (by decide) ?_
        refine GH.done (by kernel_rfl) ?_
        refine GE.thenN ?_
        refine GC.cond rfl (fun hq232 => by cases hq232) (fun _ => ?_)
        refine GC.skip ?_
        refine GE.thenN ?_
        refine GC.seq ?_
        refine GC.region ?_
        refine GL.val (Ex.move rfl) (by decide) ?_
        refine GL.step (Stp.callR (vs := [(.slice (some ⟨xq132.1, 0, none⟩) 1 1)]) rfl rfl T.own89 (by decide) (fun wc hw => low_pos (v / 2 ^ ((Nat.log2 v - 23))) xq132.1 1 wc (by omega) (Lg.rd1 (hw.rdOf (i := 0) rfl 0)))) (fun xq233 hq234 => ?_)
        refine GL.val (Ex.assign rfl) (by decide) ?_
        refine GL.nil ?_
        refine GE.thenN ?_
        refine GC.seq ?_
        refine GC.seq ?_
        refine GC.region ?_
        refine GL.val (Ex.move rfl) (by decide) ?_
        refine GL.val (v := (.pointer (some ⟨bq1, 0, none⟩))) (Ex.cast (Ex.fieldAddr rfl Try.underlying67 rfl T.sz3 (by decide)) rfl) (by decide) ?_
        refine GL.val (Ex.load rfl T.ag3 (i := 2) rfl rfl) (by decide) ?_
        refine GL.val (v := (.int .u64 8388608)) (Ex.shl rfl (m := 23) rfl (by decide) (Z := 8388608) (by decide)) (by decide) ?_
        refine GL.val (v := (.bool false)) (Ex.cast (Ex.lss rfl rfl) (congrArg Value.bool (decide_eq_false (by omega)))) (by decide) ?_
        refine GL.nil ?_
        refine GE.thenN ?_
        refine GC.cond rfl (fun hq235 => by cases hq235) (fun _ => ?_)
        refine GC.skip ?_
        refine GE.thenN ?_
        refine GC.seq ?_
        refine GC.region ?_
        refine GL.val (Ex.move rfl) (by decide) ?_
        refine GL.val (v := (.agg #[(.int .i64 23), (.int .i64 8)])) (Ex.loadA rfl T.ag67 T.sz67 (i := 2) rfl (vs := [(.int .i64 23), (.int .i64 8)]) rfl rfl) (by decide) ?_
        refine GL.step (Stp.callR (vs := [(.agg #[(.int .i64 23), (.int .i64 8)])]) rfl rfl T.own83 (by decide) (fun wc hw => j83_2  wc )) (fun xq236 hq237 => ?_)
        refine GL.val (v := (.int .i64 (((((Nat.log2 v : Nat) : Int) + e - 23) + 150)))) (Ex.add rfl rfl (Z := ((((Nat.log2 v : Nat) : Int) + e - 23) + 150)) (w64 (by omega))) (by decide) ?_
        refine GL.val (Ex.assign rfl) (by decide) ?_
        refine GL.nil ?_
        refine GE.thenN ?_
        refine GC.seq ?_
        refine GC.seq ?_
        refine GC.region ?_
        refine GL.val (Ex.move rfl) (by decide) ?_
        refine GL.val (v := (.int .u64 (((((Nat.log2 v : Nat) : Int) + e - 23) + 150)))) (Ex.conv rfl Try.underlying3 Try.underlying70 (Z := ((((Nat.log2 v : Nat) : Int) + e - 23) + 150)) (wu64b (by omega))) (by decide) ?_
        refine GL.val (v := (.agg #[(.int .i64 23), (.int .i64 8)])) (Ex.loadA rfl T.ag67 T.sz67 (i := 2) rfl (vs := [(.int .i64 23), (.int .i64 8)]) rfl rfl) (by decide) ?_
        refine GL.step (Stp.callR (vs := [(.agg #[(.int .i64 23), (.int .i64 8)])]) rfl rfl T.own82 (by decide) (fun wc hw => j82_1  wc )) (fun xq238 hq239 => ?_)
        refine GL.val (v := (.bool false)) (Ex.cast (Ex.geq rfl rfl) (congrArg Value.bool (decide_eq_false (by omega)))) (by decide) ?_
        refine GL.nil ?_
        refine GE.thenN ?_
        refine GC.cond rfl (fun hq240 => by cases hq240) (fun _ => ?_)
        refine GC.skip ?_
        refine GE.thenN ?_
        refine GC.seq ?_
        refine GC.drawP [⟨xq132.1, [(.int .u32 (((v / 2 ^ ((Nat.log2 v - 23)) : Nat) : Int)))], 23, true⟩, ⟨bq2, [(.int .i64 2), (.bool ng), (.slice (some ⟨b, 0, none⟩) 1 c), (.int .i64 e), (.bool false)], 38, true⟩, ⟨bq1, [(.int .i64 23), (.int .i64 8)], 67, true⟩] T.mixed (by kernel_rfl) (by kernel_rfl) (fuel := 17) rfl rfl ?_
        refine GH.take 0 (v := (.agg #[(.int .i64 23), (.int .i64 8)])) rfl (by kernel_rfl) (by kernel_rfl) (by kernel_rfl) (fun _ _ _ h => h) (Ex.loadA rfl T.ag67 T.sz67 (i := 2) rfl (vs := [(.int .i64 23), (.int .i64 8)]) rfl rfl) (ulC (ulC (ulC ulN))) (by decide) ?_
        refine GH.take 1 (v := (.pointer (some ⟨bq2, 1, none⟩))) rfl (by kernel_rfl) (by kernel_rfl) (by kernel_rfl) (fun _ _ _ h => h) (Ex.cast (Ex.fieldAddr rfl Try.underlying38 rfl T.sz4 (by decide)) rfl) (ulC (ulC (ulC ulN))) (by decide) ?_
        refine GH.take 2 (v := (.bool ng)) rfl (by kernel_rfl) (by kernel_rfl) (by kernel_rfl) (fun _ _ _ h => h) (Ex.load rfl T.ag4 (i := 1) rfl rfl) (ulC (ulC (ulC ulN))) (by decide) ?_
        refine GH.take 4 (v := (.int .i64 (((((Nat.log2 v : Nat) : Int) + e - 23) + 150)))) rfl (by kernel_rfl) (by kernel_rfl) (by kernel_rfl) (fun _ _ _ h => h) (Ex.move rfl) (ulC (ulC (ulC ulN))) (by decide) ?_
        refine GH.take 5 (v := (.int .u64 (((((Nat.log2 v : Nat) : Int) + e - 23) + 150)))) rfl (by kernel_rfl) (by kernel_rfl) (by kernel_rfl) (fun _ _ _ h => h) (Ex.conv rfl Try.underlying3 Try.underlying70 (Z := ((((Nat.log2 v : Nat) : Int) + e - 23) + 150)) (wu64b (by omega))) (ulC (ulC (ulC ulN))) (by decide) ?_
        refine GH.take 6 (v := (.pointer (some ⟨bq1, 0, none⟩))) rfl (by kernel_rfl) (by kernel_rfl) (by kernel_rfl) (fun _ _ _ h => h) (Ex.cast (Ex.fieldAddr rfl Try.underlying67 rfl T.sz3 (by decide)) rfl) (ulC (ulC (ulC ulN))) (by decide) ?_
        refine GH.take 7 (v := (.int .i64 23)) rfl (by kernel_rfl) (by kernel_rfl) (by kernel_rfl) (fun _ _ _ h => h) (Ex.load rfl T.ag3 (i := 2) rfl rfl) (ulC (ulC (ulC ulN))) (by decide) ?_
        refine GH.take 8 (v := (.int .u64 (((((((((Nat.log2 v : Nat) : Int) + e - 23) + 150)).toNat : Nat) : Int) * 8388608)))) rfl (by kernel_rfl) (by kernel_rfl) (by kernel_rfl) (fun _ _ _ h => h) (Ex.shl rfl (m := 23) rfl (by decide) (Z := (((((((Nat.log2 v : Nat) : Int) + e - 23) + 150)).toNat : Nat) : Int) * 8388608) (by rw [show ((2 : Int) ^ 23) = 8388608 by decide, wu64b (by omega)]; omega)) (ulC (ulC (ulC ulN))) (by decide) ?_
        refine GH.take 10 (v := (.int .u64 (((v / 2 ^ ((Nat.log2 v - 23)) : Nat) : Int)))) rfl (by kernel_rfl) (by kernel_rfl) (by kernel_rfl) (fun _ _ _ h => h) (Ex.move rfl) (ulC (ulC (ulC ulN))) (by decide) ?_
        refine GH.take 11 (v := (.pointer (some ⟨bq1, 0, none⟩))) rfl (by kernel_rfl) (by kernel_rfl) (by kernel_rfl) (fun _ _ _ h => h) (Ex.cast (Ex.fieldAddr rfl Try.underlying67 rfl T.sz3 (by decide)) rfl) (ulC (ulC (ulC ulN))) (by decide) ?_
        refine GH.take 12 (v := (.int .i64 23)) rfl (by kernel_rfl) (by kernel_rfl) (by kernel_rfl) (fun _ _ _ h => h) (Ex.load rfl T.ag3 (i := 2) rfl rfl) (ulC (ulC (ulC ulN))) (by decide) ?_
        refine GH.take 13 (v := (.int .u64 8388608)) rfl (by kernel_rfl) (by kernel_rfl) (by kernel_rfl) (fun _ _ _ h => h) (Ex.shl rfl (m := 23) rfl (by decide) (Z := 8388608) (by decide)) (ulC (ulC (ulC ulN))) (by decide) ?_
        refine GH.take 14 (v := (.int .u64 8388607)) rfl (by kernel_rfl) (by kernel_rfl) (by kernel_rfl) (fun _ _ _ h => h) (Ex.sub' rfl rfl (Z := 8388607) (by decide)) (ulC (ulC (ulC ulN))) (by decide) ?_
        refine GH.take 15 (v := (.int .u64 ((((v / 2 ^ ((Nat.log2 v - 23)) - 8388608) : Nat) : Int)))) rfl (by kernel_rfl) (by kernel_rfl) (by kernel_rfl) (fun _ _ _ h => h) (Ex.bits rfl rfl (by simp) (Z := (((v / 2 ^ ((Nat.log2 v - 23)) - 8388608) : Nat) : Int)) (andm64 23 (by omega) (by omega) (by omega) (by omega) rfl)) (ulC (ulC (ulC ulN))) (by decide) ?_
        refine GH.one 3 rfl (by kernel_rfl) (Stp.callR (vs := [(.agg #[(.int .i64 23), (.int .i64 8)]), (.bool ng)]) rfl rfl T.own87 (by decide) (fun wc hw => sign_p ng wc)) (fun _ => (ulC (ulC (ulC ulN)))) (fun xq243 hq244 => ?_)
        refine GH.take 9 (v := (.int .u64 ((Lg.sg ng + (((((((Nat.log2 v : Nat) : Int) + e - 23) + 150)).toNat * 8388608 : Nat) : Int))))) rfl (by kernel_rfl) (by kernel_rfl) (by kernel_rfl) (fun _ _ _ h => h) (Ex.bits rfl rfl (by simp) (Z := Lg.sg ng + (((((((Nat.log2 v : Nat) : Int) + e - 23) + 150)).toNat * 8388608 : Nat) : Int)) (Lg.or_sign (by omega) (by omega))) (ulC (ulC (ulC ulN))) (by decide) ?_
        refine GH.take 16 (v := (.int .u64 ((Lg.sg ng + (((((((Nat.log2 v : Nat) : Int) + e - 23) + 150)).toNat * 8388608 + (v / 2 ^ ((Nat.log2 v - 23)) - 8388608) : Nat) : Int))))) rfl (by kernel_rfl) (by kernel_rfl) (by kernel_rfl) (fun _ _ _ h => h) (Ex.bits rfl rfl (by simp) (Z := Lg.sg ng + (((((((Nat.log2 v : Nat) : Int) + e - 23) + 150)).toNat * 8388608 + (v / 2 ^ ((Nat.log2 v - 23)) - 8388608) : Nat) : Int)) (Lg.or_low (by omega) (by omega))) (ulC (ulC (ulC ulN))) (by decide) ?_
        refine GH.done (by kernel_rfl) ?_
        refine GE.thenN ?_
        refine GE.tail rfl (Ex.wp (v := (.int .u64 ((Lg.sg ng + (((((((Nat.log2 v : Nat) : Int) + e - 23) + 150)).toNat * 8388608 + (v / 2 ^ ((Nat.log2 v - 23)) - 8388608) : Nat) : Int))))) (Ex.assign rfl) (by decide)) (fun _ _ => ?_)
        refine GE.thenN ?_
        refine GC.ret ?_
        refine GC.ret1 rfl (Rv.tmp rfl) (fun wN HN => ?_)
        exact HN.ret () trivial (by rw [Lg.RD_of (v := v) (K := (v / 2 ^ (Nat.log2 v - 23))) (e := e) hv.1 hv.2 he ((if_pos (by omega)).trans (Lg.kept_no (by omega) (by first | exact fun q => absurd q.1 (by omega) | exact fun q => by rcases q.2 with z | z; exact absurd (hb.2 z) (by assumption); omega))) (by omega)]) (List.nil_sublist _) rfl
  · replace hq11 := of_decide_eq_false hq11
    have huf := Lg.up_facts (v := v) hv.1 (by omega)
    have hul := Lg.log_23 huf.1 huf.2
    refine GC.region ?_
    refine GL.val (Ex.move rfl) (by decide) ?_
    refine GL.val (Ex.move rfl) (by decide) ?_
    refine GL.val (Ex.move rfl) (by decide) ?_
    refine GL.val (v := (.int .i64 (((23 - Nat.log2 v : Nat) : Int)))) (Ex.sub' rfl rfl (Z := ((23 - Nat.log2 v : Nat) : Int)) (by rw [w64 (by omega)]; omega)) (by decide) ?_
    refine GL.step (Stp.callR (vs := [(.slice (some ⟨b, 0, none⟩) 1 c), (.int .i64 (((23 - Nat.log2 v : Nat) : Int)))]) rfl rfl T.own61 (by decide) (fun wc hw => up_pos v b c (23 - Nat.log2 v) wc hv (hw.rd hc (fun x => x)) (by omega))) (fun xq245 hq246 => ?_)
    refine GL.val (Ex.assign rfl) (by decide) ?_
    refine GL.nil ?_
    refine GE.thenN ?_
    refine GC.seq ?_
    refine GC.seq ?_
    refine GC.region ?_
    refine GL.val (Ex.move rfl) (by decide) ?_
    refine GL.nil ?_
    refine GE.thenN ?_
    refine GC.cond rfl (fun hq247 => by cases hq247) (fun _ => ?_)
    refine GC.skip ?_
    refine GE.thenN ?_
    refine GC.seq ?_
    refine GC.seq ?_
    refine GC.draw [⟨xq245, [(.int .u32 (((v * 2 ^ (23 - Nat.log2 v) : Nat) : Int))), (.int .u32 0)], 23, true⟩, ⟨bq2, [(.int .i64 2), (.bool ng), (.slice (some ⟨b, 0, none⟩) 1 c), (.int .i64 e), (.bool false)], 38, true⟩, ⟨bq1, [(.int .i64 23), (.int .i64 8)], 67, true⟩] T.mixed (fuel := 6) rfl rfl ?_
    refine GH.take 0 (v := (.slice (some ⟨xq245, 0, none⟩) 1 2)) rfl (by kernel_rfl) (by kernel_rfl) (by kernel_rfl) (fun _ _ _ h => h) (Ex.move rfl) (ulC (ulC (ulC ulN))) (by decide) ?_
    refine GH.take 2 (v := (.pointer (some ⟨bq1, 0, none⟩))) rfl (by kernel_rfl) (by kernel_rfl) (by kernel_rfl) (fun _ _ _ h => h) (Ex.cast (Ex.fieldAddr rfl Try.underlying67 rfl T.sz3 (by decide)) rfl) (ulC (ulC (ulC ulN))) (by decide) ?_
    refine GH.take 3 (v := (.int .i64 23)) rfl (by kernel_rfl) (by kernel_rfl) (by kernel_rfl) (fun _ _ _ h => h) (Ex.load rfl T.ag3 (i := 2) rfl rfl) (ulC (ulC (ulC ulN))) (by decide) ?_
    refine GH.take 4 (v := (.int .i64 24)) rfl (by kernel_rfl) (by kernel_rfl) (by kernel_rfl) (fun _ _ _ h => h) (Ex.add rfl rfl (Z := 24) (by decide)) (ulC (ulC (ulC ulN))) (by decide) ?_
    refine GH.one 1 rfl (by kernel_rfl) (Stp.callR (vs := [(.slice (some ⟨xq245, 0, none⟩) 1 2)]) rfl rfl T.own88 (by decide) (fun wc hw => bits_pos (v * 2 ^ (23 - Nat.log2 v)) xq245 2 wc (by omega) (Lg.rd1 (hw.rdOf (i := 0) rfl 0)))) (fun _ => (ulC (ulC (ulC ulN)))) (fun xq250 hq251 => ?_)
    refine GH.take 5 (v := (.bool false)) rfl (by kernel_rfl) (by kernel_rfl) (by kernel_rfl) (fun _ _ _ h => h) (Ex.cast (Ex.gtr rfl rfl) (congrArg Value.bool (decide_eq_false (by omega)))) (ulC (ulC (ulC ulN))) (by decide) ?_
    refine GH.done (by kernel_rfl) ?_
    refine GE.thenN ?_
    refine GC.cond rfl (fun hq252 => by cases hq252) (fun _ => ?_)
    refine GC.skip ?_
    refine GE.thenN ?_
    refine GC.seq ?_
    refine GC.region ?_
    refine GL.val (Ex.move rfl) (by decide) ?_
    refine GL.step (Stp.callR (vs := [(.slice (some ⟨xq245, 0, none⟩) 1 2)]) rfl rfl T.own89 (by decide) (fun wc hw => low_pos (v * 2 ^ (23 - Nat.log2 v)) xq245 2 wc (by omega) (Lg.rd1 (hw.rdOf (i := 0) rfl 0)))) (fun xq253 hq254 => ?_)
    refine GL.val (Ex.assign rfl) (by decide) ?_
    refine GL.nil ?_
    refine GE.thenN ?_
    refine GC.seq ?_
    refine GC.seq ?_
    refine GC.region ?_
    refine GL.val (Ex.move rfl) (by decide) ?_
    refine GL.val (v := (.pointer (some ⟨bq1, 0, none⟩))) (Ex.cast (Ex.fieldAddr rfl Try.underlying67 rfl T.sz3 (by decide)) rfl) (by decide) ?_
    refine GL.val (Ex.load rfl T.ag3 (i := 2) rfl rfl) (by decide) ?_
    refine GL.val (v := (.int .u64 8388608)) (Ex.shl rfl (m := 23) rfl (by decide) (Z := 8388608) (by decide)) (by decide) ?_
    refine GL.val (v := (.bool false)) (Ex.cast (Ex.lss rfl rfl) (congrArg Value.bool (decide_eq_false (by omega)))) (by decide) ?_
    refine GL.nil ?_
    refine GE.thenN ?_
    refine GC.cond rfl (fun hq255 => by cases hq255) (fun _ => ?_)
    refine GC.skip ?_
    refine GE.thenN ?_
    refine GC.seq ?_
    refine GC.region ?_
    refine GL.val (Ex.move rfl) (by decide) ?_
    refine GL.val (v := (.agg #[(.int .i64 23), (.int .i64 8)])) (Ex.loadA rfl T.ag67 T.sz67 (i := 2) rfl (vs := [(.int .i64 23), (.int .i64 8)]) rfl rfl) (by decide) ?_
    refine GL.step (Stp.callR (vs := [(.agg #[(.int .i64 23), (.int .i64 8)])]) rfl rfl T.own83 (by decide) (fun wc hw => j83_2  wc )) (fun xq256 hq257 => ?_)
    refine GL.val (v := (.int .i64 (((((Nat.log2 v : Nat) : Int) + e - 23) + 150)))) (Ex.add rfl rfl (Z := ((((Nat.log2 v : Nat) : Int) + e - 23) + 150)) (w64 (by omega))) (by decide) ?_
    refine GL.val (Ex.assign rfl) (by decide) ?_
    refine GL.nil ?_
    refine GE.thenN ?_
    refine GC.seq ?_
    refine GC.seq ?_
    refine GC.region ?_
    refine GL.val (Ex.move rfl) (by decide) ?_
    refine GL.val (v := (.int .u64 (((((Nat.log2 v : Nat) : Int) + e - 23) + 150)))) (Ex.conv rfl Try.underlying3 Try.underlying70 (Z := ((((Nat.log2 v : Nat) : Int) + e - 23) + 150)) (wu64b (by omega))) (by decide) ?_
    refine GL.val (v := (.agg #[(.int .i64 23), (.int .i64 8)])) (Ex.loadA rfl T.ag67 T.sz67 (i := 2) rfl (vs := [(.int .i64 23), (.int .i64 8)]) rfl rfl) (by decide) ?_
    refine GL.step (Stp.callR (vs := [(.agg #[(.int .i64 23), (.int .i64 8)])]) rfl rfl T.own82 (by decide) (fun wc hw => j82_1  wc )) (fun xq258 hq259 => ?_)
    refine GL.val (v := (.bool false)) (Ex.cast (Ex.geq rfl rfl) (congrArg Value.bool (decide_eq_false (by omega)))) (by decide) ?_
    refine GL.nil ?_
    refine GE.thenN ?_
    refine GC.cond rfl (fun hq260 => by cases hq260) (fun _ => ?_)
    refine GC.skip ?_
    refine GE.thenN ?_
    refine GC.seq ?_
    refine GC.drawP [⟨xq245, [(.int .u32 (((v * 2 ^ (23 - Nat.log2 v) : Nat) : Int))), (.int .u32 0)], 23, true⟩, ⟨bq2, [(.int .i64 2), (.bool ng), (.slice (some ⟨b, 0, none⟩) 1 c), (.int .i64 e), (.bool false)], 38, true⟩, ⟨bq1, [(.int .i64 23), (.int .i64 8)], 67, true⟩] T.mixed (by kernel_rfl) (by kernel_rfl) (fuel := 17) rfl rfl ?_
    refine GH.take 0 (v := (.agg #[(.int .i64 23), (.int .i64 8)])) rfl (by kernel_rfl) (by kernel_rfl) (by kernel_rfl) (fun _ _ _ h => h) (Ex.loadA rfl T.ag67 T.sz67 (i := 2) rfl (vs := [(.int .i64 23), (.int .i64 8)]) rfl rfl) (ulC (ulC (ulC ulN))) (by decide) ?_
    refine GH.take 1 (v := (.pointer (some ⟨bq2, 1, none⟩))) rfl (by kernel_rfl) (by kernel_rfl) (by kernel_rfl) (fun _ _ _ h => h) (Ex.cast (Ex.fieldAddr rfl Try.underlying38 rfl T.sz4 (by decide)) rfl) (ulC (ulC (ulC ulN))) (by decide) ?_
    refine GH.take 2 (v := (.bool ng)) rfl (by kernel_rfl) (by kernel_rfl) (by kernel_rfl) (fun _ _ _ h => h) (Ex.load rfl T.ag4 (i := 1) rfl rfl) (ulC (ulC (ulC ulN))) (by decide) ?_
    refine GH.take 4 (v := (.int .i64 (((((Nat.log2 v : Nat) : Int) + e - 23) + 150)))) rfl (by kernel_rfl) (by kernel_rfl) (by kernel_rfl) (fun _ _ _ h => h) (Ex.move rfl) (ulC (ulC (ulC ulN))) (by decide) ?_
    refine GH.take 5 (v := (.int .u64 (((((Nat.log2 v : Nat) : Int) + e - 23) + 150)))) rfl (by kernel_rfl) (by kernel_rfl) (by kernel_rfl) (fun _ _ _ h => h) (Ex.conv rfl Try.underlying3 Try.underlying70 (Z := ((((Nat.log2 v : Nat) : Int) + e - 23) + 150)) (wu64b (by omega))) (ulC (ulC (ulC ulN))) (by decide) ?_
    refine GH.take 6 (v := (.pointer (some ⟨bq1, 0, none⟩))) rfl (by kernel_rfl) (by kernel_rfl) (by kernel_rfl) (fun _ _ _ h => h) (Ex.cast (Ex.fieldAddr rfl Try.underlying67 rfl T.sz3 (by decide)) rfl) (ulC (ulC (ulC ulN))) (by decide) ?_
    refine GH.take 7 (v := (.int .i64 23)) rfl (by kernel_rfl) (by kernel_rfl) (by kernel_rfl) (fun _ _ _ h => h) (Ex.load rfl T.ag3 (i := 2) rfl rfl) (ulC (ulC (ulC ulN))) (by decide) ?_
    refine GH.take 8 (v := (.int .u64 (((((((((Nat.log2 v : Nat) : Int) + e - 23) + 150)).toNat : Nat) : Int) * 8388608)))) rfl (by kernel_rfl) (by kernel_rfl) (by kernel_rfl) (fun _ _ _ h => h) (Ex.shl rfl (m := 23) rfl (by decide) (Z := (((((((Nat.log2 v : Nat) : Int) + e - 23) + 150)).toNat : Nat) : Int) * 8388608) (by rw [show ((2 : Int) ^ 23) = 8388608 by decide, wu64b (by omega)]; omega)) (ulC (ulC (ulC ulN))) (by decide) ?_
    refine GH.take 10 (v := (.int .u64 (((v * 2 ^ (23 - Nat.log2 v) : Nat) : Int)))) rfl (by kernel_rfl) (by kernel_rfl) (by kernel_rfl) (fun _ _ _ h => h) (Ex.move rfl) (ulC (ulC (ulC ulN))) (by decide) ?_
    refine GH.take 11 (v := (.pointer (some ⟨bq1, 0, none⟩))) rfl (by kernel_rfl) (by kernel_rfl) (by kernel_rfl) (fun _ _ _ h => h) (Ex.cast (Ex.fieldAddr rfl Try.underlying67 rfl T.sz3 (by decide)) rfl) (ulC (ulC (ulC ulN))) (by decide) ?_
    refine GH.take 12 (v := (.int .i64 23)) rfl (by kernel_rfl) (by kernel_rfl) (by kernel_rfl) (fun _ _ _ h => h) (Ex.load rfl T.ag3 (i := 2) rfl rfl) (ulC (ulC (ulC ulN))) (by decide) ?_
    refine GH.take 13 (v := (.int .u64 8388608)) rfl (by kernel_rfl) (by kernel_rfl) (by kernel_rfl) (fun _ _ _ h => h) (Ex.shl rfl (m := 23) rfl (by decide) (Z := 8388608) (by decide)) (ulC (ulC (ulC ulN))) (by decide) ?_
    refine GH.take 14 (v := (.int .u64 8388607)) rfl (by kernel_rfl) (by kernel_rfl) (by kernel_rfl) (fun _ _ _ h => h) (Ex.sub' rfl rfl (Z := 8388607) (by decide)) (ulC (ulC (ulC ulN))) (by decide) ?_
    refine GH.take 15 (v := (.int .u64 ((((v * 2 ^ (23 - Nat.log2 v) - 8388608) : Nat) : Int)))) rfl (by kernel_rfl) (by kernel_rfl) (by kernel_rfl) (fun _ _ _ h => h) (Ex.bits rfl rfl (by simp) (Z := (((v * 2 ^ (23 - Nat.log2 v) - 8388608) : Nat) : Int)) (andm64 23 (by omega) (by omega) (by omega) (by omega) rfl)) (ulC (ulC (ulC ulN))) (by decide) ?_
    refine GH.one 3 rfl (by kernel_rfl) (Stp.callR (vs := [(.agg #[(.int .i64 23), (.int .i64 8)]), (.bool ng)]) rfl rfl T.own87 (by decide) (fun wc hw => sign_p ng wc)) (fun _ => (ulC (ulC (ulC ulN)))) (fun xq263 hq264 => ?_)
    refine GH.take 9 (v := (.int .u64 ((Lg.sg ng + (((((((Nat.log2 v : Nat) : Int) + e - 23) + 150)).toNat * 8388608 : Nat) : Int))))) rfl (by kernel_rfl) (by kernel_rfl) (by kernel_rfl) (fun _ _ _ h => h) (Ex.bits rfl rfl (by simp) (Z := Lg.sg ng + (((((((Nat.log2 v : Nat) : Int) + e - 23) + 150)).toNat * 8388608 : Nat) : Int)) (Lg.or_sign (by omega) (by omega))) (ulC (ulC (ulC ulN))) (by decide) ?_
    refine GH.take 16 (v := (.int .u64 ((Lg.sg ng + (((((((Nat.log2 v : Nat) : Int) + e - 23) + 150)).toNat * 8388608 + (v * 2 ^ (23 - Nat.log2 v) - 8388608) : Nat) : Int))))) rfl (by kernel_rfl) (by kernel_rfl) (by kernel_rfl) (fun _ _ _ h => h) (Ex.bits rfl rfl (by simp) (Z := Lg.sg ng + (((((((Nat.log2 v : Nat) : Int) + e - 23) + 150)).toNat * 8388608 + (v * 2 ^ (23 - Nat.log2 v) - 8388608) : Nat) : Int)) (Lg.or_low (by omega) (by omega))) (ulC (ulC (ulC ulN))) (by decide) ?_
    refine GH.done (by kernel_rfl) ?_
    refine GE.thenN ?_
    refine GE.tail rfl (Ex.wp (v := (.int .u64 ((Lg.sg ng + (((((((Nat.log2 v : Nat) : Int) + e - 23) + 150)).toNat * 8388608 + (v * 2 ^ (23 - Nat.log2 v) - 8388608) : Nat) : Int))))) (Ex.assign rfl) (by decide)) (fun _ _ => ?_)
    refine GE.thenN ?_
    refine GC.ret ?_
    refine GC.ret1 rfl (Rv.tmp rfl) (fun wN HN => ?_)
    exact HN.ret () trivial (by rw [Lg.RD_of (v := v) (K := v * 2 ^ (23 - Nat.log2 v)) (e := e) hv.1 hv.2 he (if_neg (by omega)) (by omega)]) (List.nil_sublist _) rfl

set_option maxRecDepth 100000 in
set_option maxHeartbeats 1000000 in
theorem up_0 (ad : Option Addr) (c n : Nat) (w : World) :
    Calls Try.prog 61 #[(.slice ad 0 c), (.int .i64 (((n : Nat) : Int)))] w (Ret w (fun _ : Unit => True) (fun _ => (.slice none 0 0)) (fun _ => [])) := by
  refine enter (M := None) (L := []) (n := 61) (l := [(0, (.slice ad 0 c)), (1, (.int .i64 (((n : Nat) : Int))))]) Try.func61 rfl rfl (Args.cons rfl (Args.cons rfl (Args.nil _))) (Hp.start _ _) ?_
  refine GC.seq ?_
  refine GC.region ?_
  refine GL.val (Ex.assign rfl) (by decide) ?_
  refine GL.nil ?_
  refine GE.thenN ?_
  refine GC.seq ?_
  refine GC.seq ?_
  refine GC.region ?_
  refine GL.val (Ex.move rfl) (by decide) ?_
  refine GL.val (v := (.int .i64 0)) (Ex.len rfl Try.underlying36) (by decide) ?_
  refine GL.val (v := (.bool true)) (Ex.cast (Ex.eql rfl rfl) rfl) (by decide) ?_
  refine GL.nil ?_
  refine GE.thenN ?_
  refine GC.cond rfl (fun _ => ?_) (fun hq1 => by cases hq1)
  refine GC.seq ?_
  refine GC.region ?_
  refine GL.val (Ex.assign rfl) (by decide) ?_
  refine GL.nil ?_
  refine GE.thenN ?_
  refine GC.ret ?_
  refine GE.thenR ?_
  refine GC.ret1 rfl (Rv.tmp rfl) (fun wN HN => ?_)
  exact HN.ret () trivial (by rfl) (List.nil_sublist _) rfl

end Go.Proofs.Ytbhjadkgeadpiaa.C
