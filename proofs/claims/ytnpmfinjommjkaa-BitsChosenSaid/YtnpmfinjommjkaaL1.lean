/- Bits' laws, walked. -/
import Derived.Test.YtnpmfinjommjkaaB2
namespace Go.Proofs.Ytnpmfinjommjkaa.B
open Go Go.RowKit Sx
set_option linter.unusedVariables false
set_option maxRecDepth 100000 in
set_option maxHeartbeats 1000000 in
theorem known (w : World) :
    Calls Try.prog 10 #[] w (Ret w (fun _ : Unit => True) (fun _ => .bool true) (fun _ => [])) := by
  refine enter (M := None) (L := []) (n := 117) (l := []) Try.func10 rfl rfl (Args.nil _) (Hp.start _ _) ?_
  refine GC.seq ?_
  refine GC.region ?_
  refine GL.val (v := (.bool false)) (Ex.assign rfl) (by decide) ?_
  refine GL.nil ?_
  refine GE.thenN ?_
  refine GC.seq ?_
  refine GC.region ?_
  refine GL.step (Stp.callR (σ := Unit) (p := fun rz => True) (v := fun rz => (.tuple #[(.int .i64 8388608), (.int .i64 (-23)), (.bool true)])) (N := fun rz => []) (vs := [(.int .u32 1065353216)]) rfl rfl T.own11 (by decide) (fun wc hw => (by have h := parts_p 1065353216 wc (by omega); rw [show (Bt.prts 1065353216).1 = 8388608 from by decide, show (Bt.prts 1065353216).2.1 = -23 from by decide, show (Bt.prts 1065353216).2.2 = true from by decide] at h; exact h))) (fun xq1 hq2 => ?_)
  refine GL.val (v := (.tuple #[(.int .i64 8388608), (.int .i64 (-23)), (.bool true)])) (Ex.move rfl) (by decide) ?_
  refine GL.val (v := (.int .i64 8388608)) (Ex.extract rfl rfl) (by decide) ?_
  refine GL.val (v := (.int .i64 (-23))) (Ex.extract rfl rfl) (by decide) ?_
  refine GL.val (v := (.bool true)) (Ex.extract rfl rfl) (by decide) ?_
  refine GL.val (v := (.int .i64 8388608)) (Ex.assign rfl) (by decide) ?_
  refine GL.val (v := (.int .i64 (-23))) (Ex.assign rfl) (by decide) ?_
  refine GL.val (v := (.bool true)) (Ex.assign rfl) (by decide) ?_
  refine GL.nil ?_
  refine GE.thenN ?_
  refine GC.seq ?_
  refine GC.region ?_
  refine GL.step (Stp.callR (σ := Unit) (p := fun rz => True) (v := fun rz => (.tuple #[(.int .u32 1065353216), (.bool true)])) (N := fun rz => []) (vs := [(.int .i64 1), (.int .i64 0)]) rfl rfl T.own13 (by decide) (fun wc hw => (Calls.mono (fp_p 1 0 wc (by omega) (by omega)) (by rintro e w' ⟨x, rfl, hx, hn⟩; obtain ⟨h1, h2⟩ := hx.uniq Bt.FP.one; exact ⟨(), by dsimp only; rw [h1, h2], trivial, hn⟩)))) (fun xq3 hq4 => ?_)
  refine GL.val (v := (.tuple #[(.int .u32 1065353216), (.bool true)])) (Ex.move rfl) (by decide) ?_
  refine GL.val (v := (.int .u32 1065353216)) (Ex.extract rfl rfl) (by decide) ?_
  refine GL.val (v := (.bool true)) (Ex.extract rfl rfl) (by decide) ?_
  refine GL.val (v := (.int .u32 1065353216)) (Ex.assign rfl) (by decide) ?_
  refine GL.val (v := (.bool true)) (Ex.assign rfl) (by decide) ?_
  refine GL.nil ?_
  refine GE.thenN ?_
  refine GC.seq ?_
  refine GC.region ?_
  refine GL.step (Stp.callR (σ := Unit) (p := fun rz => True) (v := fun rz => (.tuple #[(.int .u32 0), (.bool false)])) (N := fun rz => []) (vs := [(.int .i64 1), (.int .i64 (-150))]) rfl rfl T.own13 (by decide) (fun wc hw => (Calls.mono (fp_p 1 (-150) wc (by omega) (by omega)) (by rintro e w' ⟨x, rfl, hx, hn⟩; obtain ⟨h1, h2⟩ := hx.uniq Bt.FP.low; exact ⟨(), by dsimp only; rw [h1, h2], trivial, hn⟩)))) (fun xq5 hq6 => ?_)
  refine GL.val (v := (.tuple #[(.int .u32 0), (.bool false)])) (Ex.move rfl) (by decide) ?_
  refine GL.val (v := (.int .u32 0)) (Ex.extract rfl rfl) (by decide) ?_
  refine GL.val (v := (.bool false)) (Ex.extract rfl rfl) (by decide) ?_
  refine GL.val (v := (.int .u32 0)) (Ex.assign rfl) (by decide) ?_
  refine GL.val (v := (.bool false)) (Ex.assign rfl) (by decide) ?_
  refine GL.nil ?_
  refine GE.thenN ?_
  refine GC.seq ?_
  refine GC.region ?_
  refine GL.step (Stp.callR (σ := Unit) (p := fun rz => True) (v := fun rz => (.tuple #[(.int .u32 0), (.bool false)])) (N := fun rz => []) (vs := [(.int .i64 16777217), (.int .i64 0)]) rfl rfl T.own13 (by decide) (fun wc hw => (Calls.mono (fp_p 16777217 0 wc (by omega) (by omega)) (by rintro e w' ⟨x, rfl, hx, hn⟩; obtain ⟨h1, h2⟩ := hx.uniq Bt.FP.odd; exact ⟨(), by dsimp only; rw [h1, h2], trivial, hn⟩)))) (fun xq7 hq8 => ?_)
  refine GL.val (v := (.tuple #[(.int .u32 0), (.bool false)])) (Ex.move rfl) (by decide) ?_
  refine GL.val (v := (.int .u32 0)) (Ex.extract rfl rfl) (by decide) ?_
  refine GL.val (v := (.bool false)) (Ex.extract rfl rfl) (by decide) ?_
  refine GL.val (v := (.int .u32 0)) (Ex.assign rfl) (by decide) ?_
  refine GL.val (v := (.bool false)) (Ex.assign rfl) (by decide) ?_
  refine GL.nil ?_
  refine GE.thenN ?_
  refine GC.seq ?_
  refine GC.region ?_
  refine GL.step (Stp.callR (σ := Unit) (p := fun rz => True) (v := fun rz => (.tuple #[(.int .u32 3233808384), (.bool true)])) (N := fun rz => []) (vs := [(.int .i64 (-3)), (.int .i64 1)]) rfl rfl T.own13 (by decide) (fun wc hw => (Calls.mono (fp_p (-3) 1 wc (by omega) (by omega)) (by rintro e w' ⟨x, rfl, hx, hn⟩; obtain ⟨h1, h2⟩ := hx.uniq Bt.FP.m3; exact ⟨(), by dsimp only; rw [h1, h2], trivial, hn⟩)))) (fun xq9 hq10 => ?_)
  refine GL.val (v := (.tuple #[(.int .u32 3233808384), (.bool true)])) (Ex.move rfl) (by decide) ?_
  refine GL.val (v := (.int .u32 3233808384)) (Ex.extract rfl rfl) (by decide) ?_
  refine GL.val (v := (.bool true)) (Ex.extract rfl rfl) (by decide) ?_
  refine GL.val (v := (.int .u32 3233808384)) (Ex.assign rfl) (by decide) ?_
  refine GL.val (v := (.bool true)) (Ex.assign rfl) (by decide) ?_
  refine GL.nil ?_
  refine GE.thenN ?_
  refine GC.seq ?_
  refine GC.region ?_
  refine GL.step (Stp.callR (σ := Unit) (p := fun rz => True) (v := fun rz => (.tuple #[(.int .u32 0), (.bool true)])) (N := fun rz => []) (vs := [(.int .u32 2147483648)]) rfl rfl T.own21 (by decide) (fun wc hw => (by have h := next_p 2147483648 wc (by omega); rw [show (Bt.nxt 2147483648).1 = 0 from by decide, show (Bt.nxt 2147483648).2 = true from by decide] at h; exact h))) (fun xq11 hq12 => ?_)
  refine GL.val (v := (.tuple #[(.int .u32 0), (.bool true)])) (Ex.move rfl) (by decide) ?_
  refine GL.val (v := (.int .u32 0)) (Ex.extract rfl rfl) (by decide) ?_
  refine GL.val (v := (.bool true)) (Ex.extract rfl rfl) (by decide) ?_
  refine GL.val (v := (.int .u32 0)) (Ex.assign rfl) (by decide) ?_
  refine GL.val (v := (.bool true)) (Ex.assign rfl) (by decide) ?_
  refine GL.nil ?_
  refine GE.thenN ?_
  refine GC.seq ?_
  refine GC.region ?_
  refine GL.step (Stp.callR (σ := Unit) (p := fun rz => True) (v := fun rz => (.tuple #[(.int .u32 0), (.bool false)])) (N := fun rz => []) (vs := [(.int .u32 2147483647)]) rfl rfl T.own21 (by decide) (fun wc hw => (by have h := next_p 2147483647 wc (by omega); rw [show (Bt.nxt 2147483647).1 = 0 from by decide, show (Bt.nxt 2147483647).2 = false from by decide] at h; exact h))) (fun xq13 hq14 => ?_)
  refine GL.val (v := (.tuple #[(.int .u32 0), (.bool false)])) (Ex.move rfl) (by decide) ?_
  refine GL.val (v := (.int .u32 0)) (Ex.extract rfl rfl) (by decide) ?_
  refine GL.val (v := (.bool false)) (Ex.extract rfl rfl) (by decide) ?_
  refine GL.val (v := (.int .u32 0)) (Ex.assign rfl) (by decide) ?_
  refine GL.val (v := (.bool false)) (Ex.assign rfl) (by decide) ?_
  refine GL.nil ?_
  refine GE.thenN ?_
  refine GC.seq ?_
  refine GC.region ?_
  refine GL.step (Stp.callR (σ := Unit) (p := fun rz => True) (v := fun rz => (.int .u32 2147483648)) (N := fun rz => []) (vs := [(.int .u32 0)]) rfl rfl T.own25 (by decide) (fun wc hw => (by have h := key_p 0 wc (by omega); rw [show Bt.key 0 = 2147483648 from by decide] at h; exact h))) (fun xq15 hq16 => ?_)
  refine GL.val (v := (.bool true)) (Ex.cast (Ex.eql rfl rfl) rfl) (by decide) ?_
  refine GL.val (v := (.bool true)) (Ex.move rfl) (by decide) ?_
  refine GL.stepG (tj := 48) rfl rfl (Stp.callR (σ := Unit) (p := fun rz => True) (v := fun rz => (.int .u32 2147483647)) (N := fun rz => []) (vs := [(.int .u32 2147483648)]) rfl rfl T.own25 (by decide) (fun wc hw => (by have h := key_p 2147483648 wc (by omega); rw [show Bt.key 2147483648 = 2147483647 from by decide] at h; exact h))) (fun xq17 hq18 => ?_)
  refine GL.stepG (tj := 48) rfl rfl (Ex.wp (v := (.bool true)) (Ex.cast (Ex.eql rfl rfl) rfl) (by decide)) (fun _ _ => ?_)
  refine GL.val (v := (.bool true)) (Ex.pickT rfl rfl) (by decide) ?_
  refine GL.val (v := (.bool true)) (Ex.move rfl) (by decide) ?_
  refine GL.stepG (tj := 52) rfl rfl (Stp.callR (σ := Unit) (p := fun rz => True) (v := fun rz => (.int .u32 4290772992)) (N := fun rz => []) (vs := [(.int .u32 2143289344)]) rfl rfl T.own25 (by decide) (fun wc hw => (by have h := key_p 2143289344 wc (by omega); rw [show Bt.key 2143289344 = 4290772992 from by decide] at h; exact h))) (fun xq19 hq20 => ?_)
  refine GL.stepG (tj := 52) rfl rfl (Ex.wp (v := (.bool true)) (Ex.cast (Ex.eql rfl rfl) rfl) (by decide)) (fun _ _ => ?_)
  refine GL.val (v := (.bool true)) (Ex.pickT rfl rfl) (by decide) ?_
  refine GL.val (v := (.bool true)) (Ex.move rfl) (by decide) ?_
  refine GL.stepG (tj := 56) rfl rfl (Stp.callR (σ := Unit) (p := fun rz => True) (v := fun rz => (.int .u32 4294967295)) (N := fun rz => []) (vs := [(.int .u32 0)]) rfl rfl T.own27 (by decide) (fun wc hw => (by have h := unkey_p 0 wc (by omega); rw [show Bt.unkey 0 = 4294967295 from by decide] at h; exact h))) (fun xq21 hq22 => ?_)
  refine GL.stepG (tj := 56) rfl rfl (Ex.wp (v := (.bool true)) (Ex.cast (Ex.eql rfl rfl) rfl) (by decide)) (fun _ _ => ?_)
  refine GL.val (v := (.bool true)) (Ex.pickT rfl rfl) (by decide) ?_
  refine GL.val (v := (.bool true)) (Ex.assign rfl) (by decide) ?_
  refine GL.nil ?_
  refine GE.thenN ?_
  refine GC.seq ?_
  refine GC.region ?_
  refine GL.val (v := (.bool true)) (Ex.move rfl) (by decide) ?_
  refine GL.val (v := (.bool true)) (Ex.move rfl) (by decide) ?_
  refine GL.stepG (tj := 61) rfl rfl (Ex.wp (v := (.int .i64 8388608)) (Ex.move rfl) (by decide)) (fun _ _ => ?_)
  refine GL.stepG (tj := 61) rfl rfl (Ex.wp (v := (.bool true)) (Ex.cast (Ex.eql rfl rfl) rfl) (by decide)) (fun _ _ => ?_)
  refine GL.val (v := (.bool true)) (Ex.pickT rfl rfl) (by decide) ?_
  refine GL.val (v := (.bool true)) (Ex.move rfl) (by decide) ?_
  refine GL.stepG (tj := 65) rfl rfl (Ex.wp (v := (.int .i64 (-23))) (Ex.move rfl) (by decide)) (fun _ _ => ?_)
  refine GL.stepG (tj := 65) rfl rfl (Ex.wp (v := (.bool true)) (Ex.cast (Ex.eql rfl rfl) rfl) (by decide)) (fun _ _ => ?_)
  refine GL.val (v := (.bool true)) (Ex.pickT rfl rfl) (by decide) ?_
  refine GL.val (v := (.bool true)) (Ex.move rfl) (by decide) ?_
  refine GL.stepG (tj := 69) rfl rfl (Ex.wp (v := (.bool true)) (Ex.move rfl) (by decide)) (fun _ _ => ?_)
  refine GL.val (v := (.bool true)) (Ex.pickT rfl rfl) (by decide) ?_
  refine GL.val (v := (.bool true)) (Ex.move rfl) (by decide) ?_
  refine GL.stepG (tj := 72) rfl rfl (Ex.wp (v := (.int .u32 1065353216)) (Ex.move rfl) (by decide)) (fun _ _ => ?_)
  refine GL.stepG (tj := 72) rfl rfl (Ex.wp (v := (.bool true)) (Ex.cast (Ex.eql rfl rfl) rfl) (by decide)) (fun _ _ => ?_)
  refine GL.val (v := (.bool true)) (Ex.pickT rfl rfl) (by decide) ?_
  refine GL.val (v := (.bool true)) (Ex.move rfl) (by decide) ?_
  refine GL.stepG (tj := 76) rfl rfl (Ex.wp (v := (.bool true)) (Ex.move rfl) (by decide)) (fun _ _ => ?_)
  refine GL.val (v := (.bool true)) (Ex.pickT rfl rfl) (by decide) ?_
  refine GL.val (v := (.bool true)) (Ex.move rfl) (by decide) ?_
  refine GL.stepG (tj := 79) rfl rfl (Ex.wp (v := (.bool false)) (Ex.move rfl) (by decide)) (fun _ _ => ?_)
  refine GL.stepG (tj := 79) rfl rfl (Ex.wp (v := (.bool true)) (Ex.cast (Ex.not rfl) rfl) (by decide)) (fun _ _ => ?_)
  refine GL.val (v := (.bool true)) (Ex.pickT rfl rfl) (by decide) ?_
  refine GL.val (v := (.bool true)) (Ex.move rfl) (by decide) ?_
  refine GL.stepG (tj := 83) rfl rfl (Ex.wp (v := (.bool false)) (Ex.move rfl) (by decide)) (fun _ _ => ?_)
  refine GL.stepG (tj := 83) rfl rfl (Ex.wp (v := (.bool true)) (Ex.cast (Ex.not rfl) rfl) (by decide)) (fun _ _ => ?_)
  refine GL.val (v := (.bool true)) (Ex.pickT rfl rfl) (by decide) ?_
  refine GL.val (v := (.bool true)) (Ex.move rfl) (by decide) ?_
  refine GL.stepG (tj := 87) rfl rfl (Ex.wp (v := (.int .u32 3233808384)) (Ex.move rfl) (by decide)) (fun _ _ => ?_)
  refine GL.stepG (tj := 87) rfl rfl (Ex.wp (v := (.bool true)) (Ex.cast (Ex.eql rfl rfl) rfl) (by decide)) (fun _ _ => ?_)
  refine GL.val (v := (.bool true)) (Ex.pickT rfl rfl) (by decide) ?_
  refine GL.val (v := (.bool true)) (Ex.move rfl) (by decide) ?_
  refine GL.stepG (tj := 91) rfl rfl (Ex.wp (v := (.bool true)) (Ex.move rfl) (by decide)) (fun _ _ => ?_)
  refine GL.val (v := (.bool true)) (Ex.pickT rfl rfl) (by decide) ?_
  refine GL.val (v := (.bool true)) (Ex.move rfl) (by decide) ?_
  refine GL.stepG (tj := 94) rfl rfl (Ex.wp (v := (.int .u32 0)) (Ex.move rfl) (by decide)) (fun _ _ => ?_)
  refine GL.stepG (tj := 94) rfl rfl (Ex.wp (v := (.bool true)) (Ex.cast (Ex.eql rfl rfl) rfl) (by decide)) (fun _ _ => ?_)
  refine GL.val (v := (.bool true)) (Ex.pickT rfl rfl) (by decide) ?_
  refine GL.val (v := (.bool true)) (Ex.move rfl) (by decide) ?_
  refine GL.stepG (tj := 98) rfl rfl (Ex.wp (v := (.bool true)) (Ex.move rfl) (by decide)) (fun _ _ => ?_)
  refine GL.val (v := (.bool true)) (Ex.pickT rfl rfl) (by decide) ?_
  refine GL.val (v := (.bool true)) (Ex.move rfl) (by decide) ?_
  refine GL.stepG (tj := 101) rfl rfl (Ex.wp (v := (.int .u32 0)) (Ex.move rfl) (by decide)) (fun _ _ => ?_)
  refine GL.stepG (tj := 101) rfl rfl (Ex.wp (v := (.bool true)) (Ex.cast (Ex.eql rfl rfl) rfl) (by decide)) (fun _ _ => ?_)
  refine GL.val (v := (.bool true)) (Ex.pickT rfl rfl) (by decide) ?_
  refine GL.val (v := (.bool true)) (Ex.move rfl) (by decide) ?_
  refine GL.stepG (tj := 105) rfl rfl (Ex.wp (v := (.bool false)) (Ex.move rfl) (by decide)) (fun _ _ => ?_)
  refine GL.stepG (tj := 105) rfl rfl (Ex.wp (v := (.bool true)) (Ex.cast (Ex.not rfl) rfl) (by decide)) (fun _ _ => ?_)
  refine GL.val (v := (.bool true)) (Ex.pickT rfl rfl) (by decide) ?_
  refine GL.val (v := (.bool true)) (Ex.move rfl) (by decide) ?_
  refine GL.stepG (tj := 109) rfl rfl (Stp.callR (σ := Unit) (p := fun rz => True) (v := fun rz => (.int .i64 1)) (N := fun rz => []) (vs := [(.int .u32 2147483648), (.int .u32 0)]) rfl rfl T.own29 (by decide) (fun wc hw => (by have h := apart_p 2147483648 0 wc (by omega) (by omega); rw [show Bt.key 0 - Bt.key 2147483648 = 1 from by decide] at h; exact h))) (fun xq23 hq24 => ?_)
  refine GL.stepG (tj := 109) rfl rfl (Ex.wp (v := (.bool true)) (Ex.cast (Ex.eql rfl rfl) rfl) (by decide)) (fun _ _ => ?_)
  refine GL.val (v := (.bool true)) (Ex.pickT rfl rfl) (by decide) ?_
  refine GL.val (v := (.bool true)) (Ex.move rfl) (by decide) ?_
  refine GL.stepG (tj := 113) rfl rfl (Stp.callR (σ := Unit) (p := fun rz => True) (v := fun rz => (.int .i64 4)) (N := fun rz => []) (vs := [(.int .u32 1)]) rfl rfl T.own15 (by decide) (fun wc hw => (by have h := cls_p 1 wc (by omega); rw [show Bt.cls 1 = 4 from by decide] at h; exact h))) (fun xq25 hq26 => ?_)
  refine GL.stepG (tj := 113) rfl rfl (Ex.wp (v := (.bool true)) (Ex.cast (Ex.eql rfl rfl) rfl) (by decide)) (fun _ _ => ?_)
  refine GL.val (v := (.bool true)) (Ex.pickT rfl rfl) (by decide) ?_
  refine GL.val (v := (.bool true)) (Ex.assign rfl) (by decide) ?_
  refine GL.nil ?_
  refine GE.thenN ?_
  refine GC.ret ?_
  refine GC.ret1 rfl (Rv.tmp rfl) (fun wN HN => ?_)
  exact HN.ret () trivial rfl (List.nil_sublist _) rfl

set_option maxRecDepth 100000 in
set_option maxHeartbeats 1000000 in
theorem lawClasses (s n e : Int) (w : World) (hs : 0 ≤ s ∧ s < 4294967296) (hn : -9223372036854775808 ≤ n ∧ n ≤ 9223372036854775807) (he : -9223372036854775808 ≤ e ∧ e ≤ 9223372036854775807) :
    Calls Try.prog 4 #[(.int .u32 s), (.int .i64 n), (.int .i64 e)] w (Ret w (fun _ : Unit => True) (fun _ => .bool true) (fun _ => [])) := by
  refine enter (M := None) (L := []) (n := 87) (l := [(0, (.int .u32 s)), (1, (.int .i64 n)), (2, (.int .i64 e))]) Try.func4 rfl rfl (Args.cons rfl (Args.cons rfl (Args.cons rfl (Args.nil _)))) (Hp.start _ _) ?_
  refine GC.seq ?_
  refine GC.region ?_
  refine GL.val (v := (.bool false)) (Ex.assign rfl) (by decide) ?_
  refine GL.nil ?_
  refine GE.thenN ?_
  refine GC.seq ?_
  refine GC.seq ?_
  refine GC.region ?_
  refine GL.step (Stp.callR (σ := Unit) (p := fun rz => True) (v := fun rz => (.bool true)) (N := fun rz => []) (vs := []) rfl rfl T.own10 (by decide) (fun wc hw => known wc)) (fun xq1 hq2 => ?_)
  refine GL.val (v := (.bool false)) (Ex.cast (Ex.not rfl) rfl) (by decide) ?_
  refine GL.nil ?_
  refine GE.thenN ?_
  refine GC.cond rfl (fun hq3 => by cases hq3) (fun _ => ?_)
  refine GC.skip ?_
  refine GE.thenN ?_
  refine GC.seq ?_
  refine GC.region ?_
  refine GL.val (v := (.int .u32 s)) (Ex.move rfl) (by decide) ?_
  refine GL.step (Stp.callR (σ := Unit) (p := fun rz => True) (v := fun rz => (.tuple #[(.int .i64 ((Bt.prts s).1)), (.int .i64 ((Bt.prts s).2.1)), (.bool ((Bt.prts s).2.2))])) (N := fun rz => []) (vs := [(.int .u32 s)]) rfl rfl T.own11 (by decide) (fun wc hw => parts_p s wc (by first | assumption | omega))) (fun xq4 hq5 => ?_)
  refine GL.val (v := (.tuple #[(.int .i64 ((Bt.prts s).1)), (.int .i64 ((Bt.prts s).2.1)), (.bool ((Bt.prts s).2.2))])) (Ex.move rfl) (by decide) ?_
  refine GL.val (v := (.int .i64 ((Bt.prts s).1))) (Ex.extract rfl rfl) (by decide) ?_
  refine GL.val (v := (.int .i64 ((Bt.prts s).2.1))) (Ex.extract rfl rfl) (by decide) ?_
  refine GL.val (v := (.bool ((Bt.prts s).2.2))) (Ex.extract rfl rfl) (by decide) ?_
  refine GL.val (v := (.int .i64 ((Bt.prts s).1))) (Ex.assign rfl) (by decide) ?_
  refine GL.val (v := (.int .i64 ((Bt.prts s).2.1))) (Ex.assign rfl) (by decide) ?_
  refine GL.val (v := (.bool ((Bt.prts s).2.2))) (Ex.assign rfl) (by decide) ?_
  refine GL.nil ?_
  refine GE.thenN ?_
  refine GC.seq ?_
  refine GC.region ?_
  refine GL.val (v := (.int .u32 s)) (Ex.move rfl) (by decide) ?_
  refine GL.step (Stp.callR (σ := Unit) (p := fun rz => True) (v := fun rz => (.tuple #[(.int .i64 ((Bt.prts s).1)), (.int .i64 ((Bt.prts s).2.1)), (.bool ((Bt.prts s).2.2))])) (N := fun rz => []) (vs := [(.int .u32 s)]) rfl rfl T.own12 (by decide) (fun wc hw => parts_r s wc (by first | assumption | omega))) (fun xq6 hq7 => ?_)
  refine GL.val (v := (.tuple #[(.int .i64 ((Bt.prts s).1)), (.int .i64 ((Bt.prts s).2.1)), (.bool ((Bt.prts s).2.2))])) (Ex.move rfl) (by decide) ?_
  refine GL.val (v := (.int .i64 ((Bt.prts s).1))) (Ex.extract rfl rfl) (by decide) ?_
  refine GL.val (v := (.int .i64 ((Bt.prts s).2.1))) (Ex.extract rfl rfl) (by decide) ?_
  refine GL.val (v := (.bool ((Bt.prts s).2.2))) (Ex.extract rfl rfl) (by decide) ?_
  refine GL.val (v := (.int .i64 ((Bt.prts s).1))) (Ex.assign rfl) (by decide) ?_
  refine GL.val (v := (.int .i64 ((Bt.prts s).2.1))) (Ex.assign rfl) (by decide) ?_
  refine GL.val (v := (.bool ((Bt.prts s).2.2))) (Ex.assign rfl) (by decide) ?_
  refine GL.nil ?_
  refine GE.thenN ?_
  refine GC.seq ?_
  refine GC.region ?_
  refine GL.val (v := (.int .i64 n)) (Ex.move rfl) (by decide) ?_
  refine GL.val (v := (.int .i64 e)) (Ex.move rfl) (by decide) ?_
  refine GL.step (Stp.callR (σ := Int × Bool) (p := fun rz => Bt.FP n e rz.1 rz.2) (v := fun rz => (.tuple #[(.int .u32 rz.1), (.bool rz.2)])) (N := fun rz => []) (vs := [(.int .i64 n), (.int .i64 e)]) rfl rfl T.own13 (by decide) (fun wc hw => fp_p n e wc (by omega) (by omega))) (fun xq8 hq9 => ?_)
  refine GL.val (v := (.tuple #[(.int .u32 xq8.1), (.bool xq8.2)])) (Ex.move rfl) (by decide) ?_
  refine GL.val (v := (.int .u32 xq8.1)) (Ex.extract rfl rfl) (by decide) ?_
  refine GL.val (v := (.bool xq8.2)) (Ex.extract rfl rfl) (by decide) ?_
  refine GL.val (v := (.int .u32 xq8.1)) (Ex.assign rfl) (by decide) ?_
  refine GL.val (v := (.bool xq8.2)) (Ex.assign rfl) (by decide) ?_
  refine GL.nil ?_
  refine GE.thenN ?_
  refine GC.seq ?_
  refine GC.region ?_
  refine GL.val (v := (.int .i64 n)) (Ex.move rfl) (by decide) ?_
  refine GL.val (v := (.int .i64 e)) (Ex.move rfl) (by decide) ?_
  refine GL.step (Stp.callR (σ := Int × Bool) (p := fun rz => Bt.FP n e rz.1 rz.2) (v := fun rz => (.tuple #[(.int .u32 rz.1), (.bool rz.2)])) (N := fun rz => []) (vs := [(.int .i64 n), (.int .i64 e)]) rfl rfl T.own14 (by decide) (fun wc hw => fp_r n e wc (by omega) (by omega))) (fun xq10 hq11 => ?_)
  refine GL.val (v := (.tuple #[(.int .u32 xq10.1), (.bool xq10.2)])) (Ex.move rfl) (by decide) ?_
  refine GL.val (v := (.int .u32 xq10.1)) (Ex.extract rfl rfl) (by decide) ?_
  refine GL.val (v := (.bool xq10.2)) (Ex.extract rfl rfl) (by decide) ?_
  refine GL.val (v := (.int .u32 xq10.1)) (Ex.assign rfl) (by decide) ?_
  refine GL.val (v := (.bool xq10.2)) (Ex.assign rfl) (by decide) ?_
  refine GL.nil ?_
  refine GE.thenN ?_
  refine GC.seq ?_
  refine GC.region ?_
  refine GL.val (v := (.int .u32 s)) (Ex.move rfl) (by decide) ?_
  refine GL.step (Stp.callR (σ := Unit) (p := fun rz => True) (v := fun rz => (.int .i64 (Bt.cls s))) (N := fun rz => []) (vs := [(.int .u32 s)]) rfl rfl T.own15 (by decide) (fun wc hw => cls_p s wc (by first | assumption | omega))) (fun xq12 hq13 => ?_)
  refine GL.val (v := (.int .u32 s)) (Ex.move rfl) (by decide) ?_
  refine GL.step (Stp.callR (σ := Unit) (p := fun rz => True) (v := fun rz => (.int .i64 (Bt.cls s))) (N := fun rz => []) (vs := [(.int .u32 s)]) rfl rfl T.own16 (by decide) (fun wc hw => cls_r s wc (by first | assumption | omega))) (fun xq14 hq15 => ?_)
  refine GL.val (v := (.bool true)) (Ex.cast (Ex.eql rfl rfl) (congrArg Value.bool (decide_eq_true (by simp)))) (by decide) ?_
  refine GL.val (v := (.bool true)) (Ex.move rfl) (by decide) ?_
  refine GL.stepG (tj := 48) rfl rfl (Ex.wp (v := (.int .u32 s)) (Ex.move rfl) (by decide)) (fun _ _ => ?_)
  refine GL.stepG (tj := 48) rfl rfl (Stp.callR (σ := Unit) (p := fun rz => True) (v := fun rz => (.bool (decide (Bt.cls s = 1)))) (N := fun rz => []) (vs := [(.int .u32 s)]) rfl rfl T.own17 (by decide) (fun wc hw => nan_p s wc (by first | assumption | omega))) (fun xq16 hq17 => ?_)
  refine GL.stepG (tj := 48) rfl rfl (Ex.wp (v := (.int .u32 s)) (Ex.move rfl) (by decide)) (fun _ _ => ?_)
  refine GL.stepG (tj := 48) rfl rfl (Stp.callR (σ := Unit) (p := fun rz => True) (v := fun rz => (.bool (decide (Bt.cls s = 1)))) (N := fun rz => []) (vs := [(.int .u32 s)]) rfl rfl T.own18 (by decide) (fun wc hw => nan_r s wc (by first | assumption | omega))) (fun xq18 hq19 => ?_)
  refine GL.stepG (tj := 48) rfl rfl (Ex.wp (v := (.bool true)) (Ex.cast (Ex.eqlB rfl rfl Try.underlying4) (by simp)) (by decide)) (fun _ _ => ?_)
  refine GL.val (v := (.bool true)) (Ex.pickT rfl rfl) (by decide) ?_
  refine GL.val (v := (.bool true)) (Ex.move rfl) (by decide) ?_
  refine GL.stepG (tj := 55) rfl rfl (Ex.wp (v := (.int .u32 s)) (Ex.move rfl) (by decide)) (fun _ _ => ?_)
  refine GL.stepG (tj := 55) rfl rfl (Stp.callR (σ := Unit) (p := fun rz => True) (v := fun rz => (.int .u32 (Bt.mde s))) (N := fun rz => []) (vs := [(.int .u32 s)]) rfl rfl T.own19 (by decide) (fun wc hw => made_p s wc (by first | assumption | omega))) (fun xq20 hq21 => ?_)
  refine GL.stepG (tj := 55) rfl rfl (Ex.wp (v := (.int .u32 s)) (Ex.move rfl) (by decide)) (fun _ _ => ?_)
  refine GL.stepG (tj := 55) rfl rfl (Stp.callR (σ := Unit) (p := fun rz => True) (v := fun rz => (.int .u32 (Bt.mde s))) (N := fun rz => []) (vs := [(.int .u32 s)]) rfl rfl T.own20 (by decide) (fun wc hw => made_r s wc (by first | assumption | omega))) (fun xq22 hq23 => ?_)
  refine GL.stepG (tj := 55) rfl rfl (Ex.wp (v := (.bool true)) (Ex.cast (Ex.eql rfl rfl) (congrArg Value.bool (decide_eq_true (by simp)))) (by decide)) (fun _ _ => ?_)
  refine GL.val (v := (.bool true)) (Ex.pickT rfl rfl) (by decide) ?_
  refine GL.val (v := (.bool true)) (Ex.move rfl) (by decide) ?_
  refine GL.stepG (tj := 62) rfl rfl (Ex.wp (v := (.int .i64 ((Bt.prts s).1))) (Ex.move rfl) (by decide)) (fun _ _ => ?_)
  refine GL.stepG (tj := 62) rfl rfl (Ex.wp (v := (.int .i64 ((Bt.prts s).1))) (Ex.move rfl) (by decide)) (fun _ _ => ?_)
  refine GL.stepG (tj := 62) rfl rfl (Ex.wp (v := (.bool true)) (Ex.cast (Ex.eql rfl rfl) (congrArg Value.bool (decide_eq_true (by simp)))) (by decide)) (fun _ _ => ?_)
  refine GL.val (v := (.bool true)) (Ex.pickT rfl rfl) (by decide) ?_
  refine GL.val (v := (.bool true)) (Ex.move rfl) (by decide) ?_
  refine GL.stepG (tj := 67) rfl rfl (Ex.wp (v := (.int .i64 ((Bt.prts s).2.1))) (Ex.move rfl) (by decide)) (fun _ _ => ?_)
  refine GL.stepG (tj := 67) rfl rfl (Ex.wp (v := (.int .i64 ((Bt.prts s).2.1))) (Ex.move rfl) (by decide)) (fun _ _ => ?_)
  refine GL.stepG (tj := 67) rfl rfl (Ex.wp (v := (.bool true)) (Ex.cast (Ex.eql rfl rfl) (congrArg Value.bool (decide_eq_true (by simp)))) (by decide)) (fun _ _ => ?_)
  refine GL.val (v := (.bool true)) (Ex.pickT rfl rfl) (by decide) ?_
  refine GL.val (v := (.bool true)) (Ex.move rfl) (by decide) ?_
  refine GL.stepG (tj := 72) rfl rfl (Ex.wp (v := (.bool ((Bt.prts s).2.2))) (Ex.move rfl) (by decide)) (fun _ _ => ?_)
  refine GL.stepG (tj := 72) rfl rfl (Ex.wp (v := (.bool ((Bt.prts s).2.2))) (Ex.move rfl) (by decide)) (fun _ _ => ?_)
  refine GL.stepG (tj := 72) rfl rfl (Ex.wp (v := (.bool true)) (Ex.cast (Ex.eqlB rfl rfl Try.underlying4) (by simp)) (by decide)) (fun _ _ => ?_)
  refine GL.val (v := (.bool true)) (Ex.pickT rfl rfl) (by decide) ?_
  refine GL.val (v := (.bool true)) (Ex.move rfl) (by decide) ?_
  refine GL.stepG (tj := 77) rfl rfl (Ex.wp (v := (.int .u32 xq8.1)) (Ex.move rfl) (by decide)) (fun _ _ => ?_)
  refine GL.stepG (tj := 77) rfl rfl (Ex.wp (v := (.int .u32 xq10.1)) (Ex.move rfl) (by decide)) (fun _ _ => ?_)
  refine GL.stepG (tj := 77) rfl rfl (Ex.wp (v := (.bool true)) (Ex.cast (Ex.eql rfl rfl) (congrArg Value.bool (decide_eq_true (by exact (hq9.uniq hq11).1)))) (by decide)) (fun _ _ => ?_)
  refine GL.val (v := (.bool true)) (Ex.pickT rfl rfl) (by decide) ?_
  refine GL.val (v := (.bool true)) (Ex.move rfl) (by decide) ?_
  refine GL.stepG (tj := 82) rfl rfl (Ex.wp (v := (.bool xq8.2)) (Ex.move rfl) (by decide)) (fun _ _ => ?_)
  refine GL.stepG (tj := 82) rfl rfl (Ex.wp (v := (.bool xq10.2)) (Ex.move rfl) (by decide)) (fun _ _ => ?_)
  refine GL.stepG (tj := 82) rfl rfl (Ex.wp (v := (.bool true)) (Ex.cast (Ex.eqlB rfl rfl Try.underlying4) (by rw [(hq9.uniq hq11).2]; simp)) (by decide)) (fun _ _ => ?_)
  refine GL.val (v := (.bool true)) (Ex.pickT rfl rfl) (by decide) ?_
  refine GL.val (v := (.bool true)) (Ex.assign rfl) (by decide) ?_
  refine GL.nil ?_
  refine GE.thenN ?_
  refine GC.ret ?_
  refine GC.ret1 rfl (Rv.tmp rfl) (fun wN HN => ?_)
  exact HN.ret () trivial rfl (List.nil_sublist _) rfl

set_option maxRecDepth 100000 in
set_option maxHeartbeats 1000000 in
theorem lawKeys (a b : Int) (w : World) (ha : 0 ≤ a ∧ a < 4294967296) (hb : 0 ≤ b ∧ b < 4294967296) :
    Calls Try.prog 5 #[(.int .u32 a), (.int .u32 b)] w (Ret w (fun _ : Unit => True) (fun _ => .bool true) (fun _ => [])) := by
  refine enter (M := None) (L := []) (n := 85) (l := [(0, (.int .u32 a)), (1, (.int .u32 b))]) Try.func5 rfl rfl (Args.cons rfl (Args.cons rfl (Args.nil _))) (Hp.start _ _) ?_
  refine GC.seq ?_
  refine GC.region ?_
  refine GL.val (v := (.bool false)) (Ex.assign rfl) (by decide) ?_
  refine GL.nil ?_
  refine GE.thenN ?_
  refine GC.seq ?_
  refine GC.seq ?_
  refine GC.region ?_
  refine GL.step (Stp.callR (σ := Unit) (p := fun rz => True) (v := fun rz => (.bool true)) (N := fun rz => []) (vs := []) rfl rfl T.own10 (by decide) (fun wc hw => known wc)) (fun xq1 hq2 => ?_)
  refine GL.val (v := (.bool false)) (Ex.cast (Ex.not rfl) rfl) (by decide) ?_
  refine GL.nil ?_
  refine GE.thenN ?_
  refine GC.cond rfl (fun hq3 => by cases hq3) (fun _ => ?_)
  refine GC.skip ?_
  refine GE.thenN ?_
  refine GC.seq ?_
  refine GC.region ?_
  refine GL.val (v := (.int .u32 a)) (Ex.move rfl) (by decide) ?_
  refine GL.step (Stp.callR (σ := Unit) (p := fun rz => True) (v := fun rz => (.tuple #[(.int .u32 ((Bt.nxt a).1)), (.bool ((Bt.nxt a).2))])) (N := fun rz => []) (vs := [(.int .u32 a)]) rfl rfl T.own21 (by decide) (fun wc hw => next_p a wc (by first | assumption | omega))) (fun xq4 hq5 => ?_)
  refine GL.val (v := (.tuple #[(.int .u32 ((Bt.nxt a).1)), (.bool ((Bt.nxt a).2))])) (Ex.move rfl) (by decide) ?_
  refine GL.val (v := (.int .u32 ((Bt.nxt a).1))) (Ex.extract rfl rfl) (by decide) ?_
  refine GL.val (v := (.bool ((Bt.nxt a).2))) (Ex.extract rfl rfl) (by decide) ?_
  refine GL.val (v := (.int .u32 ((Bt.nxt a).1))) (Ex.assign rfl) (by decide) ?_
  refine GL.val (v := (.bool ((Bt.nxt a).2))) (Ex.assign rfl) (by decide) ?_
  refine GL.nil ?_
  refine GE.thenN ?_
  refine GC.seq ?_
  refine GC.region ?_
  refine GL.val (v := (.int .u32 a)) (Ex.move rfl) (by decide) ?_
  refine GL.step (Stp.callR (σ := Unit) (p := fun rz => True) (v := fun rz => (.tuple #[(.int .u32 ((Bt.nxt a).1)), (.bool ((Bt.nxt a).2))])) (N := fun rz => []) (vs := [(.int .u32 a)]) rfl rfl T.own22 (by decide) (fun wc hw => next_r a wc (by first | assumption | omega))) (fun xq6 hq7 => ?_)
  refine GL.val (v := (.tuple #[(.int .u32 ((Bt.nxt a).1)), (.bool ((Bt.nxt a).2))])) (Ex.move rfl) (by decide) ?_
  refine GL.val (v := (.int .u32 ((Bt.nxt a).1))) (Ex.extract rfl rfl) (by decide) ?_
  refine GL.val (v := (.bool ((Bt.nxt a).2))) (Ex.extract rfl rfl) (by decide) ?_
  refine GL.val (v := (.int .u32 ((Bt.nxt a).1))) (Ex.assign rfl) (by decide) ?_
  refine GL.val (v := (.bool ((Bt.nxt a).2))) (Ex.assign rfl) (by decide) ?_
  refine GL.nil ?_
  refine GE.thenN ?_
  refine GC.seq ?_
  refine GC.region ?_
  refine GL.val (v := (.int .u32 a)) (Ex.move rfl) (by decide) ?_
  refine GL.step (Stp.callR (σ := Unit) (p := fun rz => True) (v := fun rz => (.tuple #[(.int .u32 ((Bt.prv a).1)), (.bool ((Bt.prv a).2))])) (N := fun rz => []) (vs := [(.int .u32 a)]) rfl rfl T.own23 (by decide) (fun wc hw => prev_p a wc (by first | assumption | omega))) (fun xq8 hq9 => ?_)
  refine GL.val (v := (.tuple #[(.int .u32 ((Bt.prv a).1)), (.bool ((Bt.prv a).2))])) (Ex.move rfl) (by decide) ?_
  refine GL.val (v := (.int .u32 ((Bt.prv a).1))) (Ex.extract rfl rfl) (by decide) ?_
  refine GL.val (v := (.bool ((Bt.prv a).2))) (Ex.extract rfl rfl) (by decide) ?_
  refine GL.val (v := (.int .u32 ((Bt.prv a).1))) (Ex.assign rfl) (by decide) ?_
  refine GL.val (v := (.bool ((Bt.prv a).2))) (Ex.assign rfl) (by decide) ?_
  refine GL.nil ?_
  refine GE.thenN ?_
  refine GC.seq ?_
  refine GC.region ?_
  refine GL.val (v := (.int .u32 a)) (Ex.move rfl) (by decide) ?_
  refine GL.step (Stp.callR (σ := Unit) (p := fun rz => True) (v := fun rz => (.tuple #[(.int .u32 ((Bt.prv a).1)), (.bool ((Bt.prv a).2))])) (N := fun rz => []) (vs := [(.int .u32 a)]) rfl rfl T.own24 (by decide) (fun wc hw => prev_r a wc (by first | assumption | omega))) (fun xq10 hq11 => ?_)
  refine GL.val (v := (.tuple #[(.int .u32 ((Bt.prv a).1)), (.bool ((Bt.prv a).2))])) (Ex.move rfl) (by decide) ?_
  refine GL.val (v := (.int .u32 ((Bt.prv a).1))) (Ex.extract rfl rfl) (by decide) ?_
  refine GL.val (v := (.bool ((Bt.prv a).2))) (Ex.extract rfl rfl) (by decide) ?_
  refine GL.val (v := (.int .u32 ((Bt.prv a).1))) (Ex.assign rfl) (by decide) ?_
  refine GL.val (v := (.bool ((Bt.prv a).2))) (Ex.assign rfl) (by decide) ?_
  refine GL.nil ?_
  refine GE.thenN ?_
  refine GC.seq ?_
  refine GC.region ?_
  refine GL.val (v := (.int .u32 a)) (Ex.move rfl) (by decide) ?_
  refine GL.step (Stp.callR (σ := Unit) (p := fun rz => True) (v := fun rz => (.int .u32 (Bt.key a))) (N := fun rz => []) (vs := [(.int .u32 a)]) rfl rfl T.own25 (by decide) (fun wc hw => key_p a wc (by first | assumption | omega))) (fun xq12 hq13 => ?_)
  refine GL.val (v := (.int .u32 a)) (Ex.move rfl) (by decide) ?_
  refine GL.step (Stp.callR (σ := Unit) (p := fun rz => True) (v := fun rz => (.int .u32 (Bt.key a))) (N := fun rz => []) (vs := [(.int .u32 a)]) rfl rfl T.own26 (by decide) (fun wc hw => key_r a wc (by first | assumption | omega))) (fun xq14 hq15 => ?_)
  refine GL.val (v := (.bool true)) (Ex.cast (Ex.eql rfl rfl) (congrArg Value.bool (decide_eq_true (by simp)))) (by decide) ?_
  refine GL.val (v := (.bool true)) (Ex.move rfl) (by decide) ?_
  refine GL.stepG (tj := 40) rfl rfl (Ex.wp (v := (.int .u32 a)) (Ex.move rfl) (by decide)) (fun _ _ => ?_)
  refine GL.stepG (tj := 40) rfl rfl (Stp.callR (σ := Unit) (p := fun rz => True) (v := fun rz => (.int .u32 (Bt.unkey a))) (N := fun rz => []) (vs := [(.int .u32 a)]) rfl rfl T.own27 (by decide) (fun wc hw => unkey_p a wc (by first | assumption | omega))) (fun xq16 hq17 => ?_)
  refine GL.stepG (tj := 40) rfl rfl (Ex.wp (v := (.int .u32 a)) (Ex.move rfl) (by decide)) (fun _ _ => ?_)
  refine GL.stepG (tj := 40) rfl rfl (Stp.callR (σ := Unit) (p := fun rz => True) (v := fun rz => (.int .u32 (Bt.unkey a))) (N := fun rz => []) (vs := [(.int .u32 a)]) rfl rfl T.own28 (by decide) (fun wc hw => unkey_r a wc (by first | assumption | omega))) (fun xq18 hq19 => ?_)
  refine GL.stepG (tj := 40) rfl rfl (Ex.wp (v := (.bool true)) (Ex.cast (Ex.eql rfl rfl) (congrArg Value.bool (decide_eq_true (by simp)))) (by decide)) (fun _ _ => ?_)
  refine GL.val (v := (.bool true)) (Ex.pickT rfl rfl) (by decide) ?_
  refine GL.val (v := (.bool true)) (Ex.move rfl) (by decide) ?_
  refine GL.stepG (tj := 47) rfl rfl (Ex.wp (v := (.int .u32 ((Bt.nxt a).1))) (Ex.move rfl) (by decide)) (fun _ _ => ?_)
  refine GL.stepG (tj := 47) rfl rfl (Ex.wp (v := (.int .u32 ((Bt.nxt a).1))) (Ex.move rfl) (by decide)) (fun _ _ => ?_)
  refine GL.stepG (tj := 47) rfl rfl (Ex.wp (v := (.bool true)) (Ex.cast (Ex.eql rfl rfl) (congrArg Value.bool (decide_eq_true (by simp)))) (by decide)) (fun _ _ => ?_)
  refine GL.val (v := (.bool true)) (Ex.pickT rfl rfl) (by decide) ?_
  refine GL.val (v := (.bool true)) (Ex.move rfl) (by decide) ?_
  refine GL.stepG (tj := 52) rfl rfl (Ex.wp (v := (.bool ((Bt.nxt a).2))) (Ex.move rfl) (by decide)) (fun _ _ => ?_)
  refine GL.stepG (tj := 52) rfl rfl (Ex.wp (v := (.bool ((Bt.nxt a).2))) (Ex.move rfl) (by decide)) (fun _ _ => ?_)
  refine GL.stepG (tj := 52) rfl rfl (Ex.wp (v := (.bool true)) (Ex.cast (Ex.eqlB rfl rfl Try.underlying4) (by simp)) (by decide)) (fun _ _ => ?_)
  refine GL.val (v := (.bool true)) (Ex.pickT rfl rfl) (by decide) ?_
  refine GL.val (v := (.bool true)) (Ex.move rfl) (by decide) ?_
  refine GL.stepG (tj := 57) rfl rfl (Ex.wp (v := (.int .u32 ((Bt.prv a).1))) (Ex.move rfl) (by decide)) (fun _ _ => ?_)
  refine GL.stepG (tj := 57) rfl rfl (Ex.wp (v := (.int .u32 ((Bt.prv a).1))) (Ex.move rfl) (by decide)) (fun _ _ => ?_)
  refine GL.stepG (tj := 57) rfl rfl (Ex.wp (v := (.bool true)) (Ex.cast (Ex.eql rfl rfl) (congrArg Value.bool (decide_eq_true (by simp)))) (by decide)) (fun _ _ => ?_)
  refine GL.val (v := (.bool true)) (Ex.pickT rfl rfl) (by decide) ?_
  refine GL.val (v := (.bool true)) (Ex.move rfl) (by decide) ?_
  refine GL.stepG (tj := 62) rfl rfl (Ex.wp (v := (.bool ((Bt.prv a).2))) (Ex.move rfl) (by decide)) (fun _ _ => ?_)
  refine GL.stepG (tj := 62) rfl rfl (Ex.wp (v := (.bool ((Bt.prv a).2))) (Ex.move rfl) (by decide)) (fun _ _ => ?_)
  refine GL.stepG (tj := 62) rfl rfl (Ex.wp (v := (.bool true)) (Ex.cast (Ex.eqlB rfl rfl Try.underlying4) (by simp)) (by decide)) (fun _ _ => ?_)
  refine GL.val (v := (.bool true)) (Ex.pickT rfl rfl) (by decide) ?_
  refine GL.val (v := (.bool true)) (Ex.move rfl) (by decide) ?_
  refine GL.stepG (tj := 67) rfl rfl (Ex.wp (v := (.int .u32 a)) (Ex.move rfl) (by decide)) (fun _ _ => ?_)
  refine GL.stepG (tj := 67) rfl rfl (Ex.wp (v := (.int .u32 b)) (Ex.move rfl) (by decide)) (fun _ _ => ?_)
  refine GL.stepG (tj := 67) rfl rfl (Stp.callR (σ := Unit) (p := fun rz => True) (v := fun rz => (.int .i64 (Bt.key b - Bt.key a))) (N := fun rz => []) (vs := [(.int .u32 a), (.int .u32 b)]) rfl rfl T.own29 (by decide) (fun wc hw => apart_p a b wc (by first | assumption | omega) (by first | assumption | omega))) (fun xq20 hq21 => ?_)
  refine GL.stepG (tj := 67) rfl rfl (Ex.wp (v := (.int .u32 a)) (Ex.move rfl) (by decide)) (fun _ _ => ?_)
  refine GL.stepG (tj := 67) rfl rfl (Ex.wp (v := (.int .u32 b)) (Ex.move rfl) (by decide)) (fun _ _ => ?_)
  refine GL.stepG (tj := 67) rfl rfl (Stp.callR (σ := Unit) (p := fun rz => True) (v := fun rz => (.int .i64 (Bt.key b - Bt.key a))) (N := fun rz => []) (vs := [(.int .u32 a), (.int .u32 b)]) rfl rfl T.own30 (by decide) (fun wc hw => apart_r a b wc (by first | assumption | omega) (by first | assumption | omega))) (fun xq22 hq23 => ?_)
  refine GL.stepG (tj := 67) rfl rfl (Ex.wp (v := (.bool true)) (Ex.cast (Ex.eql rfl rfl) (congrArg Value.bool (decide_eq_true (by simp)))) (by decide)) (fun _ _ => ?_)
  refine GL.val (v := (.bool true)) (Ex.pickT rfl rfl) (by decide) ?_
  refine GL.val (v := (.bool true)) (Ex.move rfl) (by decide) ?_
  refine GL.stepG (tj := 76) rfl rfl (Ex.wp (v := (.int .u32 a)) (Ex.move rfl) (by decide)) (fun _ _ => ?_)
  refine GL.stepG (tj := 76) rfl rfl (Ex.wp (v := (.int .u32 b)) (Ex.move rfl) (by decide)) (fun _ _ => ?_)
  refine GL.stepG (tj := 76) rfl rfl (Stp.callR (σ := Unit) (p := fun rz => True) (v := fun rz => (.bool (decide (Bt.key a < Bt.key b)))) (N := fun rz => []) (vs := [(.int .u32 a), (.int .u32 b)]) rfl rfl T.own31 (by decide) (fun wc hw => before_p a b wc (by first | assumption | omega) (by first | assumption | omega))) (fun xq24 hq25 => ?_)
  refine GL.stepG (tj := 76) rfl rfl (Ex.wp (v := (.int .u32 a)) (Ex.move rfl) (by decide)) (fun _ _ => ?_)
  refine GL.stepG (tj := 76) rfl rfl (Ex.wp (v := (.int .u32 b)) (Ex.move rfl) (by decide)) (fun _ _ => ?_)
  refine GL.stepG (tj := 76) rfl rfl (Stp.callR (σ := Unit) (p := fun rz => True) (v := fun rz => (.bool (decide (Bt.key a < Bt.key b)))) (N := fun rz => []) (vs := [(.int .u32 a), (.int .u32 b)]) rfl rfl T.own32 (by decide) (fun wc hw => before_r a b wc (by first | assumption | omega) (by first | assumption | omega))) (fun xq26 hq27 => ?_)
  refine GL.stepG (tj := 76) rfl rfl (Ex.wp (v := (.bool true)) (Ex.cast (Ex.eqlB rfl rfl Try.underlying4) (by simp)) (by decide)) (fun _ _ => ?_)
  refine GL.val (v := (.bool true)) (Ex.pickT rfl rfl) (by decide) ?_
  refine GL.val (v := (.bool true)) (Ex.assign rfl) (by decide) ?_
  refine GL.nil ?_
  refine GE.thenN ?_
  refine GC.ret ?_
  refine GC.ret1 rfl (Rv.tmp rfl) (fun wN HN => ?_)
  exact HN.ret () trivial rfl (List.nil_sublist _) rfl

set_option maxRecDepth 100000 in
set_option maxHeartbeats 1000000 in
theorem lawChosen (a b c : Int) (w : World) (ha : 0 ≤ a ∧ a < 4294967296) (hb : 0 ≤ b ∧ b < 4294967296) (hc : 0 ≤ c ∧ c < 4294967296) :
    Calls Try.prog 7 #[(.int .u32 a), (.int .u32 b), (.int .u32 c)] w (Ret w (fun _ : Unit => True) (fun _ => .bool true) (fun _ => [])) := by
  refine enter (M := None) (L := []) (n := 47) (l := [(0, (.int .u32 a)), (1, (.int .u32 b)), (2, (.int .u32 c))]) Try.func7 rfl rfl (Args.cons rfl (Args.cons rfl (Args.cons rfl (Args.nil _)))) (Hp.start _ _) ?_
  refine GC.seq ?_
  refine GC.region ?_
  refine GL.val (v := (.bool false)) (Ex.assign rfl) (by decide) ?_
  refine GL.nil ?_
  refine GE.thenN ?_
  refine GC.seq ?_
  refine GC.seq ?_
  refine GC.region ?_
  refine GL.step (Stp.callR (σ := Unit) (p := fun rz => True) (v := fun rz => (.bool true)) (N := fun rz => []) (vs := []) rfl rfl T.own10 (by decide) (fun wc hw => known wc)) (fun xq1 hq2 => ?_)
  refine GL.val (v := (.bool false)) (Ex.cast (Ex.not rfl) rfl) (by decide) ?_
  refine GL.nil ?_
  refine GE.thenN ?_
  refine GC.cond rfl (fun hq3 => by cases hq3) (fun _ => ?_)
  refine GC.skip ?_
  refine GE.thenN ?_
  refine GC.seq ?_
  refine GC.region ?_
  refine GL.val (v := (.int .u32 a)) (Ex.move rfl) (by decide) ?_
  refine GL.val (v := (.int .u32 b)) (Ex.move rfl) (by decide) ?_
  refine GL.step (Stp.callR (σ := Unit) (p := fun rz => True) (v := fun rz => (.int .u32 (Bt.lst a b))) (N := fun rz => []) (vs := [(.int .u32 a), (.int .u32 b)]) rfl rfl T.own34 (by decide) (fun wc hw => least_p a b wc (by first | assumption | omega) (by first | assumption | omega))) (fun xq4 hq5 => ?_)
  refine GL.val (v := (.int .u32 a)) (Ex.move rfl) (by decide) ?_
  refine GL.val (v := (.int .u32 b)) (Ex.move rfl) (by decide) ?_
  refine GL.step (Stp.callR (σ := Unit) (p := fun rz => True) (v := fun rz => (.int .u32 (Bt.lst a b))) (N := fun rz => []) (vs := [(.int .u32 a), (.int .u32 b)]) rfl rfl T.own35 (by decide) (fun wc hw => least_r a b wc (by first | assumption | omega) (by first | assumption | omega))) (fun xq6 hq7 => ?_)
  refine GL.val (v := (.bool true)) (Ex.cast (Ex.eql rfl rfl) (congrArg Value.bool (decide_eq_true (by simp)))) (by decide) ?_
  refine GL.val (v := (.bool true)) (Ex.move rfl) (by decide) ?_
  refine GL.stepG (tj := 16) rfl rfl (Ex.wp (v := (.int .u32 a)) (Ex.move rfl) (by decide)) (fun _ _ => ?_)
  refine GL.stepG (tj := 16) rfl rfl (Ex.wp (v := (.int .u32 b)) (Ex.move rfl) (by decide)) (fun _ _ => ?_)
  refine GL.stepG (tj := 16) rfl rfl (Stp.callR (σ := Unit) (p := fun rz => True) (v := fun rz => (.int .u32 (Bt.gst a b))) (N := fun rz => []) (vs := [(.int .u32 a), (.int .u32 b)]) rfl rfl T.own36 (by decide) (fun wc hw => greatest_p a b wc (by first | assumption | omega) (by first | assumption | omega))) (fun xq8 hq9 => ?_)
  refine GL.stepG (tj := 16) rfl rfl (Ex.wp (v := (.int .u32 a)) (Ex.move rfl) (by decide)) (fun _ _ => ?_)
  refine GL.stepG (tj := 16) rfl rfl (Ex.wp (v := (.int .u32 b)) (Ex.move rfl) (by decide)) (fun _ _ => ?_)
  refine GL.stepG (tj := 16) rfl rfl (Stp.callR (σ := Unit) (p := fun rz => True) (v := fun rz => (.int .u32 (Bt.gst a b))) (N := fun rz => []) (vs := [(.int .u32 a), (.int .u32 b)]) rfl rfl T.own37 (by decide) (fun wc hw => greatest_r a b wc (by first | assumption | omega) (by first | assumption | omega))) (fun xq10 hq11 => ?_)
  refine GL.stepG (tj := 16) rfl rfl (Ex.wp (v := (.bool true)) (Ex.cast (Ex.eql rfl rfl) (congrArg Value.bool (decide_eq_true (by simp)))) (by decide)) (fun _ _ => ?_)
  refine GL.val (v := (.bool true)) (Ex.pickT rfl rfl) (by decide) ?_
  refine GL.val (v := (.bool true)) (Ex.move rfl) (by decide) ?_
  refine GL.stepG (tj := 25) rfl rfl (Ex.wp (v := (.int .u32 a)) (Ex.move rfl) (by decide)) (fun _ _ => ?_)
  refine GL.stepG (tj := 25) rfl rfl (Ex.wp (v := (.int .u32 b)) (Ex.move rfl) (by decide)) (fun _ _ => ?_)
  refine GL.stepG (tj := 25) rfl rfl (Ex.wp (v := (.int .u32 c)) (Ex.move rfl) (by decide)) (fun _ _ => ?_)
  refine GL.stepG (tj := 25) rfl rfl (Stp.callR (σ := Unit) (p := fun rz => True) (v := fun rz => (.int .u32 (Bt.med a b c))) (N := fun rz => []) (vs := [(.int .u32 a), (.int .u32 b), (.int .u32 c)]) rfl rfl T.own38 (by decide) (fun wc hw => median_p a b c wc (by first | assumption | omega) (by first | assumption | omega) (by first | assumption | omega))) (fun xq12 hq13 => ?_)
  refine GL.stepG (tj := 25) rfl rfl (Ex.wp (v := (.int .u32 a)) (Ex.move rfl) (by decide)) (fun _ _ => ?_)
  refine GL.stepG (tj := 25) rfl rfl (Ex.wp (v := (.int .u32 b)) (Ex.move rfl) (by decide)) (fun _ _ => ?_)
  refine GL.stepG (tj := 25) rfl rfl (Ex.wp (v := (.int .u32 c)) (Ex.move rfl) (by decide)) (fun _ _ => ?_)
  refine GL.stepG (tj := 25) rfl rfl (Stp.callR (σ := Unit) (p := fun rz => True) (v := fun rz => (.int .u32 (Bt.med a b c))) (N := fun rz => []) (vs := [(.int .u32 a), (.int .u32 b), (.int .u32 c)]) rfl rfl T.own39 (by decide) (fun wc hw => median_r a b c wc (by first | assumption | omega) (by first | assumption | omega) (by first | assumption | omega))) (fun xq14 hq15 => ?_)
  refine GL.stepG (tj := 25) rfl rfl (Ex.wp (v := (.bool true)) (Ex.cast (Ex.eql rfl rfl) (congrArg Value.bool (decide_eq_true (by simp)))) (by decide)) (fun _ _ => ?_)
  refine GL.val (v := (.bool true)) (Ex.pickT rfl rfl) (by decide) ?_
  refine GL.val (v := (.bool true)) (Ex.move rfl) (by decide) ?_
  refine GL.stepG (tj := 36) rfl rfl (Ex.wp (v := (.int .u32 a)) (Ex.move rfl) (by decide)) (fun _ _ => ?_)
  refine GL.stepG (tj := 36) rfl rfl (Ex.wp (v := (.int .u32 b)) (Ex.move rfl) (by decide)) (fun _ _ => ?_)
  refine GL.stepG (tj := 36) rfl rfl (Ex.wp (v := (.int .u32 c)) (Ex.move rfl) (by decide)) (fun _ _ => ?_)
  refine GL.stepG (tj := 36) rfl rfl (Stp.callR (σ := Unit) (p := fun rz => True) (v := fun rz => (.int .u32 (Bt.btw a b c))) (N := fun rz => []) (vs := [(.int .u32 a), (.int .u32 b), (.int .u32 c)]) rfl rfl T.own40 (by decide) (fun wc hw => btw_p a b c wc (by first | assumption | omega) (by first | assumption | omega) (by first | assumption | omega))) (fun xq16 hq17 => ?_)
  refine GL.stepG (tj := 36) rfl rfl (Ex.wp (v := (.int .u32 a)) (Ex.move rfl) (by decide)) (fun _ _ => ?_)
  refine GL.stepG (tj := 36) rfl rfl (Ex.wp (v := (.int .u32 b)) (Ex.move rfl) (by decide)) (fun _ _ => ?_)
  refine GL.stepG (tj := 36) rfl rfl (Ex.wp (v := (.int .u32 c)) (Ex.move rfl) (by decide)) (fun _ _ => ?_)
  refine GL.stepG (tj := 36) rfl rfl (Stp.callR (σ := Unit) (p := fun rz => True) (v := fun rz => (.int .u32 (Bt.btw a b c))) (N := fun rz => []) (vs := [(.int .u32 a), (.int .u32 b), (.int .u32 c)]) rfl rfl T.own41 (by decide) (fun wc hw => btw_r a b c wc (by first | assumption | omega) (by first | assumption | omega) (by first | assumption | omega))) (fun xq18 hq19 => ?_)
  refine GL.stepG (tj := 36) rfl rfl (Ex.wp (v := (.bool true)) (Ex.cast (Ex.eql rfl rfl) (congrArg Value.bool (decide_eq_true (by simp)))) (by decide)) (fun _ _ => ?_)
  refine GL.val (v := (.bool true)) (Ex.pickT rfl rfl) (by decide) ?_
  refine GL.val (v := (.bool true)) (Ex.assign rfl) (by decide) ?_
  refine GL.nil ?_
  refine GE.thenN ?_
  refine GC.ret ?_
  refine GC.ret1 rfl (Rv.tmp rfl) (fun wN HN => ?_)
  exact HN.ret () trivial rfl (List.nil_sublist _) rfl

end Go.Proofs.Ytnpmfinjommjkaa.B
