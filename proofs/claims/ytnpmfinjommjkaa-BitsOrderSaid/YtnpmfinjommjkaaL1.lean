/- Bits' laws, walked. -/
import Derived.Test.YtnpmfinjommjkaaB2
namespace Go.Proofs.Ytnpmfinjommjkaa.B
open Go Go.RowKit Sx
set_option linter.unusedVariables false
set_option maxRecDepth 100000 in
set_option maxHeartbeats 1000000 in
theorem known (w : World) :
    Calls Try.prog 10 #[] w (Ret w (fun _ : Unit => True) (fun _ => .bool true) (fun _ => [])) := by
  refine enter (M := None) (L := []) (n := 117) (l := []) Try.func10 rfl rfl (Args.nil _) (Hp.start _ _) ?_
  refine GC.seq ?_
  refine GC.region ?_
  refine GL.val (v := (.bool false)) (Ex.assign rfl) (by decide) ?_
  refine GL.nil ?_
  refine GE.thenN ?_
  refine GC.seq ?_
  refine GC.region ?_
  refine GL.step (Stp.callR (σ := Unit) (p := fun rz => True) (v := fun rz => (.tuple #[(.int .i64 8388608), (.int .i64 (-23)), (.bool true)])) (N := fun rz => []) (vs := [(.int .u32 1065353216)]) rfl rfl T.own11 (by decide) (fun wc hw => (by have h := parts_p 1065353216 wc (by omega); rw [show (Bt.prts 1065353216).1 = 8388608 from by decide, show (Bt.prts 1065353216).2.1 = -23 from by decide, show (Bt.prts 1065353216).2.2 = true from by decide] at h; exact h))) (fun xq1 hq2 => ?_)
  refine GL.val (v := (.tuple #[(.int .i64 8388608), (.int .i64 (-23)), (.bool true)])) (Ex.move rfl) (by decide) ?_
  refine GL.val (v := (.int .i64 8388608)) (Ex.extract rfl rfl) (by decide) ?_
  refine GL.val (v := (.int .i64 (-23))) (Ex.extract rfl rfl) (by decide) ?_
  refine GL.val (v := (.bool true)) (Ex.extract rfl rfl) (by decide) ?_
  refine GL.val (v := (.int .i64 8388608)) (Ex.assign rfl) (by decide) ?_
  refine GL.val (v := (.int .i64 (-23))) (Ex.assign rfl) (by decide) ?_
  refine GL.val (v := (.bool true)) (Ex.assign rfl) (by decide) ?_
  refine GL.nil ?_
  refine GE.thenN ?_
  refine GC.seq ?_
  refine GC.region ?_
  refine GL.step (Stp.callR (σ := Unit) (p := fun rz => True) (v := fun rz => (.tuple #[(.int .u32 1065353216), (.bool true)])) (N := fun rz => []) (vs := [(.int .i64 1), (.int .i64 0)]) rfl rfl T.own13 (by decide) (fun wc hw => (Calls.mono (fp_p 1 0 wc (by omega) (by omega)) (by rintro e w' ⟨x, rfl, hx, hn⟩; obtain ⟨h1, h2⟩ := hx.uniq Bt.FP.one; exact ⟨(), by dsimp only; rw [h1, h2], trivial, hn⟩)))) (fun xq3 hq4 => ?_)
  refine GL.val (v := (.tuple #[(.int .u32 1065353216), (.bool true)])) (Ex.move rfl) (by decide) ?_
  refine GL.val (v := (.int .u32 1065353216)) (Ex.extract rfl rfl) (by decide) ?_
  refine GL.val (v := (.bool true)) (Ex.extract rfl rfl) (by decide) ?_
  refine GL.val (v := (.int .u32 1065353216)) (Ex.assign rfl) (by decide) ?_
  refine GL.val (v := (.bool true)) (Ex.assign rfl) (by decide) ?_
  refine GL.nil ?_
  refine GE.thenN ?_
  refine GC.seq ?_
  refine GC.region ?_
  refine GL.step (Stp.callR (σ := Unit) (p := fun rz => True) (v := fun rz => (.tuple #[(.int .u32 0), (.bool false)])) (N := fun rz => []) (vs := [(.int .i64 1), (.int .i64 (-150))]) rfl rfl T.own13 (by decide) (fun wc hw => (Calls.mono (fp_p 1 (-150) wc (by omega) (by omega)) (by rintro e w' ⟨x, rfl, hx, hn⟩; obtain ⟨h1, h2⟩ := hx.uniq Bt.FP.low; exact ⟨(), by dsimp only; rw [h1, h2], trivial, hn⟩)))) (fun xq5 hq6 => ?_)
  refine GL.val (v := (.tuple #[(.int .u32 0), (.bool false)])) (Ex.move rfl) (by decide) ?_
  refine GL.val (v := (.int .u32 0)) (Ex.extract rfl rfl) (by decide) ?_
  refine GL.val (v := (.bool false)) (Ex.extract rfl rfl) (by decide) ?_
  refine GL.val (v := (.int .u32 0)) (Ex.assign rfl) (by decide) ?_
  refine GL.val (v := (.bool false)) (Ex.assign rfl) (by decide) ?_
  refine GL.nil ?_
  refine GE.thenN ?_
  refine GC.seq ?_
  refine GC.region ?_
  refine GL.step (Stp.callR (σ := Unit) (p := fun rz => True) (v := fun rz => (.tuple #[(.int .u32 0), (.bool false)])) (N := fun rz => []) (vs := [(.int .i64 16777217), (.int .i64 0)]) rfl rfl T.own13 (by decide) (fun wc hw => (Calls.mono (fp_p 16777217 0 wc (by omega) (by omega)) (by rintro e w' ⟨x, rfl, hx, hn⟩; obtain ⟨h1, h2⟩ := hx.uniq Bt.FP.odd; exact ⟨(), by dsimp only; rw [h1, h2], trivial, hn⟩)))) (fun xq7 hq8 => ?_)
  refine GL.val (v := (.tuple #[(.int .u32 0), (.bool false)])) (Ex.move rfl) (by decide) ?_
  refine GL.val (v := (.int .u32 0)) (Ex.extract rfl rfl) (by decide) ?_
  refine GL.val (v := (.bool false)) (Ex.extract rfl rfl) (by decide) ?_
  refine GL.val (v := (.int .u32 0)) (Ex.assign rfl) (by decide) ?_
  refine GL.val (v := (.bool false)) (Ex.assign rfl) (by decide) ?_
  refine GL.nil ?_
  refine GE.thenN ?_
  refine GC.seq ?_
  refine GC.region ?_
  refine GL.step (Stp.callR (σ := Unit) (p := fun rz => True) (v := fun rz => (.tuple #[(.int .u32 3233808384), (.bool true)])) (N := fun rz => []) (vs := [(.int .i64 (-3)), (.int .i64 1)]) rfl rfl T.own13 (by decide) (fun wc hw => (Calls.mono (fp_p (-3) 1 wc (by omega) (by omega)) (by rintro e w' ⟨x, rfl, hx, hn⟩; obtain ⟨h1, h2⟩ := hx.uniq Bt.FP.m3; exact ⟨(), by dsimp only; rw [h1, h2], trivial, hn⟩)))) (fun xq9 hq10 => ?_)
  refine GL.val (v := (.tuple #[(.int .u32 3233808384), (.bool true)])) (Ex.move rfl) (by decide) ?_
  refine GL.val (v := (.int .u32 3233808384)) (Ex.extract rfl rfl) (by decide) ?_
  refine GL.val (v := (.bool true)) (Ex.extract rfl rfl) (by decide) ?_
  refine GL.val (v := (.int .u32 3233808384)) (Ex.assign rfl) (by decide) ?_
  refine GL.val (v := (.bool true)) (Ex.assign rfl) (by decide) ?_
  refine GL.nil ?_
  refine GE.thenN ?_
  refine GC.seq ?_
  refine GC.region ?_
  refine GL.step (Stp.callR (σ := Unit) (p := fun rz => True) (v := fun rz => (.tuple #[(.int .u32 0), (.bool true)])) (N := fun rz => []) (vs := [(.int .u32 2147483648)]) rfl rfl T.own21 (by decide) (fun wc hw => (by have h := next_p 2147483648 wc (by omega); rw [show (Bt.nxt 2147483648).1 = 0 from by decide, show (Bt.nxt 2147483648).2 = true from by decide] at h; exact h))) (fun xq11 hq12 => ?_)
  refine GL.val (v := (.tuple #[(.int .u32 0), (.bool true)])) (Ex.move rfl) (by decide) ?_
  refine GL.val (v := (.int .u32 0)) (Ex.extract rfl rfl) (by decide) ?_
  refine GL.val (v := (.bool true)) (Ex.extract rfl rfl) (by decide) ?_
  refine GL.val (v := (.int .u32 0)) (Ex.assign rfl) (by decide) ?_
  refine GL.val (v := (.bool true)) (Ex.assign rfl) (by decide) ?_
  refine GL.nil ?_
  refine GE.thenN ?_
  refine GC.seq ?_
  refine GC.region ?_
  refine GL.step (Stp.callR (σ := Unit) (p := fun rz => True) (v := fun rz => (.tuple #[(.int .u32 0), (.bool false)])) (N := fun rz => []) (vs := [(.int .u32 2147483647)]) rfl rfl T.own21 (by decide) (fun wc hw => (by have h := next_p 2147483647 wc (by omega); rw [show (Bt.nxt 2147483647).1 = 0 from by decide, show (Bt.nxt 2147483647).2 = false from by decide] at h; exact h))) (fun xq13 hq14 => ?_)
  refine GL.val (v := (.tuple #[(.int .u32 0), (.bool false)])) (Ex.move rfl) (by decide) ?_
  refine GL.val (v := (.int .u32 0)) (Ex.extract rfl rfl) (by decide) ?_
  refine GL.val (v := (.bool false)) (Ex.extract rfl rfl) (by decide) ?_
  refine GL.val (v := (.int .u32 0)) (Ex.assign rfl) (by decide) ?_
  refine GL.val (v := (.bool false)) (Ex.assign rfl) (by decide) ?_
  refine GL.nil ?_
  refine GE.thenN ?_
  refine GC.seq ?_
  refine GC.region ?_
  refine GL.step (Stp.callR (σ := Unit) (p := fun rz => True) (v := fun rz => (.int .u32 2147483648)) (N := fun rz => []) (vs := [(.int .u32 0)]) rfl rfl T.own25 (by decide) (fun wc hw => (by have h := key_p 0 wc (by omega); rw [show Bt.key 0 = 2147483648 from by decide] at h; exact h))) (fun xq15 hq16 => ?_)
  refine GL.val (v := (.bool true)) (Ex.cast (Ex.eql rfl rfl) rfl) (by decide) ?_
  refine GL.val (v := (.bool true)) (Ex.move rfl) (by decide) ?_
  refine GL.stepG (tj := 48) rfl rfl (Stp.callR (σ := Unit) (p := fun rz => True) (v := fun rz => (.int .u32 2147483647)) (N := fun rz => []) (vs := [(.int .u32 2147483648)]) rfl rfl T.own25 (by decide) (fun wc hw => (by have h := key_p 2147483648 wc (by omega); rw [show Bt.key 2147483648 = 2147483647 from by decide] at h; exact h))) (fun xq17 hq18 => ?_)
  refine GL.stepG (tj := 48) rfl rfl (Ex.wp (v := (.bool true)) (Ex.cast (Ex.eql rfl rfl) rfl) (by decide)) (fun _ _ => ?_)
  refine GL.val (v := (.bool true)) (Ex.pickT rfl rfl) (by decide) ?_
  refine GL.val (v := (.bool true)) (Ex.move rfl) (by decide) ?_
  refine GL.stepG (tj := 52) rfl rfl (Stp.callR (σ := Unit) (p := fun rz => True) (v := fun rz => (.int .u32 4290772992)) (N := fun rz => []) (vs := [(.int .u32 2143289344)]) rfl rfl T.own25 (by decide) (fun wc hw => (by have h := key_p 2143289344 wc (by omega); rw [show Bt.key 2143289344 = 4290772992 from by decide] at h; exact h))) (fun xq19 hq20 => ?_)
  refine GL.stepG (tj := 52) rfl rfl (Ex.wp (v := (.bool true)) (Ex.cast (Ex.eql rfl rfl) rfl) (by decide)) (fun _ _ => ?_)
  refine GL.val (v := (.bool true)) (Ex.pickT rfl rfl) (by decide) ?_
  refine GL.val (v := (.bool true)) (Ex.move rfl) (by decide) ?_
  refine GL.stepG (tj := 56) rfl rfl (Stp.callR (σ := Unit) (p := fun rz => True) (v := fun rz => (.int .u32 4294967295)) (N := fun rz => []) (vs := [(.int .u32 0)]) rfl rfl T.own27 (by decide) (fun wc hw => (by have h := unkey_p 0 wc (by omega); rw [show Bt.unkey 0 = 4294967295 from by decide] at h; exact h))) (fun xq21 hq22 => ?_)
  refine GL.stepG (tj := 56) rfl rfl (Ex.wp (v := (.bool true)) (Ex.cast (Ex.eql rfl rfl) rfl) (by decide)) (fun _ _ => ?_)
  refine GL.val (v := (.bool true)) (Ex.pickT rfl rfl) (by decide) ?_
  refine GL.val (v := (.bool true)) (Ex.assign rfl) (by decide) ?_
  refine GL.nil ?_
  refine GE.thenN ?_
  refine GC.seq ?_
  refine GC.region ?_
  refine GL.val (v := (.bool true)) (Ex.move rfl) (by decide) ?_
  refine GL.val (v := (.bool true)) (Ex.move rfl) (by decide) ?_
  refine GL.stepG (tj := 61) rfl rfl (Ex.wp (v := (.int .i64 8388608)) (Ex.move rfl) (by decide)) (fun _ _ => ?_)
  refine GL.stepG (tj := 61) rfl rfl (Ex.wp (v := (.bool true)) (Ex.cast (Ex.eql rfl rfl) rfl) (by decide)) (fun _ _ => ?_)
  refine GL.val (v := (.bool true)) (Ex.pickT rfl rfl) (by decide) ?_
  refine GL.val (v := (.bool true)) (Ex.move rfl) (by decide) ?_
  refine GL.stepG (tj := 65) rfl rfl (Ex.wp (v := (.int .i64 (-23))) (Ex.move rfl) (by decide)) (fun _ _ => ?_)
  refine GL.stepG (tj := 65) rfl rfl (Ex.wp (v := (.bool true)) (Ex.cast (Ex.eql rfl rfl) rfl) (by decide)) (fun _ _ => ?_)
  refine GL.val (v := (.bool true)) (Ex.pickT rfl rfl) (by decide) ?_
  refine GL.val (v := (.bool true)) (Ex.move rfl) (by decide) ?_
  refine GL.stepG (tj := 69) rfl rfl (Ex.wp (v := (.bool true)) (Ex.move rfl) (by decide)) (fun _ _ => ?_)
  refine GL.val (v := (.bool true)) (Ex.pickT rfl rfl) (by decide) ?_
  refine GL.val (v := (.bool true)) (Ex.move rfl) (by decide) ?_
  refine GL.stepG (tj := 72) rfl rfl (Ex.wp (v := (.int .u32 1065353216)) (Ex.move rfl) (by decide)) (fun _ _ => ?_)
  refine GL.stepG (tj := 72) rfl rfl (Ex.wp (v := (.bool true)) (Ex.cast (Ex.eql rfl rfl) rfl) (by decide)) (fun _ _ => ?_)
  refine GL.val (v := (.bool true)) (Ex.pickT rfl rfl) (by decide) ?_
  refine GL.val (v := (.bool true)) (Ex.move rfl) (by decide) ?_
  refine GL.stepG (tj := 76) rfl rfl (Ex.wp (v := (.bool true)) (Ex.move rfl) (by decide)) (fun _ _ => ?_)
  refine GL.val (v := (.bool true)) (Ex.pickT rfl rfl) (by decide) ?_
  refine GL.val (v := (.bool true)) (Ex.move rfl) (by decide) ?_
  refine GL.stepG (tj := 79) rfl rfl (Ex.wp (v := (.bool false)) (Ex.move rfl) (by decide)) (fun _ _ => ?_)
  refine GL.stepG (tj := 79) rfl rfl (Ex.wp (v := (.bool true)) (Ex.cast (Ex.not rfl) rfl) (by decide)) (fun _ _ => ?_)
  refine GL.val (v := (.bool true)) (Ex.pickT rfl rfl) (by decide) ?_
  refine GL.val (v := (.bool true)) (Ex.move rfl) (by decide) ?_
  refine GL.stepG (tj := 83) rfl rfl (Ex.wp (v := (.bool false)) (Ex.move rfl) (by decide)) (fun _ _ => ?_)
  refine GL.stepG (tj := 83) rfl rfl (Ex.wp (v := (.bool true)) (Ex.cast (Ex.not rfl) rfl) (by decide)) (fun _ _ => ?_)
  refine GL.val (v := (.bool true)) (Ex.pickT rfl rfl) (by decide) ?_
  refine GL.val (v := (.bool true)) (Ex.move rfl) (by decide) ?_
  refine GL.stepG (tj := 87) rfl rfl (Ex.wp (v := (.int .u32 3233808384)) (Ex.move rfl) (by decide)) (fun _ _ => ?_)
  refine GL.stepG (tj := 87) rfl rfl (Ex.wp (v := (.bool true)) (Ex.cast (Ex.eql rfl rfl) rfl) (by decide)) (fun _ _ => ?_)
  refine GL.val (v := (.bool true)) (Ex.pickT rfl rfl) (by decide) ?_
  refine GL.val (v := (.bool true)) (Ex.move rfl) (by decide) ?_
  refine GL.stepG (tj := 91) rfl rfl (Ex.wp (v := (.bool true)) (Ex.move rfl) (by decide)) (fun _ _ => ?_)
  refine GL.val (v := (.bool true)) (Ex.pickT rfl rfl) (by decide) ?_
  refine GL.val (v := (.bool true)) (Ex.move rfl) (by decide) ?_
  refine GL.stepG (tj := 94) rfl rfl (Ex.wp (v := (.int .u32 0)) (Ex.move rfl) (by decide)) (fun _ _ => ?_)
  refine GL.stepG (tj := 94) rfl rfl (Ex.wp (v := (.bool true)) (Ex.cast (Ex.eql rfl rfl) rfl) (by decide)) (fun _ _ => ?_)
  refine GL.val (v := (.bool true)) (Ex.pickT rfl rfl) (by decide) ?_
  refine GL.val (v := (.bool true)) (Ex.move rfl) (by decide) ?_
  refine GL.stepG (tj := 98) rfl rfl (Ex.wp (v := (.bool true)) (Ex.move rfl) (by decide)) (fun _ _ => ?_)
  refine GL.val (v := (.bool true)) (Ex.pickT rfl rfl) (by decide) ?_
  refine GL.val (v := (.bool true)) (Ex.move rfl) (by decide) ?_
  refine GL.stepG (tj := 101) rfl rfl (Ex.wp (v := (.int .u32 0)) (Ex.move rfl) (by decide)) (fun _ _ => ?_)
  refine GL.stepG (tj := 101) rfl rfl (Ex.wp (v := (.bool true)) (Ex.cast (Ex.eql rfl rfl) rfl) (by decide)) (fun _ _ => ?_)
  refine GL.val (v := (.bool true)) (Ex.pickT rfl rfl) (by decide) ?_
  refine GL.val (v := (.bool true)) (Ex.move rfl) (by decide) ?_
  refine GL.stepG (tj := 105) rfl rfl (Ex.wp (v := (.bool false)) (Ex.move rfl) (by decide)) (fun _ _ => ?_)
  refine GL.stepG (tj := 105) rfl rfl (Ex.wp (v := (.bool true)) (Ex.cast (Ex.not rfl) rfl) (by decide)) (fun _ _ => ?_)
  refine GL.val (v := (.bool true)) (Ex.pickT rfl rfl) (by decide) ?_
  refine GL.val (v := (.bool true)) (Ex.move rfl) (by decide) ?_
  refine GL.stepG (tj := 109) rfl rfl (Stp.callR (σ := Unit) (p := fun rz => True) (v := fun rz => (.int .i64 1)) (N := fun rz => []) (vs := [(.int .u32 2147483648), (.int .u32 0)]) rfl rfl T.own29 (by decide) (fun wc hw => (by have h := apart_p 2147483648 0 wc (by omega) (by omega); rw [show Bt.key 0 - Bt.key 2147483648 = 1 from by decide] at h; exact h))) (fun xq23 hq24 => ?_)
  refine GL.stepG (tj := 109) rfl rfl (Ex.wp (v := (.bool true)) (Ex.cast (Ex.eql rfl rfl) rfl) (by decide)) (fun _ _ => ?_)
  refine GL.val (v := (.bool true)) (Ex.pickT rfl rfl) (by decide) ?_
  refine GL.val (v := (.bool true)) (Ex.move rfl) (by decide) ?_
  refine GL.stepG (tj := 113) rfl rfl (Stp.callR (σ := Unit) (p := fun rz => True) (v := fun rz => (.int .i64 4)) (N := fun rz => []) (vs := [(.int .u32 1)]) rfl rfl T.own15 (by decide) (fun wc hw => (by have h := cls_p 1 wc (by omega); rw [show Bt.cls 1 = 4 from by decide] at h; exact h))) (fun xq25 hq26 => ?_)
  refine GL.stepG (tj := 113) rfl rfl (Ex.wp (v := (.bool true)) (Ex.cast (Ex.eql rfl rfl) rfl) (by decide)) (fun _ _ => ?_)
  refine GL.val (v := (.bool true)) (Ex.pickT rfl rfl) (by decide) ?_
  refine GL.val (v := (.bool true)) (Ex.assign rfl) (by decide) ?_
  refine GL.nil ?_
  refine GE.thenN ?_
  refine GC.ret ?_
  refine GC.ret1 rfl (Rv.tmp rfl) (fun wN HN => ?_)
  exact HN.ret () trivial rfl (List.nil_sublist _) rfl

set_option maxRecDepth 100000 in
set_option maxHeartbeats 1000000 in
theorem lawClasses (s n e : Int) (w : World) (hs : 0 ≤ s ∧ s < 4294967296) (hn : -9223372036854775808 ≤ n ∧ n ≤ 9223372036854775807) (he : -9223372036854775808 ≤ e ∧ e ≤ 9223372036854775807) :
    Calls Try.prog 4 #[(.int .u32 s), (.int .i64 n), (.int .i64 e)] w (Ret w (fun _ : Unit => True) (fun _ => .bool true) (fun _ => [])) := by
  refine enter (M := None) (L := []) (n := 87) (l := [(0, (.int .u32 s)), (1, (.int .i64 n)), (2, (.int .i64 e))]) Try.func4 rfl rfl (Args.cons rfl (Args.cons rfl (Args.cons rfl (Args.nil _)))) (Hp.start _ _) ?_
  refine GC.seq ?_
  refine GC.region ?_
  refine GL.val (v := (.bool false)) (Ex.assign rfl) (by decide) ?_
  refine GL.nil ?_
  refine GE.thenN ?_
  refine GC.seq ?_
  refine GC.seq ?_
  refine GC.region ?_
  refine GL.step (Stp.callR (σ := Unit) (p := fun rz => True) (v := fun rz => (.bool true)) (N := fun rz => []) (vs := []) rfl rfl T.own10 (by decide) (fun wc hw => known wc)) (fun xq1 hq2 => ?_)
  refine GL.val (v := (.bool false)) (Ex.cast (Ex.not rfl) rfl) (by decide) ?_
  refine GL.nil ?_
  refine GE.thenN ?_
  refine GC.cond rfl (fun hq3 => by cases hq3) (fun _ => ?_)
  refine GC.skip ?_
  refine GE.thenN ?_
  refine GC.seq ?_
  refine GC.region ?_
  refine GL.val (v := (.int .u32 s)) (Ex.move rfl) (by decide) ?_
  refine GL.step (Stp.callR (σ := Unit) (p := fun rz => True) (v := fun rz => (.tuple #[(.int .i64 ((Bt.prts s).1)), (.int .i64 ((Bt.prts s).2.1)), (.bool ((Bt.prts s).2.2))])) (N := fun rz => []) (vs := [(.int .u32 s)]) rfl rfl T.own11 (by decide) (fun wc hw => parts_p s wc (by first | assumption | omega | exact Bt.lst_bd (by assumption) (by assumption) | exact Bt.gst_bd (by assumption) (by assumption) | exact Bt.key_bd (by assumption) | exact Bt.unkey_bd (by assumption) | exact Bt.nxt_bd (by assumption) | exact Bt.lst_bd (Bt.gst_bd (by assumption) (by assumption)) (by assumption) | exact Bt.btw_bd (by assumption) (Bt.lst_bd (by assumption) (by assumption)) (Bt.gst_bd (by assumption) (by assumption))))) (fun xq4 hq5 => ?_)
  refine GL.val (v := (.tuple #[(.int .i64 ((Bt.prts s).1)), (.int .i64 ((Bt.prts s).2.1)), (.bool ((Bt.prts s).2.2))])) (Ex.move rfl) (by decide) ?_
  refine GL.val (v := (.int .i64 ((Bt.prts s).1))) (Ex.extract rfl rfl) (by decide) ?_
  refine GL.val (v := (.int .i64 ((Bt.prts s).2.1))) (Ex.extract rfl rfl) (by decide) ?_
  refine GL.val (v := (.bool ((Bt.prts s).2.2))) (Ex.extract rfl rfl) (by decide) ?_
  refine GL.val (v := (.int .i64 ((Bt.prts s).1))) (Ex.assign rfl) (by decide) ?_
  refine GL.val (v := (.int .i64 ((Bt.prts s).2.1))) (Ex.assign rfl) (by decide) ?_
  refine GL.val (v := (.bool ((Bt.prts s).2.2))) (Ex.assign rfl) (by decide) ?_
  refine GL.nil ?_
  refine GE.thenN ?_
  refine GC.seq ?_
  refine GC.region ?_
  refine GL.val (v := (.int .u32 s)) (Ex.move rfl) (by decide) ?_
  refine GL.step (Stp.callR (σ := Unit) (p := fun rz => True) (v := fun rz => (.tuple #[(.int .i64 ((Bt.prts s).1)), (.int .i64 ((Bt.prts s).2.1)), (.bool ((Bt.prts s).2.2))])) (N := fun rz => []) (vs := [(.int .u32 s)]) rfl rfl T.own12 (by decide) (fun wc hw => parts_r s wc (by first | assumption | omega | exact Bt.lst_bd (by assumption) (by assumption) | exact Bt.gst_bd (by assumption) (by assumption) | exact Bt.key_bd (by assumption) | exact Bt.unkey_bd (by assumption) | exact Bt.nxt_bd (by assumption) | exact Bt.lst_bd (Bt.gst_bd (by assumption) (by assumption)) (by assumption) | exact Bt.btw_bd (by assumption) (Bt.lst_bd (by assumption) (by assumption)) (Bt.gst_bd (by assumption) (by assumption))))) (fun xq6 hq7 => ?_)
  refine GL.val (v := (.tuple #[(.int .i64 ((Bt.prts s).1)), (.int .i64 ((Bt.prts s).2.1)), (.bool ((Bt.prts s).2.2))])) (Ex.move rfl) (by decide) ?_
  refine GL.val (v := (.int .i64 ((Bt.prts s).1))) (Ex.extract rfl rfl) (by decide) ?_
  refine GL.val (v := (.int .i64 ((Bt.prts s).2.1))) (Ex.extract rfl rfl) (by decide) ?_
  refine GL.val (v := (.bool ((Bt.prts s).2.2))) (Ex.extract rfl rfl) (by decide) ?_
  refine GL.val (v := (.int .i64 ((Bt.prts s).1))) (Ex.assign rfl) (by decide) ?_
  refine GL.val (v := (.int .i64 ((Bt.prts s).2.1))) (Ex.assign rfl) (by decide) ?_
  refine GL.val (v := (.bool ((Bt.prts s).2.2))) (Ex.assign rfl) (by decide) ?_
  refine GL.nil ?_
  refine GE.thenN ?_
  refine GC.seq ?_
  refine GC.region ?_
  refine GL.val (v := (.int .i64 n)) (Ex.move rfl) (by decide) ?_
  refine GL.val (v := (.int .i64 e)) (Ex.move rfl) (by decide) ?_
  refine GL.step (Stp.callR (σ := Int × Bool) (p := fun rz => Bt.FP n e rz.1 rz.2) (v := fun rz => (.tuple #[(.int .u32 rz.1), (.bool rz.2)])) (N := fun rz => []) (vs := [(.int .i64 n), (.int .i64 e)]) rfl rfl T.own13 (by decide) (fun wc hw => fp_p n e wc (by omega) (by omega))) (fun xq8 hq9 => ?_)
  refine GL.val (v := (.tuple #[(.int .u32 xq8.1), (.bool xq8.2)])) (Ex.move rfl) (by decide) ?_
  refine GL.val (v := (.int .u32 xq8.1)) (Ex.extract rfl rfl) (by decide) ?_
  refine GL.val (v := (.bool xq8.2)) (Ex.extract rfl rfl) (by decide) ?_
  refine GL.val (v := (.int .u32 xq8.1)) (Ex.assign rfl) (by decide) ?_
  refine GL.val (v := (.bool xq8.2)) (Ex.assign rfl) (by decide) ?_
  refine GL.nil ?_
  refine GE.thenN ?_
  refine GC.seq ?_
  refine GC.region ?_
  refine GL.val (v := (.int .i64 n)) (Ex.move rfl) (by decide) ?_
  refine GL.val (v := (.int .i64 e)) (Ex.move rfl) (by decide) ?_
  refine GL.step (Stp.callR (σ := Int × Bool) (p := fun rz => Bt.FP n e rz.1 rz.2) (v := fun rz => (.tuple #[(.int .u32 rz.1), (.bool rz.2)])) (N := fun rz => []) (vs := [(.int .i64 n), (.int .i64 e)]) rfl rfl T.own14 (by decide) (fun wc hw => fp_r n e wc (by omega) (by omega))) (fun xq10 hq11 => ?_)
  refine GL.val (v := (.tuple #[(.int .u32 xq10.1), (.bool xq10.2)])) (Ex.move rfl) (by decide) ?_
  refine GL.val (v := (.int .u32 xq10.1)) (Ex.extract rfl rfl) (by decide) ?_
  refine GL.val (v := (.bool xq10.2)) (Ex.extract rfl rfl) (by decide) ?_
  refine GL.val (v := (.int .u32 xq10.1)) (Ex.assign rfl) (by decide) ?_
  refine GL.val (v := (.bool xq10.2)) (Ex.assign rfl) (by decide) ?_
  refine GL.nil ?_
  refine GE.thenN ?_
  refine GC.seq ?_
  refine GC.region ?_
  refine GL.val (v := (.int .u32 s)) (Ex.move rfl) (by decide) ?_
  refine GL.step (Stp.callR (σ := Unit) (p := fun rz => True) (v := fun rz => (.int .i64 (Bt.cls s))) (N := fun rz => []) (vs := [(.int .u32 s)]) rfl rfl T.own15 (by decide) (fun wc hw => cls_p s wc (by first | assumption | omega | exact Bt.lst_bd (by assumption) (by assumption) | exact Bt.gst_bd (by assumption) (by assumption) | exact Bt.key_bd (by assumption) | exact Bt.unkey_bd (by assumption) | exact Bt.nxt_bd (by assumption) | exact Bt.lst_bd (Bt.gst_bd (by assumption) (by assumption)) (by assumption) | exact Bt.btw_bd (by assumption) (Bt.lst_bd (by assumption) (by assumption)) (Bt.gst_bd (by assumption) (by assumption))))) (fun xq12 hq13 => ?_)
  refine GL.val (v := (.int .u32 s)) (Ex.move rfl) (by decide) ?_
  refine GL.step (Stp.callR (σ := Unit) (p := fun rz => True) (v := fun rz => (.int .i64 (Bt.cls s))) (N := fun rz => []) (vs := [(.int .u32 s)]) rfl rfl T.own16 (by decide) (fun wc hw => cls_r s wc (by first | assumption | omega | exact Bt.lst_bd (by assumption) (by assumption) | exact Bt.gst_bd (by assumption) (by assumption) | exact Bt.key_bd (by assumption) | exact Bt.unkey_bd (by assumption) | exact Bt.nxt_bd (by assumption) | exact Bt.lst_bd (Bt.gst_bd (by assumption) (by assumption)) (by assumption) | exact Bt.btw_bd (by assumption) (Bt.lst_bd (by assumption) (by assumption)) (Bt.gst_bd (by assumption) (by assumption))))) (fun xq14 hq15 => ?_)
  refine GL.val (v := (.bool true)) (Ex.cast (Ex.eql rfl rfl) (congrArg Value.bool (decide_eq_true (by simp)))) (by decide) ?_
  refine GL.val (v := (.bool true)) (Ex.move rfl) (by decide) ?_
  refine GL.stepG (tj := 48) rfl rfl (Ex.wp (v := (.int .u32 s)) (Ex.move rfl) (by decide)) (fun _ _ => ?_)
  refine GL.stepG (tj := 48) rfl rfl (Stp.callR (σ := Unit) (p := fun rz => True) (v := fun rz => (.bool (decide (Bt.cls s = 1)))) (N := fun rz => []) (vs := [(.int .u32 s)]) rfl rfl T.own17 (by decide) (fun wc hw => nan_p s wc (by first | assumption | omega | exact Bt.lst_bd (by assumption) (by assumption) | exact Bt.gst_bd (by assumption) (by assumption) | exact Bt.key_bd (by assumption) | exact Bt.unkey_bd (by assumption) | exact Bt.nxt_bd (by assumption) | exact Bt.lst_bd (Bt.gst_bd (by assumption) (by assumption)) (by assumption) | exact Bt.btw_bd (by assumption) (Bt.lst_bd (by assumption) (by assumption)) (Bt.gst_bd (by assumption) (by assumption))))) (fun xq16 hq17 => ?_)
  refine GL.stepG (tj := 48) rfl rfl (Ex.wp (v := (.int .u32 s)) (Ex.move rfl) (by decide)) (fun _ _ => ?_)
  refine GL.stepG (tj := 48) rfl rfl (Stp.callR (σ := Unit) (p := fun rz => True) (v := fun rz => (.bool (decide (Bt.cls s = 1)))) (N := fun rz => []) (vs := [(.int .u32 s)]) rfl rfl T.own18 (by decide) (fun wc hw => nan_r s wc (by first | assumption | omega | exact Bt.lst_bd (by assumption) (by assumption) | exact Bt.gst_bd (by assumption) (by assumption) | exact Bt.key_bd (by assumption) | exact Bt.unkey_bd (by assumption) | exact Bt.nxt_bd (by assumption) | exact Bt.lst_bd (Bt.gst_bd (by assumption) (by assumption)) (by assumption) | exact Bt.btw_bd (by assumption) (Bt.lst_bd (by assumption) (by assumption)) (Bt.gst_bd (by assumption) (by assumption))))) (fun xq18 hq19 => ?_)
  refine GL.stepG (tj := 48) rfl rfl (Ex.wp (v := (.bool true)) (Ex.cast (Ex.eqlB rfl rfl Try.underlying4) (by simp)) (by decide)) (fun _ _ => ?_)
  refine GL.val (v := (.bool true)) (Ex.pickT rfl rfl) (by decide) ?_
  refine GL.val (v := (.bool true)) (Ex.move rfl) (by decide) ?_
  refine GL.stepG (tj := 55) rfl rfl (Ex.wp (v := (.int .u32 s)) (Ex.move rfl) (by decide)) (fun _ _ => ?_)
  refine GL.stepG (tj := 55) rfl rfl (Stp.callR (σ := Unit) (p := fun rz => True) (v := fun rz => (.int .u32 (Bt.mde s))) (N := fun rz => []) (vs := [(.int .u32 s)]) rfl rfl T.own19 (by decide) (fun wc hw => made_p s wc (by first | assumption | omega | exact Bt.lst_bd (by assumption) (by assumption) | exact Bt.gst_bd (by assumption) (by assumption) | exact Bt.key_bd (by assumption) | exact Bt.unkey_bd (by assumption) | exact Bt.nxt_bd (by assumption) | exact Bt.lst_bd (Bt.gst_bd (by assumption) (by assumption)) (by assumption) | exact Bt.btw_bd (by assumption) (Bt.lst_bd (by assumption) (by assumption)) (Bt.gst_bd (by assumption) (by assumption))))) (fun xq20 hq21 => ?_)
  refine GL.stepG (tj := 55) rfl rfl (Ex.wp (v := (.int .u32 s)) (Ex.move rfl) (by decide)) (fun _ _ => ?_)
  refine GL.stepG (tj := 55) rfl rfl (Stp.callR (σ := Unit) (p := fun rz => True) (v := fun rz => (.int .u32 (Bt.mde s))) (N := fun rz => []) (vs := [(.int .u32 s)]) rfl rfl T.own20 (by decide) (fun wc hw => made_r s wc (by first | assumption | omega | exact Bt.lst_bd (by assumption) (by assumption) | exact Bt.gst_bd (by assumption) (by assumption) | exact Bt.key_bd (by assumption) | exact Bt.unkey_bd (by assumption) | exact Bt.nxt_bd (by assumption) | exact Bt.lst_bd (Bt.gst_bd (by assumption) (by assumption)) (by assumption) | exact Bt.btw_bd (by assumption) (Bt.lst_bd (by assumption) (by assumption)) (Bt.gst_bd (by assumption) (by assumption))))) (fun xq22 hq23 => ?_)
  refine GL.stepG (tj := 55) rfl rfl (Ex.wp (v := (.bool true)) (Ex.cast (Ex.eql rfl rfl) (congrArg Value.bool (decide_eq_true (by simp)))) (by decide)) (fun _ _ => ?_)
  refine GL.val (v := (.bool true)) (Ex.pickT rfl rfl) (by decide) ?_
  refine GL.val (v := (.bool true)) (Ex.move rfl) (by decide) ?_
  refine GL.stepG (tj := 62) rfl rfl (Ex.wp (v := (.int .i64 ((Bt.prts s).1))) (Ex.move rfl) (by decide)) (fun _ _ => ?_)
  refine GL.stepG (tj := 62) rfl rfl (Ex.wp (v := (.int .i64 ((Bt.prts s).1))) (Ex.move rfl) (by decide)) (fun _ _ => ?_)
  refine GL.stepG (tj := 62) rfl rfl (Ex.wp (v := (.bool true)) (Ex.cast (Ex.eql rfl rfl) (congrArg Value.bool (decide_eq_true (by simp)))) (by decide)) (fun _ _ => ?_)
  refine GL.val (v := (.bool true)) (Ex.pickT rfl rfl) (by decide) ?_
  refine GL.val (v := (.bool true)) (Ex.move rfl) (by decide) ?_
  refine GL.stepG (tj := 67) rfl rfl (Ex.wp (v := (.int .i64 ((Bt.prts s).2.1))) (Ex.move rfl) (by decide)) (fun _ _ => ?_)
  refine GL.stepG (tj := 67) rfl rfl (Ex.wp (v := (.int .i64 ((Bt.prts s).2.1))) (Ex.move rfl) (by decide)) (fun _ _ => ?_)
  refine GL.stepG (tj := 67) rfl rfl (Ex.wp (v := (.bool true)) (Ex.cast (Ex.eql rfl rfl) (congrArg Value.bool (decide_eq_true (by simp)))) (by decide)) (fun _ _ => ?_)
  refine GL.val (v := (.bool true)) (Ex.pickT rfl rfl) (by decide) ?_
  refine GL.val (v := (.bool true)) (Ex.move rfl) (by decide) ?_
  refine GL.stepG (tj := 72) rfl rfl (Ex.wp (v := (.bool ((Bt.prts s).2.2))) (Ex.move rfl) (by decide)) (fun _ _ => ?_)
  refine GL.stepG (tj := 72) rfl rfl (Ex.wp (v := (.bool ((Bt.prts s).2.2))) (Ex.move rfl) (by decide)) (fun _ _ => ?_)
  refine GL.stepG (tj := 72) rfl rfl (Ex.wp (v := (.bool true)) (Ex.cast (Ex.eqlB rfl rfl Try.underlying4) (by simp)) (by decide)) (fun _ _ => ?_)
  refine GL.val (v := (.bool true)) (Ex.pickT rfl rfl) (by decide) ?_
  refine GL.val (v := (.bool true)) (Ex.move rfl) (by decide) ?_
  refine GL.stepG (tj := 77) rfl rfl (Ex.wp (v := (.int .u32 xq8.1)) (Ex.move rfl) (by decide)) (fun _ _ => ?_)
  refine GL.stepG (tj := 77) rfl rfl (Ex.wp (v := (.int .u32 xq10.1)) (Ex.move rfl) (by decide)) (fun _ _ => ?_)
  refine GL.stepG (tj := 77) rfl rfl (Ex.wp (v := (.bool true)) (Ex.cast (Ex.eql rfl rfl) (congrArg Value.bool (decide_eq_true (by exact (hq9.uniq hq11).1)))) (by decide)) (fun _ _ => ?_)
  refine GL.val (v := (.bool true)) (Ex.pickT rfl rfl) (by decide) ?_
  refine GL.val (v := (.bool true)) (Ex.move rfl) (by decide) ?_
  refine GL.stepG (tj := 82) rfl rfl (Ex.wp (v := (.bool xq8.2)) (Ex.move rfl) (by decide)) (fun _ _ => ?_)
  refine GL.stepG (tj := 82) rfl rfl (Ex.wp (v := (.bool xq10.2)) (Ex.move rfl) (by decide)) (fun _ _ => ?_)
  refine GL.stepG (tj := 82) rfl rfl (Ex.wp (v := (.bool true)) (Ex.cast (Ex.eqlB rfl rfl Try.underlying4) (by rw [(hq9.uniq hq11).2]; simp)) (by decide)) (fun _ _ => ?_)
  refine GL.val (v := (.bool true)) (Ex.pickT rfl rfl) (by decide) ?_
  refine GL.val (v := (.bool true)) (Ex.assign rfl) (by decide) ?_
  refine GL.nil ?_
  refine GE.thenN ?_
  refine GC.ret ?_
  refine GC.ret1 rfl (Rv.tmp rfl) (fun wN HN => ?_)
  exact HN.ret () trivial rfl (List.nil_sublist _) rfl

set_option maxRecDepth 100000 in
set_option maxHeartbeats 1000000 in
theorem lawKeys (a b : Int) (w : World) (ha : 0 ≤ a ∧ a < 4294967296) (hb : 0 ≤ b ∧ b < 4294967296) :
    Calls Try.prog 5 #[(.int .u32 a), (.int .u32 b)] w (Ret w (fun _ : Unit => True) (fun _ => .bool true) (fun _ => [])) := by
  refine enter (M := None) (L := []) (n := 85) (l := [(0, (.int .u32 a)), (1, (.int .u32 b))]) Try.func5 rfl rfl (Args.cons rfl (Args.cons rfl (Args.nil _))) (Hp.start _ _) ?_
  refine GC.seq ?_
  refine GC.region ?_
  refine GL.val (v := (.bool false)) (Ex.assign rfl) (by decide) ?_
  refine GL.nil ?_
  refine GE.thenN ?_
  refine GC.seq ?_
  refine GC.seq ?_
  refine GC.region ?_
  refine GL.step (Stp.callR (σ := Unit) (p := fun rz => True) (v := fun rz => (.bool true)) (N := fun rz => []) (vs := []) rfl rfl T.own10 (by decide) (fun wc hw => known wc)) (fun xq1 hq2 => ?_)
  refine GL.val (v := (.bool false)) (Ex.cast (Ex.not rfl) rfl) (by decide) ?_
  refine GL.nil ?_
  refine GE.thenN ?_
  refine GC.cond rfl (fun hq3 => by cases hq3) (fun _ => ?_)
  refine GC.skip ?_
  refine GE.thenN ?_
  refine GC.seq ?_
  refine GC.region ?_
  refine GL.val (v := (.int .u32 a)) (Ex.move rfl) (by decide) ?_
  refine GL.step (Stp.callR (σ := Unit) (p := fun rz => True) (v := fun rz => (.tuple #[(.int .u32 ((Bt.nxt a).1)), (.bool ((Bt.nxt a).2))])) (N := fun rz => []) (vs := [(.int .u32 a)]) rfl rfl T.own21 (by decide) (fun wc hw => next_p a wc (by first | assumption | omega | exact Bt.lst_bd (by assumption) (by assumption) | exact Bt.gst_bd (by assumption) (by assumption) | exact Bt.key_bd (by assumption) | exact Bt.unkey_bd (by assumption) | exact Bt.nxt_bd (by assumption) | exact Bt.lst_bd (Bt.gst_bd (by assumption) (by assumption)) (by assumption) | exact Bt.btw_bd (by assumption) (Bt.lst_bd (by assumption) (by assumption)) (Bt.gst_bd (by assumption) (by assumption))))) (fun xq4 hq5 => ?_)
  refine GL.val (v := (.tuple #[(.int .u32 ((Bt.nxt a).1)), (.bool ((Bt.nxt a).2))])) (Ex.move rfl) (by decide) ?_
  refine GL.val (v := (.int .u32 ((Bt.nxt a).1))) (Ex.extract rfl rfl) (by decide) ?_
  refine GL.val (v := (.bool ((Bt.nxt a).2))) (Ex.extract rfl rfl) (by decide) ?_
  refine GL.val (v := (.int .u32 ((Bt.nxt a).1))) (Ex.assign rfl) (by decide) ?_
  refine GL.val (v := (.bool ((Bt.nxt a).2))) (Ex.assign rfl) (by decide) ?_
  refine GL.nil ?_
  refine GE.thenN ?_
  refine GC.seq ?_
  refine GC.region ?_
  refine GL.val (v := (.int .u32 a)) (Ex.move rfl) (by decide) ?_
  refine GL.step (Stp.callR (σ := Unit) (p := fun rz => True) (v := fun rz => (.tuple #[(.int .u32 ((Bt.nxt a).1)), (.bool ((Bt.nxt a).2))])) (N := fun rz => []) (vs := [(.int .u32 a)]) rfl rfl T.own22 (by decide) (fun wc hw => next_r a wc (by first | assumption | omega | exact Bt.lst_bd (by assumption) (by assumption) | exact Bt.gst_bd (by assumption) (by assumption) | exact Bt.key_bd (by assumption) | exact Bt.unkey_bd (by assumption) | exact Bt.nxt_bd (by assumption) | exact Bt.lst_bd (Bt.gst_bd (by assumption) (by assumption)) (by assumption) | exact Bt.btw_bd (by assumption) (Bt.lst_bd (by assumption) (by assumption)) (Bt.gst_bd (by assumption) (by assumption))))) (fun xq6 hq7 => ?_)
  refine GL.val (v := (.tuple #[(.int .u32 ((Bt.nxt a).1)), (.bool ((Bt.nxt a).2))])) (Ex.move rfl) (by decide) ?_
  refine GL.val (v := (.int .u32 ((Bt.nxt a).1))) (Ex.extract rfl rfl) (by decide) ?_
  refine GL.val (v := (.bool ((Bt.nxt a).2))) (Ex.extract rfl rfl) (by decide) ?_
  refine GL.val (v := (.int .u32 ((Bt.nxt a).1))) (Ex.assign rfl) (by decide) ?_
  refine GL.val (v := (.bool ((Bt.nxt a).2))) (Ex.assign rfl) (by decide) ?_
  refine GL.nil ?_
  refine GE.thenN ?_
  refine GC.seq ?_
  refine GC.region ?_
  refine GL.val (v := (.int .u32 a)) (Ex.move rfl) (by decide) ?_
  refine GL.step (Stp.callR (σ := Unit) (p := fun rz => True) (v := fun rz => (.tuple #[(.int .u32 ((Bt.prv a).1)), (.bool ((Bt.prv a).2))])) (N := fun rz => []) (vs := [(.int .u32 a)]) rfl rfl T.own23 (by decide) (fun wc hw => prev_p a wc (by first | assumption | omega | exact Bt.lst_bd (by assumption) (by assumption) | exact Bt.gst_bd (by assumption) (by assumption) | exact Bt.key_bd (by assumption) | exact Bt.unkey_bd (by assumption) | exact Bt.nxt_bd (by assumption) | exact Bt.lst_bd (Bt.gst_bd (by assumption) (by assumption)) (by assumption) | exact Bt.btw_bd (by assumption) (Bt.lst_bd (by assumption) (by assumption)) (Bt.gst_bd (by assumption) (by assumption))))) (fun xq8 hq9 => ?_)
  refine GL.val (v := (.tuple #[(.int .u32 ((Bt.prv a).1)), (.bool ((Bt.prv a).2))])) (Ex.move rfl) (by decide) ?_
  refine GL.val (v := (.int .u32 ((Bt.prv a).1))) (Ex.extract rfl rfl) (by decide) ?_
  refine GL.val (v := (.bool ((Bt.prv a).2))) (Ex.extract rfl rfl) (by decide) ?_
  refine GL.val (v := (.int .u32 ((Bt.prv a).1))) (Ex.assign rfl) (by decide) ?_
  refine GL.val (v := (.bool ((Bt.prv a).2))) (Ex.assign rfl) (by decide) ?_
  refine GL.nil ?_
  refine GE.thenN ?_
  refine GC.seq ?_
  refine GC.region ?_
  refine GL.val (v := (.int .u32 a)) (Ex.move rfl) (by decide) ?_
  refine GL.step (Stp.callR (σ := Unit) (p := fun rz => True) (v := fun rz => (.tuple #[(.int .u32 ((Bt.prv a).1)), (.bool ((Bt.prv a).2))])) (N := fun rz => []) (vs := [(.int .u32 a)]) rfl rfl T.own24 (by decide) (fun wc hw => prev_r a wc (by first | assumption | omega | exact Bt.lst_bd (by assumption) (by assumption) | exact Bt.gst_bd (by assumption) (by assumption) | exact Bt.key_bd (by assumption) | exact Bt.unkey_bd (by assumption) | exact Bt.nxt_bd (by assumption) | exact Bt.lst_bd (Bt.gst_bd (by assumption) (by assumption)) (by assumption) | exact Bt.btw_bd (by assumption) (Bt.lst_bd (by assumption) (by assumption)) (Bt.gst_bd (by assumption) (by assumption))))) (fun xq10 hq11 => ?_)
  refine GL.val (v := (.tuple #[(.int .u32 ((Bt.prv a).1)), (.bool ((Bt.prv a).2))])) (Ex.move rfl) (by decide) ?_
  refine GL.val (v := (.int .u32 ((Bt.prv a).1))) (Ex.extract rfl rfl) (by decide) ?_
  refine GL.val (v := (.bool ((Bt.prv a).2))) (Ex.extract rfl rfl) (by decide) ?_
  refine GL.val (v := (.int .u32 ((Bt.prv a).1))) (Ex.assign rfl) (by decide) ?_
  refine GL.val (v := (.bool ((Bt.prv a).2))) (Ex.assign rfl) (by decide) ?_
  refine GL.nil ?_
  refine GE.thenN ?_
  refine GC.seq ?_
  refine GC.region ?_
  refine GL.val (v := (.int .u32 a)) (Ex.move rfl) (by decide) ?_
  refine GL.step (Stp.callR (σ := Unit) (p := fun rz => True) (v := fun rz => (.int .u32 (Bt.key a))) (N := fun rz => []) (vs := [(.int .u32 a)]) rfl rfl T.own25 (by decide) (fun wc hw => key_p a wc (by first | assumption | omega | exact Bt.lst_bd (by assumption) (by assumption) | exact Bt.gst_bd (by assumption) (by assumption) | exact Bt.key_bd (by assumption) | exact Bt.unkey_bd (by assumption) | exact Bt.nxt_bd (by assumption) | exact Bt.lst_bd (Bt.gst_bd (by assumption) (by assumption)) (by assumption) | exact Bt.btw_bd (by assumption) (Bt.lst_bd (by assumption) (by assumption)) (Bt.gst_bd (by assumption) (by assumption))))) (fun xq12 hq13 => ?_)
  refine GL.val (v := (.int .u32 a)) (Ex.move rfl) (by decide) ?_
  refine GL.step (Stp.callR (σ := Unit) (p := fun rz => True) (v := fun rz => (.int .u32 (Bt.key a))) (N := fun rz => []) (vs := [(.int .u32 a)]) rfl rfl T.own26 (by decide) (fun wc hw => key_r a wc (by first | assumption | omega | exact Bt.lst_bd (by assumption) (by assumption) | exact Bt.gst_bd (by assumption) (by assumption) | exact Bt.key_bd (by assumption) | exact Bt.unkey_bd (by assumption) | exact Bt.nxt_bd (by assumption) | exact Bt.lst_bd (Bt.gst_bd (by assumption) (by assumption)) (by assumption) | exact Bt.btw_bd (by assumption) (Bt.lst_bd (by assumption) (by assumption)) (Bt.gst_bd (by assumption) (by assumption))))) (fun xq14 hq15 => ?_)
  refine GL.val (v := (.bool true)) (Ex.cast (Ex.eql rfl rfl) (congrArg Value.bool (decide_eq_true (by simp)))) (by decide) ?_
  refine GL.val (v := (.bool true)) (Ex.move rfl) (by decide) ?_
  refine GL.stepG (tj := 40) rfl rfl (Ex.wp (v := (.int .u32 a)) (Ex.move rfl) (by decide)) (fun _ _ => ?_)
  refine GL.stepG (tj := 40) rfl rfl (Stp.callR (σ := Unit) (p := fun rz => True) (v := fun rz => (.int .u32 (Bt.unkey a))) (N := fun rz => []) (vs := [(.int .u32 a)]) rfl rfl T.own27 (by decide) (fun wc hw => unkey_p a wc (by first | assumption | omega | exact Bt.lst_bd (by assumption) (by assumption) | exact Bt.gst_bd (by assumption) (by assumption) | exact Bt.key_bd (by assumption) | exact Bt.unkey_bd (by assumption) | exact Bt.nxt_bd (by assumption) | exact Bt.lst_bd (Bt.gst_bd (by assumption) (by assumption)) (by assumption) | exact Bt.btw_bd (by assumption) (Bt.lst_bd (by assumption) (by assumption)) (Bt.gst_bd (by assumption) (by assumption))))) (fun xq16 hq17 => ?_)
  refine GL.stepG (tj := 40) rfl rfl (Ex.wp (v := (.int .u32 a)) (Ex.move rfl) (by decide)) (fun _ _ => ?_)
  refine GL.stepG (tj := 40) rfl rfl (Stp.callR (σ := Unit) (p := fun rz => True) (v := fun rz => (.int .u32 (Bt.unkey a))) (N := fun rz => []) (vs := [(.int .u32 a)]) rfl rfl T.own28 (by decide) (fun wc hw => unkey_r a wc (by first | assumption | omega | exact Bt.lst_bd (by assumption) (by assumption) | exact Bt.gst_bd (by assumption) (by assumption) | exact Bt.key_bd (by assumption) | exact Bt.unkey_bd (by assumption) | exact Bt.nxt_bd (by assumption) | exact Bt.lst_bd (Bt.gst_bd (by assumption) (by assumption)) (by assumption) | exact Bt.btw_bd (by assumption) (Bt.lst_bd (by assumption) (by assumption)) (Bt.gst_bd (by assumption) (by assumption))))) (fun xq18 hq19 => ?_)
  refine GL.stepG (tj := 40) rfl rfl (Ex.wp (v := (.bool true)) (Ex.cast (Ex.eql rfl rfl) (congrArg Value.bool (decide_eq_true (by simp)))) (by decide)) (fun _ _ => ?_)
  refine GL.val (v := (.bool true)) (Ex.pickT rfl rfl) (by decide) ?_
  refine GL.val (v := (.bool true)) (Ex.move rfl) (by decide) ?_
  refine GL.stepG (tj := 47) rfl rfl (Ex.wp (v := (.int .u32 ((Bt.nxt a).1))) (Ex.move rfl) (by decide)) (fun _ _ => ?_)
  refine GL.stepG (tj := 47) rfl rfl (Ex.wp (v := (.int .u32 ((Bt.nxt a).1))) (Ex.move rfl) (by decide)) (fun _ _ => ?_)
  refine GL.stepG (tj := 47) rfl rfl (Ex.wp (v := (.bool true)) (Ex.cast (Ex.eql rfl rfl) (congrArg Value.bool (decide_eq_true (by simp)))) (by decide)) (fun _ _ => ?_)
  refine GL.val (v := (.bool true)) (Ex.pickT rfl rfl) (by decide) ?_
  refine GL.val (v := (.bool true)) (Ex.move rfl) (by decide) ?_
  refine GL.stepG (tj := 52) rfl rfl (Ex.wp (v := (.bool ((Bt.nxt a).2))) (Ex.move rfl) (by decide)) (fun _ _ => ?_)
  refine GL.stepG (tj := 52) rfl rfl (Ex.wp (v := (.bool ((Bt.nxt a).2))) (Ex.move rfl) (by decide)) (fun _ _ => ?_)
  refine GL.stepG (tj := 52) rfl rfl (Ex.wp (v := (.bool true)) (Ex.cast (Ex.eqlB rfl rfl Try.underlying4) (by simp)) (by decide)) (fun _ _ => ?_)
  refine GL.val (v := (.bool true)) (Ex.pickT rfl rfl) (by decide) ?_
  refine GL.val (v := (.bool true)) (Ex.move rfl) (by decide) ?_
  refine GL.stepG (tj := 57) rfl rfl (Ex.wp (v := (.int .u32 ((Bt.prv a).1))) (Ex.move rfl) (by decide)) (fun _ _ => ?_)
  refine GL.stepG (tj := 57) rfl rfl (Ex.wp (v := (.int .u32 ((Bt.prv a).1))) (Ex.move rfl) (by decide)) (fun _ _ => ?_)
  refine GL.stepG (tj := 57) rfl rfl (Ex.wp (v := (.bool true)) (Ex.cast (Ex.eql rfl rfl) (congrArg Value.bool (decide_eq_true (by simp)))) (by decide)) (fun _ _ => ?_)
  refine GL.val (v := (.bool true)) (Ex.pickT rfl rfl) (by decide) ?_
  refine GL.val (v := (.bool true)) (Ex.move rfl) (by decide) ?_
  refine GL.stepG (tj := 62) rfl rfl (Ex.wp (v := (.bool ((Bt.prv a).2))) (Ex.move rfl) (by decide)) (fun _ _ => ?_)
  refine GL.stepG (tj := 62) rfl rfl (Ex.wp (v := (.bool ((Bt.prv a).2))) (Ex.move rfl) (by decide)) (fun _ _ => ?_)
  refine GL.stepG (tj := 62) rfl rfl (Ex.wp (v := (.bool true)) (Ex.cast (Ex.eqlB rfl rfl Try.underlying4) (by simp)) (by decide)) (fun _ _ => ?_)
  refine GL.val (v := (.bool true)) (Ex.pickT rfl rfl) (by decide) ?_
  refine GL.val (v := (.bool true)) (Ex.move rfl) (by decide) ?_
  refine GL.stepG (tj := 67) rfl rfl (Ex.wp (v := (.int .u32 a)) (Ex.move rfl) (by decide)) (fun _ _ => ?_)
  refine GL.stepG (tj := 67) rfl rfl (Ex.wp (v := (.int .u32 b)) (Ex.move rfl) (by decide)) (fun _ _ => ?_)
  refine GL.stepG (tj := 67) rfl rfl (Stp.callR (σ := Unit) (p := fun rz => True) (v := fun rz => (.int .i64 (Bt.key b - Bt.key a))) (N := fun rz => []) (vs := [(.int .u32 a), (.int .u32 b)]) rfl rfl T.own29 (by decide) (fun wc hw => apart_p a b wc (by first | assumption | omega | exact Bt.lst_bd (by assumption) (by assumption) | exact Bt.gst_bd (by assumption) (by assumption) | exact Bt.key_bd (by assumption) | exact Bt.unkey_bd (by assumption) | exact Bt.nxt_bd (by assumption) | exact Bt.lst_bd (Bt.gst_bd (by assumption) (by assumption)) (by assumption) | exact Bt.btw_bd (by assumption) (Bt.lst_bd (by assumption) (by assumption)) (Bt.gst_bd (by assumption) (by assumption))) (by first | assumption | omega | exact Bt.lst_bd (by assumption) (by assumption) | exact Bt.gst_bd (by assumption) (by assumption) | exact Bt.key_bd (by assumption) | exact Bt.unkey_bd (by assumption) | exact Bt.nxt_bd (by assumption) | exact Bt.lst_bd (Bt.gst_bd (by assumption) (by assumption)) (by assumption) | exact Bt.btw_bd (by assumption) (Bt.lst_bd (by assumption) (by assumption)) (Bt.gst_bd (by assumption) (by assumption))))) (fun xq20 hq21 => ?_)
  refine GL.stepG (tj := 67) rfl rfl (Ex.wp (v := (.int .u32 a)) (Ex.move rfl) (by decide)) (fun _ _ => ?_)
  refine GL.stepG (tj := 67) rfl rfl (Ex.wp (v := (.int .u32 b)) (Ex.move rfl) (by decide)) (fun _ _ => ?_)
  refine GL.stepG (tj := 67) rfl rfl (Stp.callR (σ := Unit) (p := fun rz => True) (v := fun rz => (.int .i64 (Bt.key b - Bt.key a))) (N := fun rz => []) (vs := [(.int .u32 a), (.int .u32 b)]) rfl rfl T.own30 (by decide) (fun wc hw => apart_r a b wc (by first | assumption | omega | exact Bt.lst_bd (by assumption) (by assumption) | exact Bt.gst_bd (by assumption) (by assumption) | exact Bt.key_bd (by assumption) | exact Bt.unkey_bd (by assumption) | exact Bt.nxt_bd (by assumption) | exact Bt.lst_bd (Bt.gst_bd (by assumption) (by assumption)) (by assumption) | exact Bt.btw_bd (by assumption) (Bt.lst_bd (by assumption) (by assumption)) (Bt.gst_bd (by assumption) (by assumption))) (by first | assumption | omega | exact Bt.lst_bd (by assumption) (by assumption) | exact Bt.gst_bd (by assumption) (by assumption) | exact Bt.key_bd (by assumption) | exact Bt.unkey_bd (by assumption) | exact Bt.nxt_bd (by assumption) | exact Bt.lst_bd (Bt.gst_bd (by assumption) (by assumption)) (by assumption) | exact Bt.btw_bd (by assumption) (Bt.lst_bd (by assumption) (by assumption)) (Bt.gst_bd (by assumption) (by assumption))))) (fun xq22 hq23 => ?_)
  refine GL.stepG (tj := 67) rfl rfl (Ex.wp (v := (.bool true)) (Ex.cast (Ex.eql rfl rfl) (congrArg Value.bool (decide_eq_true (by simp)))) (by decide)) (fun _ _ => ?_)
  refine GL.val (v := (.bool true)) (Ex.pickT rfl rfl) (by decide) ?_
  refine GL.val (v := (.bool true)) (Ex.move rfl) (by decide) ?_
  refine GL.stepG (tj := 76) rfl rfl (Ex.wp (v := (.int .u32 a)) (Ex.move rfl) (by decide)) (fun _ _ => ?_)
  refine GL.stepG (tj := 76) rfl rfl (Ex.wp (v := (.int .u32 b)) (Ex.move rfl) (by decide)) (fun _ _ => ?_)
  refine GL.stepG (tj := 76) rfl rfl (Stp.callR (σ := Unit) (p := fun rz => True) (v := fun rz => (.bool (decide (Bt.key a < Bt.key b)))) (N := fun rz => []) (vs := [(.int .u32 a), (.int .u32 b)]) rfl rfl T.own31 (by decide) (fun wc hw => before_p a b wc (by first | assumption | omega | exact Bt.lst_bd (by assumption) (by assumption) | exact Bt.gst_bd (by assumption) (by assumption) | exact Bt.key_bd (by assumption) | exact Bt.unkey_bd (by assumption) | exact Bt.nxt_bd (by assumption) | exact Bt.lst_bd (Bt.gst_bd (by assumption) (by assumption)) (by assumption) | exact Bt.btw_bd (by assumption) (Bt.lst_bd (by assumption) (by assumption)) (Bt.gst_bd (by assumption) (by assumption))) (by first | assumption | omega | exact Bt.lst_bd (by assumption) (by assumption) | exact Bt.gst_bd (by assumption) (by assumption) | exact Bt.key_bd (by assumption) | exact Bt.unkey_bd (by assumption) | exact Bt.nxt_bd (by assumption) | exact Bt.lst_bd (Bt.gst_bd (by assumption) (by assumption)) (by assumption) | exact Bt.btw_bd (by assumption) (Bt.lst_bd (by assumption) (by assumption)) (Bt.gst_bd (by assumption) (by assumption))))) (fun xq24 hq25 => ?_)
  refine GL.stepG (tj := 76) rfl rfl (Ex.wp (v := (.int .u32 a)) (Ex.move rfl) (by decide)) (fun _ _ => ?_)
  refine GL.stepG (tj := 76) rfl rfl (Ex.wp (v := (.int .u32 b)) (Ex.move rfl) (by decide)) (fun _ _ => ?_)
  refine GL.stepG (tj := 76) rfl rfl (Stp.callR (σ := Unit) (p := fun rz => True) (v := fun rz => (.bool (decide (Bt.key a < Bt.key b)))) (N := fun rz => []) (vs := [(.int .u32 a), (.int .u32 b)]) rfl rfl T.own32 (by decide) (fun wc hw => before_r a b wc (by first | assumption | omega | exact Bt.lst_bd (by assumption) (by assumption) | exact Bt.gst_bd (by assumption) (by assumption) | exact Bt.key_bd (by assumption) | exact Bt.unkey_bd (by assumption) | exact Bt.nxt_bd (by assumption) | exact Bt.lst_bd (Bt.gst_bd (by assumption) (by assumption)) (by assumption) | exact Bt.btw_bd (by assumption) (Bt.lst_bd (by assumption) (by assumption)) (Bt.gst_bd (by assumption) (by assumption))) (by first | assumption | omega | exact Bt.lst_bd (by assumption) (by assumption) | exact Bt.gst_bd (by assumption) (by assumption) | exact Bt.key_bd (by assumption) | exact Bt.unkey_bd (by assumption) | exact Bt.nxt_bd (by assumption) | exact Bt.lst_bd (Bt.gst_bd (by assumption) (by assumption)) (by assumption) | exact Bt.btw_bd (by assumption) (Bt.lst_bd (by assumption) (by assumption)) (Bt.gst_bd (by assumption) (by assumption))))) (fun xq26 hq27 => ?_)
  refine GL.stepG (tj := 76) rfl rfl (Ex.wp (v := (.bool true)) (Ex.cast (Ex.eqlB rfl rfl Try.underlying4) (by simp)) (by decide)) (fun _ _ => ?_)
  refine GL.val (v := (.bool true)) (Ex.pickT rfl rfl) (by decide) ?_
  refine GL.val (v := (.bool true)) (Ex.assign rfl) (by decide) ?_
  refine GL.nil ?_
  refine GE.thenN ?_
  refine GC.ret ?_
  refine GC.ret1 rfl (Rv.tmp rfl) (fun wN HN => ?_)
  exact HN.ret () trivial rfl (List.nil_sublist _) rfl

set_option maxRecDepth 100000 in
set_option maxHeartbeats 1000000 in
theorem lawChosen (a b c : Int) (w : World) (ha : 0 ≤ a ∧ a < 4294967296) (hb : 0 ≤ b ∧ b < 4294967296) (hc : 0 ≤ c ∧ c < 4294967296) :
    Calls Try.prog 7 #[(.int .u32 a), (.int .u32 b), (.int .u32 c)] w (Ret w (fun _ : Unit => True) (fun _ => .bool true) (fun _ => [])) := by
  refine enter (M := None) (L := []) (n := 47) (l := [(0, (.int .u32 a)), (1, (.int .u32 b)), (2, (.int .u32 c))]) Try.func7 rfl rfl (Args.cons rfl (Args.cons rfl (Args.cons rfl (Args.nil _)))) (Hp.start _ _) ?_
  refine GC.seq ?_
  refine GC.region ?_
  refine GL.val (v := (.bool false)) (Ex.assign rfl) (by decide) ?_
  refine GL.nil ?_
  refine GE.thenN ?_
  refine GC.seq ?_
  refine GC.seq ?_
  refine GC.region ?_
  refine GL.step (Stp.callR (σ := Unit) (p := fun rz => True) (v := fun rz => (.bool true)) (N := fun rz => []) (vs := []) rfl rfl T.own10 (by decide) (fun wc hw => known wc)) (fun xq1 hq2 => ?_)
  refine GL.val (v := (.bool false)) (Ex.cast (Ex.not rfl) rfl) (by decide) ?_
  refine GL.nil ?_
  refine GE.thenN ?_
  refine GC.cond rfl (fun hq3 => by cases hq3) (fun _ => ?_)
  refine GC.skip ?_
  refine GE.thenN ?_
  refine GC.seq ?_
  refine GC.region ?_
  refine GL.val (v := (.int .u32 a)) (Ex.move rfl) (by decide) ?_
  refine GL.val (v := (.int .u32 b)) (Ex.move rfl) (by decide) ?_
  refine GL.step (Stp.callR (σ := Unit) (p := fun rz => True) (v := fun rz => (.int .u32 (Bt.lst a b))) (N := fun rz => []) (vs := [(.int .u32 a), (.int .u32 b)]) rfl rfl T.own34 (by decide) (fun wc hw => least_p a b wc (by first | assumption | omega | exact Bt.lst_bd (by assumption) (by assumption) | exact Bt.gst_bd (by assumption) (by assumption) | exact Bt.key_bd (by assumption) | exact Bt.unkey_bd (by assumption) | exact Bt.nxt_bd (by assumption) | exact Bt.lst_bd (Bt.gst_bd (by assumption) (by assumption)) (by assumption) | exact Bt.btw_bd (by assumption) (Bt.lst_bd (by assumption) (by assumption)) (Bt.gst_bd (by assumption) (by assumption))) (by first | assumption | omega | exact Bt.lst_bd (by assumption) (by assumption) | exact Bt.gst_bd (by assumption) (by assumption) | exact Bt.key_bd (by assumption) | exact Bt.unkey_bd (by assumption) | exact Bt.nxt_bd (by assumption) | exact Bt.lst_bd (Bt.gst_bd (by assumption) (by assumption)) (by assumption) | exact Bt.btw_bd (by assumption) (Bt.lst_bd (by assumption) (by assumption)) (Bt.gst_bd (by assumption) (by assumption))))) (fun xq4 hq5 => ?_)
  refine GL.val (v := (.int .u32 a)) (Ex.move rfl) (by decide) ?_
  refine GL.val (v := (.int .u32 b)) (Ex.move rfl) (by decide) ?_
  refine GL.step (Stp.callR (σ := Unit) (p := fun rz => True) (v := fun rz => (.int .u32 (Bt.lst a b))) (N := fun rz => []) (vs := [(.int .u32 a), (.int .u32 b)]) rfl rfl T.own35 (by decide) (fun wc hw => least_r a b wc (by first | assumption | omega | exact Bt.lst_bd (by assumption) (by assumption) | exact Bt.gst_bd (by assumption) (by assumption) | exact Bt.key_bd (by assumption) | exact Bt.unkey_bd (by assumption) | exact Bt.nxt_bd (by assumption) | exact Bt.lst_bd (Bt.gst_bd (by assumption) (by assumption)) (by assumption) | exact Bt.btw_bd (by assumption) (Bt.lst_bd (by assumption) (by assumption)) (Bt.gst_bd (by assumption) (by assumption))) (by first | assumption | omega | exact Bt.lst_bd (by assumption) (by assumption) | exact Bt.gst_bd (by assumption) (by assumption) | exact Bt.key_bd (by assumption) | exact Bt.unkey_bd (by assumption) | exact Bt.nxt_bd (by assumption) | exact Bt.lst_bd (Bt.gst_bd (by assumption) (by assumption)) (by assumption) | exact Bt.btw_bd (by assumption) (Bt.lst_bd (by assumption) (by assumption)) (Bt.gst_bd (by assumption) (by assumption))))) (fun xq6 hq7 => ?_)
  refine GL.val (v := (.bool true)) (Ex.cast (Ex.eql rfl rfl) (congrArg Value.bool (decide_eq_true (by simp)))) (by decide) ?_
  refine GL.val (v := (.bool true)) (Ex.move rfl) (by decide) ?_
  refine GL.stepG (tj := 16) rfl rfl (Ex.wp (v := (.int .u32 a)) (Ex.move rfl) (by decide)) (fun _ _ => ?_)
  refine GL.stepG (tj := 16) rfl rfl (Ex.wp (v := (.int .u32 b)) (Ex.move rfl) (by decide)) (fun _ _ => ?_)
  refine GL.stepG (tj := 16) rfl rfl (Stp.callR (σ := Unit) (p := fun rz => True) (v := fun rz => (.int .u32 (Bt.gst a b))) (N := fun rz => []) (vs := [(.int .u32 a), (.int .u32 b)]) rfl rfl T.own36 (by decide) (fun wc hw => greatest_p a b wc (by first | assumption | omega | exact Bt.lst_bd (by assumption) (by assumption) | exact Bt.gst_bd (by assumption) (by assumption) | exact Bt.key_bd (by assumption) | exact Bt.unkey_bd (by assumption) | exact Bt.nxt_bd (by assumption) | exact Bt.lst_bd (Bt.gst_bd (by assumption) (by assumption)) (by assumption) | exact Bt.btw_bd (by assumption) (Bt.lst_bd (by assumption) (by assumption)) (Bt.gst_bd (by assumption) (by assumption))) (by first | assumption | omega | exact Bt.lst_bd (by assumption) (by assumption) | exact Bt.gst_bd (by assumption) (by assumption) | exact Bt.key_bd (by assumption) | exact Bt.unkey_bd (by assumption) | exact Bt.nxt_bd (by assumption) | exact Bt.lst_bd (Bt.gst_bd (by assumption) (by assumption)) (by assumption) | exact Bt.btw_bd (by assumption) (Bt.lst_bd (by assumption) (by assumption)) (Bt.gst_bd (by assumption) (by assumption))))) (fun xq8 hq9 => ?_)
  refine GL.stepG (tj := 16) rfl rfl (Ex.wp (v := (.int .u32 a)) (Ex.move rfl) (by decide)) (fun _ _ => ?_)
  refine GL.stepG (tj := 16) rfl rfl (Ex.wp (v := (.int .u32 b)) (Ex.move rfl) (by decide)) (fun _ _ => ?_)
  refine GL.stepG (tj := 16) rfl rfl (Stp.callR (σ := Unit) (p := fun rz => True) (v := fun rz => (.int .u32 (Bt.gst a b))) (N := fun rz => []) (vs := [(.int .u32 a), (.int .u32 b)]) rfl rfl T.own37 (by decide) (fun wc hw => greatest_r a b wc (by first | assumption | omega | exact Bt.lst_bd (by assumption) (by assumption) | exact Bt.gst_bd (by assumption) (by assumption) | exact Bt.key_bd (by assumption) | exact Bt.unkey_bd (by assumption) | exact Bt.nxt_bd (by assumption) | exact Bt.lst_bd (Bt.gst_bd (by assumption) (by assumption)) (by assumption) | exact Bt.btw_bd (by assumption) (Bt.lst_bd (by assumption) (by assumption)) (Bt.gst_bd (by assumption) (by assumption))) (by first | assumption | omega | exact Bt.lst_bd (by assumption) (by assumption) | exact Bt.gst_bd (by assumption) (by assumption) | exact Bt.key_bd (by assumption) | exact Bt.unkey_bd (by assumption) | exact Bt.nxt_bd (by assumption) | exact Bt.lst_bd (Bt.gst_bd (by assumption) (by assumption)) (by assumption) | exact Bt.btw_bd (by assumption) (Bt.lst_bd (by assumption) (by assumption)) (Bt.gst_bd (by assumption) (by assumption))))) (fun xq10 hq11 => ?_)
  refine GL.stepG (tj := 16) rfl rfl (Ex.wp (v := (.bool true)) (Ex.cast (Ex.eql rfl rfl) (congrArg Value.bool (decide_eq_true (by simp)))) (by decide)) (fun _ _ => ?_)
  refine GL.val (v := (.bool true)) (Ex.pickT rfl rfl) (by decide) ?_
  refine GL.val (v := (.bool true)) (Ex.move rfl) (by decide) ?_
  refine GL.stepG (tj := 25) rfl rfl (Ex.wp (v := (.int .u32 a)) (Ex.move rfl) (by decide)) (fun _ _ => ?_)
  refine GL.stepG (tj := 25) rfl rfl (Ex.wp (v := (.int .u32 b)) (Ex.move rfl) (by decide)) (fun _ _ => ?_)
  refine GL.stepG (tj := 25) rfl rfl (Ex.wp (v := (.int .u32 c)) (Ex.move rfl) (by decide)) (fun _ _ => ?_)
  refine GL.stepG (tj := 25) rfl rfl (Stp.callR (σ := Unit) (p := fun rz => True) (v := fun rz => (.int .u32 (Bt.med a b c))) (N := fun rz => []) (vs := [(.int .u32 a), (.int .u32 b), (.int .u32 c)]) rfl rfl T.own38 (by decide) (fun wc hw => median_p a b c wc (by first | assumption | omega | exact Bt.lst_bd (by assumption) (by assumption) | exact Bt.gst_bd (by assumption) (by assumption) | exact Bt.key_bd (by assumption) | exact Bt.unkey_bd (by assumption) | exact Bt.nxt_bd (by assumption) | exact Bt.lst_bd (Bt.gst_bd (by assumption) (by assumption)) (by assumption) | exact Bt.btw_bd (by assumption) (Bt.lst_bd (by assumption) (by assumption)) (Bt.gst_bd (by assumption) (by assumption))) (by first | assumption | omega | exact Bt.lst_bd (by assumption) (by assumption) | exact Bt.gst_bd (by assumption) (by assumption) | exact Bt.key_bd (by assumption) | exact Bt.unkey_bd (by assumption) | exact Bt.nxt_bd (by assumption) | exact Bt.lst_bd (Bt.gst_bd (by assumption) (by assumption)) (by assumption) | exact Bt.btw_bd (by assumption) (Bt.lst_bd (by assumption) (by assumption)) (Bt.gst_bd (by assumption) (by assumption))) (by first | assumption | omega | exact Bt.lst_bd (by assumption) (by assumption) | exact Bt.gst_bd (by assumption) (by assumption) | exact Bt.key_bd (by assumption) | exact Bt.unkey_bd (by assumption) | exact Bt.nxt_bd (by assumption) | exact Bt.lst_bd (Bt.gst_bd (by assumption) (by assumption)) (by assumption) | exact Bt.btw_bd (by assumption) (Bt.lst_bd (by assumption) (by assumption)) (Bt.gst_bd (by assumption) (by assumption))))) (fun xq12 hq13 => ?_)
  refine GL.stepG (tj := 25) rfl rfl (Ex.wp (v := (.int .u32 a)) (Ex.move rfl) (by decide)) (fun _ _ => ?_)
  refine GL.stepG (tj := 25) rfl rfl (Ex.wp (v := (.int .u32 b)) (Ex.move rfl) (by decide)) (fun _ _ => ?_)
  refine GL.stepG (tj := 25) rfl rfl (Ex.wp (v := (.int .u32 c)) (Ex.move rfl) (by decide)) (fun _ _ => ?_)
  refine GL.stepG (tj := 25) rfl rfl (Stp.callR (σ := Unit) (p := fun rz => True) (v := fun rz => (.int .u32 (Bt.med a b c))) (N := fun rz => []) (vs := [(.int .u32 a), (.int .u32 b), (.int .u32 c)]) rfl rfl T.own39 (by decide) (fun wc hw => median_r a b c wc (by first | assumption | omega | exact Bt.lst_bd (by assumption) (by assumption) | exact Bt.gst_bd (by assumption) (by assumption) | exact Bt.key_bd (by assumption) | exact Bt.unkey_bd (by assumption) | exact Bt.nxt_bd (by assumption) | exact Bt.lst_bd (Bt.gst_bd (by assumption) (by assumption)) (by assumption) | exact Bt.btw_bd (by assumption) (Bt.lst_bd (by assumption) (by assumption)) (Bt.gst_bd (by assumption) (by assumption))) (by first | assumption | omega | exact Bt.lst_bd (by assumption) (by assumption) | exact Bt.gst_bd (by assumption) (by assumption) | exact Bt.key_bd (by assumption) | exact Bt.unkey_bd (by assumption) | exact Bt.nxt_bd (by assumption) | exact Bt.lst_bd (Bt.gst_bd (by assumption) (by assumption)) (by assumption) | exact Bt.btw_bd (by assumption) (Bt.lst_bd (by assumption) (by assumption)) (Bt.gst_bd (by assumption) (by assumption))) (by first | assumption | omega | exact Bt.lst_bd (by assumption) (by assumption) | exact Bt.gst_bd (by assumption) (by assumption) | exact Bt.key_bd (by assumption) | exact Bt.unkey_bd (by assumption) | exact Bt.nxt_bd (by assumption) | exact Bt.lst_bd (Bt.gst_bd (by assumption) (by assumption)) (by assumption) | exact Bt.btw_bd (by assumption) (Bt.lst_bd (by assumption) (by assumption)) (Bt.gst_bd (by assumption) (by assumption))))) (fun xq14 hq15 => ?_)
  refine GL.stepG (tj := 25) rfl rfl (Ex.wp (v := (.bool true)) (Ex.cast (Ex.eql rfl rfl) (congrArg Value.bool (decide_eq_true (by simp)))) (by decide)) (fun _ _ => ?_)
  refine GL.val (v := (.bool true)) (Ex.pickT rfl rfl) (by decide) ?_
  refine GL.val (v := (.bool true)) (Ex.move rfl) (by decide) ?_
  refine GL.stepG (tj := 36) rfl rfl (Ex.wp (v := (.int .u32 a)) (Ex.move rfl) (by decide)) (fun _ _ => ?_)
  refine GL.stepG (tj := 36) rfl rfl (Ex.wp (v := (.int .u32 b)) (Ex.move rfl) (by decide)) (fun _ _ => ?_)
  refine GL.stepG (tj := 36) rfl rfl (Ex.wp (v := (.int .u32 c)) (Ex.move rfl) (by decide)) (fun _ _ => ?_)
  refine GL.stepG (tj := 36) rfl rfl (Stp.callR (σ := Unit) (p := fun rz => True) (v := fun rz => (.int .u32 (Bt.btw a b c))) (N := fun rz => []) (vs := [(.int .u32 a), (.int .u32 b), (.int .u32 c)]) rfl rfl T.own40 (by decide) (fun wc hw => btw_p a b c wc (by first | assumption | omega | exact Bt.lst_bd (by assumption) (by assumption) | exact Bt.gst_bd (by assumption) (by assumption) | exact Bt.key_bd (by assumption) | exact Bt.unkey_bd (by assumption) | exact Bt.nxt_bd (by assumption) | exact Bt.lst_bd (Bt.gst_bd (by assumption) (by assumption)) (by assumption) | exact Bt.btw_bd (by assumption) (Bt.lst_bd (by assumption) (by assumption)) (Bt.gst_bd (by assumption) (by assumption))) (by first | assumption | omega | exact Bt.lst_bd (by assumption) (by assumption) | exact Bt.gst_bd (by assumption) (by assumption) | exact Bt.key_bd (by assumption) | exact Bt.unkey_bd (by assumption) | exact Bt.nxt_bd (by assumption) | exact Bt.lst_bd (Bt.gst_bd (by assumption) (by assumption)) (by assumption) | exact Bt.btw_bd (by assumption) (Bt.lst_bd (by assumption) (by assumption)) (Bt.gst_bd (by assumption) (by assumption))) (by first | assumption | omega | exact Bt.lst_bd (by assumption) (by assumption) | exact Bt.gst_bd (by assumption) (by assumption) | exact Bt.key_bd (by assumption) | exact Bt.unkey_bd (by assumption) | exact Bt.nxt_bd (by assumption) | exact Bt.lst_bd (Bt.gst_bd (by assumption) (by assumption)) (by assumption) | exact Bt.btw_bd (by assumption) (Bt.lst_bd (by assumption) (by assumption)) (Bt.gst_bd (by assumption) (by assumption))))) (fun xq16 hq17 => ?_)
  refine GL.stepG (tj := 36) rfl rfl (Ex.wp (v := (.int .u32 a)) (Ex.move rfl) (by decide)) (fun _ _ => ?_)
  refine GL.stepG (tj := 36) rfl rfl (Ex.wp (v := (.int .u32 b)) (Ex.move rfl) (by decide)) (fun _ _ => ?_)
  refine GL.stepG (tj := 36) rfl rfl (Ex.wp (v := (.int .u32 c)) (Ex.move rfl) (by decide)) (fun _ _ => ?_)
  refine GL.stepG (tj := 36) rfl rfl (Stp.callR (σ := Unit) (p := fun rz => True) (v := fun rz => (.int .u32 (Bt.btw a b c))) (N := fun rz => []) (vs := [(.int .u32 a), (.int .u32 b), (.int .u32 c)]) rfl rfl T.own41 (by decide) (fun wc hw => btw_r a b c wc (by first | assumption | omega | exact Bt.lst_bd (by assumption) (by assumption) | exact Bt.gst_bd (by assumption) (by assumption) | exact Bt.key_bd (by assumption) | exact Bt.unkey_bd (by assumption) | exact Bt.nxt_bd (by assumption) | exact Bt.lst_bd (Bt.gst_bd (by assumption) (by assumption)) (by assumption) | exact Bt.btw_bd (by assumption) (Bt.lst_bd (by assumption) (by assumption)) (Bt.gst_bd (by assumption) (by assumption))) (by first | assumption | omega | exact Bt.lst_bd (by assumption) (by assumption) | exact Bt.gst_bd (by assumption) (by assumption) | exact Bt.key_bd (by assumption) | exact Bt.unkey_bd (by assumption) | exact Bt.nxt_bd (by assumption) | exact Bt.lst_bd (Bt.gst_bd (by assumption) (by assumption)) (by assumption) | exact Bt.btw_bd (by assumption) (Bt.lst_bd (by assumption) (by assumption)) (Bt.gst_bd (by assumption) (by assumption))) (by first | assumption | omega | exact Bt.lst_bd (by assumption) (by assumption) | exact Bt.gst_bd (by assumption) (by assumption) | exact Bt.key_bd (by assumption) | exact Bt.unkey_bd (by assumption) | exact Bt.nxt_bd (by assumption) | exact Bt.lst_bd (Bt.gst_bd (by assumption) (by assumption)) (by assumption) | exact Bt.btw_bd (by assumption) (Bt.lst_bd (by assumption) (by assumption)) (Bt.gst_bd (by assumption) (by assumption))))) (fun xq18 hq19 => ?_)
  refine GL.stepG (tj := 36) rfl rfl (Ex.wp (v := (.bool true)) (Ex.cast (Ex.eql rfl rfl) (congrArg Value.bool (decide_eq_true (by simp)))) (by decide)) (fun _ _ => ?_)
  refine GL.val (v := (.bool true)) (Ex.pickT rfl rfl) (by decide) ?_
  refine GL.val (v := (.bool true)) (Ex.assign rfl) (by decide) ?_
  refine GL.nil ?_
  refine GE.thenN ?_
  refine GC.ret ?_
  refine GC.ret1 rfl (Rv.tmp rfl) (fun wN HN => ?_)
  exact HN.ret () trivial rfl (List.nil_sublist _) rfl

set_option maxRecDepth 100000 in
set_option maxHeartbeats 1000000 in
theorem lawMiddle (a b c : Int) (w : World) (ha : 0 ≤ a ∧ a < 4294967296) (hb : 0 ≤ b ∧ b < 4294967296) (hc : 0 ≤ c ∧ c < 4294967296) :
    Calls Try.prog 8 #[(.int .u32 a), (.int .u32 b), (.int .u32 c)] w (Ret w (fun _ : Unit => True) (fun _ => .bool true) (fun _ => [])) := by
  refine enter (M := None) (L := []) (n := 100) (l := [(0, (.int .u32 a)), (1, (.int .u32 b)), (2, (.int .u32 c))]) Try.func8 rfl rfl (Args.cons rfl (Args.cons rfl (Args.cons rfl (Args.nil _)))) (Hp.start _ _) ?_
  refine GC.seq ?_
  refine GC.region ?_
  refine GL.val (v := (.bool false)) (Ex.assign rfl) (by decide) ?_
  refine GL.nil ?_
  refine GE.thenN ?_
  refine GC.seq ?_
  refine GC.seq ?_
  refine GC.region ?_
  refine GL.step (Stp.callR (σ := Unit) (p := fun rz => True) (v := fun rz => (.bool true)) (N := fun rz => []) (vs := []) rfl rfl T.own10 (by decide) (fun wc hw => known wc)) (fun xq1 hq2 => ?_)
  refine GL.val (v := (.bool false)) (Ex.cast (Ex.not rfl) rfl) (by decide) ?_
  refine GL.nil ?_
  refine GE.thenN ?_
  refine GC.cond rfl (fun hq3 => by cases hq3) (fun _ => ?_)
  refine GC.skip ?_
  refine GE.thenN ?_
  refine GC.seq ?_
  refine GC.region ?_
  refine GL.val (v := (.int .u32 a)) (Ex.move rfl) (by decide) ?_
  refine GL.val (v := (.int .u32 b)) (Ex.move rfl) (by decide) ?_
  refine GL.val (v := (.int .u32 c)) (Ex.move rfl) (by decide) ?_
  refine GL.step (Stp.callR (σ := Unit) (p := fun rz => True) (v := fun rz => (.int .u32 (Bt.med a b c))) (N := fun rz => []) (vs := [(.int .u32 a), (.int .u32 b), (.int .u32 c)]) rfl rfl T.own38 (by decide) (fun wc hw => median_p a b c wc (by first | assumption | omega | exact Bt.lst_bd (by assumption) (by assumption) | exact Bt.gst_bd (by assumption) (by assumption) | exact Bt.key_bd (by assumption) | exact Bt.unkey_bd (by assumption) | exact Bt.nxt_bd (by assumption) | exact Bt.lst_bd (Bt.gst_bd (by assumption) (by assumption)) (by assumption) | exact Bt.btw_bd (by assumption) (Bt.lst_bd (by assumption) (by assumption)) (Bt.gst_bd (by assumption) (by assumption))) (by first | assumption | omega | exact Bt.lst_bd (by assumption) (by assumption) | exact Bt.gst_bd (by assumption) (by assumption) | exact Bt.key_bd (by assumption) | exact Bt.unkey_bd (by assumption) | exact Bt.nxt_bd (by assumption) | exact Bt.lst_bd (Bt.gst_bd (by assumption) (by assumption)) (by assumption) | exact Bt.btw_bd (by assumption) (Bt.lst_bd (by assumption) (by assumption)) (Bt.gst_bd (by assumption) (by assumption))) (by first | assumption | omega | exact Bt.lst_bd (by assumption) (by assumption) | exact Bt.gst_bd (by assumption) (by assumption) | exact Bt.key_bd (by assumption) | exact Bt.unkey_bd (by assumption) | exact Bt.nxt_bd (by assumption) | exact Bt.lst_bd (Bt.gst_bd (by assumption) (by assumption)) (by assumption) | exact Bt.btw_bd (by assumption) (Bt.lst_bd (by assumption) (by assumption)) (Bt.gst_bd (by assumption) (by assumption))))) (fun xq4 hq5 => ?_)
  refine GL.val (v := (.int .u32 (Bt.med a b c))) (Ex.assign rfl) (by decide) ?_
  refine GL.nil ?_
  refine GE.thenN ?_
  refine GC.seq ?_
  refine GC.seq ?_
  refine GC.region ?_
  refine GL.val (v := (.int .u32 (Bt.med a b c))) (Ex.move rfl) (by decide) ?_
  refine GL.val (v := (.int .u32 b)) (Ex.move rfl) (by decide) ?_
  refine GL.val (v := (.int .u32 c)) (Ex.move rfl) (by decide) ?_
  refine GL.val (v := (.int .u32 a)) (Ex.move rfl) (by decide) ?_
  refine GL.step (Stp.callR (σ := Unit) (p := fun rz => True) (v := fun rz => (.int .u32 (Bt.med b c a))) (N := fun rz => []) (vs := [(.int .u32 b), (.int .u32 c), (.int .u32 a)]) rfl rfl T.own38 (by decide) (fun wc hw => median_p b c a wc (by first | assumption | omega | exact Bt.lst_bd (by assumption) (by assumption) | exact Bt.gst_bd (by assumption) (by assumption) | exact Bt.key_bd (by assumption) | exact Bt.unkey_bd (by assumption) | exact Bt.nxt_bd (by assumption) | exact Bt.lst_bd (Bt.gst_bd (by assumption) (by assumption)) (by assumption) | exact Bt.btw_bd (by assumption) (Bt.lst_bd (by assumption) (by assumption)) (Bt.gst_bd (by assumption) (by assumption))) (by first | assumption | omega | exact Bt.lst_bd (by assumption) (by assumption) | exact Bt.gst_bd (by assumption) (by assumption) | exact Bt.key_bd (by assumption) | exact Bt.unkey_bd (by assumption) | exact Bt.nxt_bd (by assumption) | exact Bt.lst_bd (Bt.gst_bd (by assumption) (by assumption)) (by assumption) | exact Bt.btw_bd (by assumption) (Bt.lst_bd (by assumption) (by assumption)) (Bt.gst_bd (by assumption) (by assumption))) (by first | assumption | omega | exact Bt.lst_bd (by assumption) (by assumption) | exact Bt.gst_bd (by assumption) (by assumption) | exact Bt.key_bd (by assumption) | exact Bt.unkey_bd (by assumption) | exact Bt.nxt_bd (by assumption) | exact Bt.lst_bd (Bt.gst_bd (by assumption) (by assumption)) (by assumption) | exact Bt.btw_bd (by assumption) (Bt.lst_bd (by assumption) (by assumption)) (Bt.gst_bd (by assumption) (by assumption))))) (fun xq6 hq7 => ?_)
  refine GL.val (v := (.bool false)) (Ex.cast (Ex.neq rfl rfl) (congrArg Value.bool (decide_eq_false (by exact fun h => h (Bt.med_a ha hb hc))))) (by decide) ?_
  refine GL.val (v := (.bool false)) (Ex.move rfl) (by decide) ?_
  refine GL.stepG (tj := 23) rfl rfl (Ex.wp (v := (.int .u32 (Bt.med a b c))) (Ex.move rfl) (by decide)) (fun _ _ => ?_)
  refine GL.stepG (tj := 23) rfl rfl (Ex.wp (v := (.int .u32 c)) (Ex.move rfl) (by decide)) (fun _ _ => ?_)
  refine GL.stepG (tj := 23) rfl rfl (Ex.wp (v := (.int .u32 b)) (Ex.move rfl) (by decide)) (fun _ _ => ?_)
  refine GL.stepG (tj := 23) rfl rfl (Ex.wp (v := (.int .u32 a)) (Ex.move rfl) (by decide)) (fun _ _ => ?_)
  refine GL.stepG (tj := 23) rfl rfl (Stp.callR (σ := Unit) (p := fun rz => True) (v := fun rz => (.int .u32 (Bt.med c b a))) (N := fun rz => []) (vs := [(.int .u32 c), (.int .u32 b), (.int .u32 a)]) rfl rfl T.own38 (by decide) (fun wc hw => median_p c b a wc (by first | assumption | omega | exact Bt.lst_bd (by assumption) (by assumption) | exact Bt.gst_bd (by assumption) (by assumption) | exact Bt.key_bd (by assumption) | exact Bt.unkey_bd (by assumption) | exact Bt.nxt_bd (by assumption) | exact Bt.lst_bd (Bt.gst_bd (by assumption) (by assumption)) (by assumption) | exact Bt.btw_bd (by assumption) (Bt.lst_bd (by assumption) (by assumption)) (Bt.gst_bd (by assumption) (by assumption))) (by first | assumption | omega | exact Bt.lst_bd (by assumption) (by assumption) | exact Bt.gst_bd (by assumption) (by assumption) | exact Bt.key_bd (by assumption) | exact Bt.unkey_bd (by assumption) | exact Bt.nxt_bd (by assumption) | exact Bt.lst_bd (Bt.gst_bd (by assumption) (by assumption)) (by assumption) | exact Bt.btw_bd (by assumption) (Bt.lst_bd (by assumption) (by assumption)) (Bt.gst_bd (by assumption) (by assumption))) (by first | assumption | omega | exact Bt.lst_bd (by assumption) (by assumption) | exact Bt.gst_bd (by assumption) (by assumption) | exact Bt.key_bd (by assumption) | exact Bt.unkey_bd (by assumption) | exact Bt.nxt_bd (by assumption) | exact Bt.lst_bd (Bt.gst_bd (by assumption) (by assumption)) (by assumption) | exact Bt.btw_bd (by assumption) (Bt.lst_bd (by assumption) (by assumption)) (Bt.gst_bd (by assumption) (by assumption))))) (fun xq8 hq9 => ?_)
  refine GL.stepG (tj := 23) rfl rfl (Ex.wp (v := (.bool false)) (Ex.cast (Ex.neq rfl rfl) (congrArg Value.bool (decide_eq_false (by exact fun h => h (Bt.med_c ha hb hc))))) (by decide)) (fun _ _ => ?_)
  refine GL.val (v := (.bool false)) (Ex.pickF rfl rfl) (by decide) ?_
  refine GL.val (v := (.bool false)) (Ex.move rfl) (by decide) ?_
  refine GL.stepG (tj := 31) rfl rfl (Ex.wp (v := (.int .u32 (Bt.med a b c))) (Ex.move rfl) (by decide)) (fun _ _ => ?_)
  refine GL.stepG (tj := 31) rfl rfl (Ex.wp (v := (.int .u32 b)) (Ex.move rfl) (by decide)) (fun _ _ => ?_)
  refine GL.stepG (tj := 31) rfl rfl (Ex.wp (v := (.int .u32 a)) (Ex.move rfl) (by decide)) (fun _ _ => ?_)
  refine GL.stepG (tj := 31) rfl rfl (Ex.wp (v := (.int .u32 c)) (Ex.move rfl) (by decide)) (fun _ _ => ?_)
  refine GL.stepG (tj := 31) rfl rfl (Stp.callR (σ := Unit) (p := fun rz => True) (v := fun rz => (.int .u32 (Bt.med b a c))) (N := fun rz => []) (vs := [(.int .u32 b), (.int .u32 a), (.int .u32 c)]) rfl rfl T.own38 (by decide) (fun wc hw => median_p b a c wc (by first | assumption | omega | exact Bt.lst_bd (by assumption) (by assumption) | exact Bt.gst_bd (by assumption) (by assumption) | exact Bt.key_bd (by assumption) | exact Bt.unkey_bd (by assumption) | exact Bt.nxt_bd (by assumption) | exact Bt.lst_bd (Bt.gst_bd (by assumption) (by assumption)) (by assumption) | exact Bt.btw_bd (by assumption) (Bt.lst_bd (by assumption) (by assumption)) (Bt.gst_bd (by assumption) (by assumption))) (by first | assumption | omega | exact Bt.lst_bd (by assumption) (by assumption) | exact Bt.gst_bd (by assumption) (by assumption) | exact Bt.key_bd (by assumption) | exact Bt.unkey_bd (by assumption) | exact Bt.nxt_bd (by assumption) | exact Bt.lst_bd (Bt.gst_bd (by assumption) (by assumption)) (by assumption) | exact Bt.btw_bd (by assumption) (Bt.lst_bd (by assumption) (by assumption)) (Bt.gst_bd (by assumption) (by assumption))) (by first | assumption | omega | exact Bt.lst_bd (by assumption) (by assumption) | exact Bt.gst_bd (by assumption) (by assumption) | exact Bt.key_bd (by assumption) | exact Bt.unkey_bd (by assumption) | exact Bt.nxt_bd (by assumption) | exact Bt.lst_bd (Bt.gst_bd (by assumption) (by assumption)) (by assumption) | exact Bt.btw_bd (by assumption) (Bt.lst_bd (by assumption) (by assumption)) (Bt.gst_bd (by assumption) (by assumption))))) (fun xq10 hq11 => ?_)
  refine GL.stepG (tj := 31) rfl rfl (Ex.wp (v := (.bool false)) (Ex.cast (Ex.neq rfl rfl) (congrArg Value.bool (decide_eq_false (by exact fun h => h (Bt.med_b ha hb hc))))) (by decide)) (fun _ _ => ?_)
  refine GL.val (v := (.bool false)) (Ex.pickF rfl rfl) (by decide) ?_
  refine GL.val (v := (.bool false)) (Ex.move rfl) (by decide) ?_
  refine GL.stepG (tj := 39) rfl rfl (Ex.wp (v := (.int .u32 (Bt.med a b c))) (Ex.move rfl) (by decide)) (fun _ _ => ?_)
  refine GL.stepG (tj := 39) rfl rfl (Ex.wp (v := (.int .u32 a)) (Ex.move rfl) (by decide)) (fun _ _ => ?_)
  by_cases hq12 : (Bt.med a b c) ≠ a
  · refine GL.stepG (tj := 39) rfl rfl (Ex.wp (v := (.bool true)) (Ex.cast (Ex.neq rfl rfl) (congrArg Value.bool (decide_eq_true hq12))) (by decide)) (fun _ _ => ?_)
    refine GL.stepG (tj := 39) rfl rfl (Ex.wp (v := (.bool true)) (Ex.move rfl) (by decide)) (fun _ _ => ?_)
    refine GL.stepG (tj := 43) rfl rfl (Ex.wp (v := (.int .u32 (Bt.med a b c))) (Ex.move rfl) (by decide)) (fun _ _ => ?_)
    refine GL.stepG (tj := 43) rfl rfl (Ex.wp (v := (.int .u32 b)) (Ex.move rfl) (by decide)) (fun _ _ => ?_)
    by_cases hq13 : (Bt.med a b c) ≠ b
    · refine GL.stepG (tj := 43) rfl rfl (Ex.wp (v := (.bool true)) (Ex.cast (Ex.neq rfl rfl) (congrArg Value.bool (decide_eq_true hq13))) (by decide)) (fun _ _ => ?_)
      refine GL.stepG (tj := 39) rfl rfl (Ex.wp (v := (.bool true)) (Ex.pickT rfl rfl) (by decide)) (fun _ _ => ?_)
      refine GL.stepG (tj := 39) rfl rfl (Ex.wp (v := (.bool true)) (Ex.move rfl) (by decide)) (fun _ _ => ?_)
      refine GL.stepG (tj := 48) rfl rfl (Ex.wp (v := (.int .u32 (Bt.med a b c))) (Ex.move rfl) (by decide)) (fun _ _ => ?_)
      refine GL.stepG (tj := 48) rfl rfl (Ex.wp (v := (.int .u32 c)) (Ex.move rfl) (by decide)) (fun _ _ => ?_)
      refine GL.stepG (tj := 48) rfl rfl (Ex.wp (v := (.bool (decide ((Bt.med a b c) ≠ c)))) (Ex.neq rfl rfl) (by decide)) (fun _ _ => ?_)
      refine GL.stepG (tj := 39) rfl rfl (Ex.wp (v := (.bool (decide ((Bt.med a b c) ≠ c)))) (Ex.pickT rfl rfl) (by decide)) (fun _ _ => ?_)
      refine GL.val (v := (.bool (decide ((Bt.med a b c) ≠ c)))) (Ex.pickF rfl rfl) (by decide) ?_
      refine GL.nil ?_
      refine GE.thenN ?_
      refine GC.cond rfl (fun hq14 => by exfalso; have hq14 := of_decide_eq_true hq14; rcases Bt.med_in (a := a) (b := b) (c := c) with h | h | h <;> contradiction) (fun _ => ?_)
      refine GC.skip ?_
      refine GE.thenN ?_
      refine GC.seq ?_
      refine GC.seq ?_
      refine GC.region ?_
      refine GL.val (v := (.int .u32 (Bt.med a b c))) (Ex.move rfl) (by decide) ?_
      refine GL.val (v := (.int .u32 a)) (Ex.move rfl) (by decide) ?_
      refine GL.val (v := (.int .u32 b)) (Ex.move rfl) (by decide) ?_
      refine GL.step (Stp.callR (σ := Unit) (p := fun rz => True) (v := fun rz => (.int .u32 (Bt.lst a b))) (N := fun rz => []) (vs := [(.int .u32 a), (.int .u32 b)]) rfl rfl T.own34 (by decide) (fun wc hw => least_p a b wc (by first | assumption | omega | exact Bt.lst_bd (by assumption) (by assumption) | exact Bt.gst_bd (by assumption) (by assumption) | exact Bt.key_bd (by assumption) | exact Bt.unkey_bd (by assumption) | exact Bt.nxt_bd (by assumption) | exact Bt.lst_bd (Bt.gst_bd (by assumption) (by assumption)) (by assumption) | exact Bt.btw_bd (by assumption) (Bt.lst_bd (by assumption) (by assumption)) (Bt.gst_bd (by assumption) (by assumption))) (by first | assumption | omega | exact Bt.lst_bd (by assumption) (by assumption) | exact Bt.gst_bd (by assumption) (by assumption) | exact Bt.key_bd (by assumption) | exact Bt.unkey_bd (by assumption) | exact Bt.nxt_bd (by assumption) | exact Bt.lst_bd (Bt.gst_bd (by assumption) (by assumption)) (by assumption) | exact Bt.btw_bd (by assumption) (Bt.lst_bd (by assumption) (by assumption)) (Bt.gst_bd (by assumption) (by assumption))))) (fun xq15 hq16 => ?_)
      refine GL.val (v := (.int .u32 a)) (Ex.move rfl) (by decide) ?_
      refine GL.val (v := (.int .u32 b)) (Ex.move rfl) (by decide) ?_
      refine GL.step (Stp.callR (σ := Unit) (p := fun rz => True) (v := fun rz => (.int .u32 (Bt.gst a b))) (N := fun rz => []) (vs := [(.int .u32 a), (.int .u32 b)]) rfl rfl T.own36 (by decide) (fun wc hw => greatest_p a b wc (by first | assumption | omega | exact Bt.lst_bd (by assumption) (by assumption) | exact Bt.gst_bd (by assumption) (by assumption) | exact Bt.key_bd (by assumption) | exact Bt.unkey_bd (by assumption) | exact Bt.nxt_bd (by assumption) | exact Bt.lst_bd (Bt.gst_bd (by assumption) (by assumption)) (by assumption) | exact Bt.btw_bd (by assumption) (Bt.lst_bd (by assumption) (by assumption)) (Bt.gst_bd (by assumption) (by assumption))) (by first | assumption | omega | exact Bt.lst_bd (by assumption) (by assumption) | exact Bt.gst_bd (by assumption) (by assumption) | exact Bt.key_bd (by assumption) | exact Bt.unkey_bd (by assumption) | exact Bt.nxt_bd (by assumption) | exact Bt.lst_bd (Bt.gst_bd (by assumption) (by assumption)) (by assumption) | exact Bt.btw_bd (by assumption) (Bt.lst_bd (by assumption) (by assumption)) (Bt.gst_bd (by assumption) (by assumption))))) (fun xq17 hq18 => ?_)
      refine GL.val (v := (.int .u32 c)) (Ex.move rfl) (by decide) ?_
      refine GL.step (Stp.callR (σ := Unit) (p := fun rz => True) (v := fun rz => (.int .u32 (Bt.lst (Bt.gst a b) c))) (N := fun rz => []) (vs := [(.int .u32 (Bt.gst a b)), (.int .u32 c)]) rfl rfl T.own34 (by decide) (fun wc hw => least_p (Bt.gst a b) c wc (by first | assumption | omega | exact Bt.lst_bd (by assumption) (by assumption) | exact Bt.gst_bd (by assumption) (by assumption) | exact Bt.key_bd (by assumption) | exact Bt.unkey_bd (by assumption) | exact Bt.nxt_bd (by assumption) | exact Bt.lst_bd (Bt.gst_bd (by assumption) (by assumption)) (by assumption) | exact Bt.btw_bd (by assumption) (Bt.lst_bd (by assumption) (by assumption)) (Bt.gst_bd (by assumption) (by assumption))) (by first | assumption | omega | exact Bt.lst_bd (by assumption) (by assumption) | exact Bt.gst_bd (by assumption) (by assumption) | exact Bt.key_bd (by assumption) | exact Bt.unkey_bd (by assumption) | exact Bt.nxt_bd (by assumption) | exact Bt.lst_bd (Bt.gst_bd (by assumption) (by assumption)) (by assumption) | exact Bt.btw_bd (by assumption) (Bt.lst_bd (by assumption) (by assumption)) (Bt.gst_bd (by assumption) (by assumption))))) (fun xq19 hq20 => ?_)
      refine GL.step (Stp.callR (σ := Unit) (p := fun rz => True) (v := fun rz => (.int .u32 (Bt.gst (Bt.lst a b) (Bt.lst (Bt.gst a b) c)))) (N := fun rz => []) (vs := [(.int .u32 (Bt.lst a b)), (.int .u32 (Bt.lst (Bt.gst a b) c))]) rfl rfl T.own36 (by decide) (fun wc hw => greatest_p (Bt.lst a b) (Bt.lst (Bt.gst a b) c) wc (by first | assumption | omega | exact Bt.lst_bd (by assumption) (by assumption) | exact Bt.gst_bd (by assumption) (by assumption) | exact Bt.key_bd (by assumption) | exact Bt.unkey_bd (by assumption) | exact Bt.nxt_bd (by assumption) | exact Bt.lst_bd (Bt.gst_bd (by assumption) (by assumption)) (by assumption) | exact Bt.btw_bd (by assumption) (Bt.lst_bd (by assumption) (by assumption)) (Bt.gst_bd (by assumption) (by assumption))) (by first | assumption | omega | exact Bt.lst_bd (by assumption) (by assumption) | exact Bt.gst_bd (by assumption) (by assumption) | exact Bt.key_bd (by assumption) | exact Bt.unkey_bd (by assumption) | exact Bt.nxt_bd (by assumption) | exact Bt.lst_bd (Bt.gst_bd (by assumption) (by assumption)) (by assumption) | exact Bt.btw_bd (by assumption) (Bt.lst_bd (by assumption) (by assumption)) (Bt.gst_bd (by assumption) (by assumption))))) (fun xq21 hq22 => ?_)
      refine GL.val (v := (.bool false)) (Ex.cast (Ex.neq rfl rfl) (congrArg Value.bool (decide_eq_false (by exact fun h => h rfl)))) (by decide) ?_
      refine GL.nil ?_
      refine GE.thenN ?_
      refine GC.cond rfl (fun hq23 => by cases hq23) (fun _ => ?_)
      refine GC.skip ?_
      refine GE.thenN ?_
      refine GC.seq ?_
      refine GC.region ?_
      refine GL.val (v := (.int .u32 b)) (Ex.move rfl) (by decide) ?_
      refine GL.val (v := (.int .u32 c)) (Ex.move rfl) (by decide) ?_
      refine GL.step (Stp.callR (σ := Unit) (p := fun rz => True) (v := fun rz => (.int .u32 (Bt.lst b c))) (N := fun rz => []) (vs := [(.int .u32 b), (.int .u32 c)]) rfl rfl T.own34 (by decide) (fun wc hw => least_p b c wc (by first | assumption | omega | exact Bt.lst_bd (by assumption) (by assumption) | exact Bt.gst_bd (by assumption) (by assumption) | exact Bt.key_bd (by assumption) | exact Bt.unkey_bd (by assumption) | exact Bt.nxt_bd (by assumption) | exact Bt.lst_bd (Bt.gst_bd (by assumption) (by assumption)) (by assumption) | exact Bt.btw_bd (by assumption) (Bt.lst_bd (by assumption) (by assumption)) (Bt.gst_bd (by assumption) (by assumption))) (by first | assumption | omega | exact Bt.lst_bd (by assumption) (by assumption) | exact Bt.gst_bd (by assumption) (by assumption) | exact Bt.key_bd (by assumption) | exact Bt.unkey_bd (by assumption) | exact Bt.nxt_bd (by assumption) | exact Bt.lst_bd (Bt.gst_bd (by assumption) (by assumption)) (by assumption) | exact Bt.btw_bd (by assumption) (Bt.lst_bd (by assumption) (by assumption)) (Bt.gst_bd (by assumption) (by assumption))))) (fun xq24 hq25 => ?_)
      refine GL.val (v := (.int .u32 b)) (Ex.move rfl) (by decide) ?_
      refine GL.val (v := (.int .u32 c)) (Ex.move rfl) (by decide) ?_
      refine GL.step (Stp.callR (σ := Unit) (p := fun rz => True) (v := fun rz => (.int .u32 (Bt.gst b c))) (N := fun rz => []) (vs := [(.int .u32 b), (.int .u32 c)]) rfl rfl T.own36 (by decide) (fun wc hw => greatest_p b c wc (by first | assumption | omega | exact Bt.lst_bd (by assumption) (by assumption) | exact Bt.gst_bd (by assumption) (by assumption) | exact Bt.key_bd (by assumption) | exact Bt.unkey_bd (by assumption) | exact Bt.nxt_bd (by assumption) | exact Bt.lst_bd (Bt.gst_bd (by assumption) (by assumption)) (by assumption) | exact Bt.btw_bd (by assumption) (Bt.lst_bd (by assumption) (by assumption)) (Bt.gst_bd (by assumption) (by assumption))) (by first | assumption | omega | exact Bt.lst_bd (by assumption) (by assumption) | exact Bt.gst_bd (by assumption) (by assumption) | exact Bt.key_bd (by assumption) | exact Bt.unkey_bd (by assumption) | exact Bt.nxt_bd (by assumption) | exact Bt.lst_bd (Bt.gst_bd (by assumption) (by assumption)) (by assumption) | exact Bt.btw_bd (by assumption) (Bt.lst_bd (by assumption) (by assumption)) (Bt.gst_bd (by assumption) (by assumption))))) (fun xq26 hq27 => ?_)
      refine GL.val (v := (.int .u32 (Bt.lst b c))) (Ex.assign rfl) (by decide) ?_
      refine GL.val (v := (.int .u32 (Bt.gst b c))) (Ex.assign rfl) (by decide) ?_
      refine GL.nil ?_
      refine GE.thenN ?_
      refine GC.seq ?_
      refine GC.region ?_
      refine GL.val (v := (.int .u32 a)) (Ex.move rfl) (by decide) ?_
      refine GL.val (v := (.int .u32 (Bt.lst b c))) (Ex.move rfl) (by decide) ?_
      refine GL.val (v := (.int .u32 (Bt.gst b c))) (Ex.move rfl) (by decide) ?_
      refine GL.step (Stp.callR (σ := Unit) (p := fun rz => True) (v := fun rz => (.int .u32 (Bt.btw a (Bt.lst b c) (Bt.gst b c)))) (N := fun rz => []) (vs := [(.int .u32 a), (.int .u32 (Bt.lst b c)), (.int .u32 (Bt.gst b c))]) rfl rfl T.own40 (by decide) (fun wc hw => btw_p a (Bt.lst b c) (Bt.gst b c) wc (by first | assumption | omega | exact Bt.lst_bd (by assumption) (by assumption) | exact Bt.gst_bd (by assumption) (by assumption) | exact Bt.key_bd (by assumption) | exact Bt.unkey_bd (by assumption) | exact Bt.nxt_bd (by assumption) | exact Bt.lst_bd (Bt.gst_bd (by assumption) (by assumption)) (by assumption) | exact Bt.btw_bd (by assumption) (Bt.lst_bd (by assumption) (by assumption)) (Bt.gst_bd (by assumption) (by assumption))) (by first | assumption | omega | exact Bt.lst_bd (by assumption) (by assumption) | exact Bt.gst_bd (by assumption) (by assumption) | exact Bt.key_bd (by assumption) | exact Bt.unkey_bd (by assumption) | exact Bt.nxt_bd (by assumption) | exact Bt.lst_bd (Bt.gst_bd (by assumption) (by assumption)) (by assumption) | exact Bt.btw_bd (by assumption) (Bt.lst_bd (by assumption) (by assumption)) (Bt.gst_bd (by assumption) (by assumption))) (by first | assumption | omega | exact Bt.lst_bd (by assumption) (by assumption) | exact Bt.gst_bd (by assumption) (by assumption) | exact Bt.key_bd (by assumption) | exact Bt.unkey_bd (by assumption) | exact Bt.nxt_bd (by assumption) | exact Bt.lst_bd (Bt.gst_bd (by assumption) (by assumption)) (by assumption) | exact Bt.btw_bd (by assumption) (Bt.lst_bd (by assumption) (by assumption)) (Bt.gst_bd (by assumption) (by assumption))))) (fun xq28 hq29 => ?_)
      refine GL.val (v := (.int .u32 (Bt.btw a (Bt.lst b c) (Bt.gst b c)))) (Ex.assign rfl) (by decide) ?_
      refine GL.nil ?_
      refine GE.thenN ?_
      refine GC.seq ?_
      by_cases s1 : Bt.key a < Bt.key (Bt.lst b c)
      · by_cases s2 : Bt.key (Bt.gst b c) < Bt.key a
        · refine GC.region ?_
          refine GL.val (v := (.int .u32 (Bt.btw a (Bt.lst b c) (Bt.gst b c)))) (Ex.move rfl) (by decide) ?_
          refine GL.val (v := (.int .u32 (Bt.lst b c))) (Ex.move rfl) (by decide) ?_
          refine GL.step (Stp.callR (σ := Unit) (p := fun rz => True) (v := fun rz => (.bool (decide (Bt.key (Bt.btw a (Bt.lst b c) (Bt.gst b c)) < Bt.key (Bt.lst b c))))) (N := fun rz => []) (vs := [(.int .u32 (Bt.btw a (Bt.lst b c) (Bt.gst b c))), (.int .u32 (Bt.lst b c))]) rfl rfl T.own31 (by decide) (fun wc hw => before_p (Bt.btw a (Bt.lst b c) (Bt.gst b c)) (Bt.lst b c) wc (by first | assumption | omega | exact Bt.lst_bd (by assumption) (by assumption) | exact Bt.gst_bd (by assumption) (by assumption) | exact Bt.key_bd (by assumption) | exact Bt.unkey_bd (by assumption) | exact Bt.nxt_bd (by assumption) | exact Bt.lst_bd (Bt.gst_bd (by assumption) (by assumption)) (by assumption) | exact Bt.btw_bd (by assumption) (Bt.lst_bd (by assumption) (by assumption)) (Bt.gst_bd (by assumption) (by assumption))) (by first | assumption | omega | exact Bt.lst_bd (by assumption) (by assumption) | exact Bt.gst_bd (by assumption) (by assumption) | exact Bt.key_bd (by assumption) | exact Bt.unkey_bd (by assumption) | exact Bt.nxt_bd (by assumption) | exact Bt.lst_bd (Bt.gst_bd (by assumption) (by assumption)) (by assumption) | exact Bt.btw_bd (by assumption) (Bt.lst_bd (by assumption) (by assumption)) (Bt.gst_bd (by assumption) (by assumption))))) (fun xq30 hq31 => ?_)
          refine GL.val (v := (.bool true)) (Ex.cast (Ex.not rfl) (congrArg Value.bool (congrArg (fun z => !z) (decide_eq_false (by exact Bt.btw_lo (Bt.lo_hi _ _)))))) (by decide) ?_
          refine GL.val (v := (.bool true)) (Ex.move rfl) (by decide) ?_
          refine GL.stepG (tj := 79) rfl rfl (Ex.wp (v := (.int .u32 (Bt.gst b c))) (Ex.move rfl) (by decide)) (fun _ _ => ?_)
          refine GL.stepG (tj := 79) rfl rfl (Ex.wp (v := (.int .u32 (Bt.btw a (Bt.lst b c) (Bt.gst b c)))) (Ex.move rfl) (by decide)) (fun _ _ => ?_)
          refine GL.stepG (tj := 79) rfl rfl (Stp.callR (σ := Unit) (p := fun rz => True) (v := fun rz => (.bool (decide (Bt.key (Bt.gst b c) < Bt.key (Bt.btw a (Bt.lst b c) (Bt.gst b c)))))) (N := fun rz => []) (vs := [(.int .u32 (Bt.gst b c)), (.int .u32 (Bt.btw a (Bt.lst b c) (Bt.gst b c)))]) rfl rfl T.own31 (by decide) (fun wc hw => before_p (Bt.gst b c) (Bt.btw a (Bt.lst b c) (Bt.gst b c)) wc (by first | assumption | omega | exact Bt.lst_bd (by assumption) (by assumption) | exact Bt.gst_bd (by assumption) (by assumption) | exact Bt.key_bd (by assumption) | exact Bt.unkey_bd (by assumption) | exact Bt.nxt_bd (by assumption) | exact Bt.lst_bd (Bt.gst_bd (by assumption) (by assumption)) (by assumption) | exact Bt.btw_bd (by assumption) (Bt.lst_bd (by assumption) (by assumption)) (Bt.gst_bd (by assumption) (by assumption))) (by first | assumption | omega | exact Bt.lst_bd (by assumption) (by assumption) | exact Bt.gst_bd (by assumption) (by assumption) | exact Bt.key_bd (by assumption) | exact Bt.unkey_bd (by assumption) | exact Bt.nxt_bd (by assumption) | exact Bt.lst_bd (Bt.gst_bd (by assumption) (by assumption)) (by assumption) | exact Bt.btw_bd (by assumption) (Bt.lst_bd (by assumption) (by assumption)) (Bt.gst_bd (by assumption) (by assumption))))) (fun xq32 hq33 => ?_)
          refine GL.stepG (tj := 79) rfl rfl (Ex.wp (v := (.bool true)) (Ex.cast (Ex.not rfl) (congrArg Value.bool (congrArg (fun z => !z) (decide_eq_false (by exact Bt.btw_hi))))) (by decide)) (fun _ _ => ?_)
          refine GL.val (v := (.bool true)) (Ex.pickT rfl rfl) (by decide) ?_
          refine GL.val (v := (.bool true)) (Ex.move rfl) (by decide) ?_
          refine GL.stepG (tj := 85) rfl rfl (Ex.wp (v := (.int .u32 (Bt.btw a (Bt.lst b c) (Bt.gst b c)))) (Ex.move rfl) (by decide)) (fun _ _ => ?_)
          refine GL.stepG (tj := 85) rfl rfl (Ex.wp (v := (.int .u32 a)) (Ex.move rfl) (by decide)) (fun _ _ => ?_)
          refine GL.stepG (tj := 85) rfl rfl (Ex.wp (v := (.bool false)) (Ex.cast (Ex.eql rfl rfl) (congrArg Value.bool (decide_eq_false (by exact Bt.btw_ne (Bt.lo_hi _ _) (by first | exact Or.inl (by assumption) | exact Or.inr (by assumption)))))) (by decide)) (fun _ _ => ?_)
          refine GL.stepG (tj := 85) rfl rfl (Ex.wp (v := (.bool false)) (Ex.move rfl) (by decide)) (fun _ _ => ?_)
          refine GL.stepG (tj := 89) rfl rfl (Ex.wp (v := (.int .u32 a)) (Ex.move rfl) (by decide)) (fun _ _ => ?_)
          refine GL.stepG (tj := 89) rfl rfl (Ex.wp (v := (.int .u32 (Bt.lst b c))) (Ex.move rfl) (by decide)) (fun _ _ => ?_)
          refine GL.stepG (tj := 89) rfl rfl (Stp.callR (σ := Unit) (p := fun rz => True) (v := fun rz => (.bool (decide (Bt.key a < Bt.key (Bt.lst b c))))) (N := fun rz => []) (vs := [(.int .u32 a), (.int .u32 (Bt.lst b c))]) rfl rfl T.own31 (by decide) (fun wc hw => before_p a (Bt.lst b c) wc (by first | assumption | omega | exact Bt.lst_bd (by assumption) (by assumption) | exact Bt.gst_bd (by assumption) (by assumption) | exact Bt.key_bd (by assumption) | exact Bt.unkey_bd (by assumption) | exact Bt.nxt_bd (by assumption) | exact Bt.lst_bd (Bt.gst_bd (by assumption) (by assumption)) (by assumption) | exact Bt.btw_bd (by assumption) (Bt.lst_bd (by assumption) (by assumption)) (Bt.gst_bd (by assumption) (by assumption))) (by first | assumption | omega | exact Bt.lst_bd (by assumption) (by assumption) | exact Bt.gst_bd (by assumption) (by assumption) | exact Bt.key_bd (by assumption) | exact Bt.unkey_bd (by assumption) | exact Bt.nxt_bd (by assumption) | exact Bt.lst_bd (Bt.gst_bd (by assumption) (by assumption)) (by assumption) | exact Bt.btw_bd (by assumption) (Bt.lst_bd (by assumption) (by assumption)) (Bt.gst_bd (by assumption) (by assumption))))) (fun xq34 hq35 => ?_)
          refine GL.stepG (tj := 85) rfl rfl (Ex.wp (v := (.bool (decide (Bt.key a < Bt.key (Bt.lst b c))))) (Ex.pickF rfl rfl) (by decide)) (fun _ _ => ?_)
          refine GL.stepG (tj := 85) rfl rfl (Ex.wp (v := (.bool true)) (Ex.cast (Ex.move rfl) (congrArg Value.bool (decide_eq_true (by assumption)))) (by decide)) (fun _ _ => ?_)
          refine GL.skipG (tj := 94) rfl rfl rfl (by decide) ?_
          refine GL.skipG (tj := 94) rfl rfl rfl (by decide) ?_
          refine GL.skipG (tj := 94) rfl rfl rfl (by decide) ?_
          refine GL.stepG (tj := 85) rfl rfl (Ex.wp (v := (.bool true)) (Ex.pickT rfl rfl) (by decide)) (fun _ _ => ?_)
          refine GL.val (v := (.bool true)) (Ex.pickT rfl rfl) (by decide) ?_
          refine GL.val (v := (.bool true)) (Ex.assign rfl) (by decide) ?_
          refine GL.nil ?_
          refine GE.thenN ?_
          refine GC.ret ?_
          refine GC.ret1 rfl (Rv.tmp rfl) (fun wN HN => ?_)
          exact HN.ret () trivial rfl (List.nil_sublist _) rfl
        · refine GC.region ?_
          refine GL.val (v := (.int .u32 (Bt.btw a (Bt.lst b c) (Bt.gst b c)))) (Ex.move rfl) (by decide) ?_
          refine GL.val (v := (.int .u32 (Bt.lst b c))) (Ex.move rfl) (by decide) ?_
          refine GL.step (Stp.callR (σ := Unit) (p := fun rz => True) (v := fun rz => (.bool (decide (Bt.key (Bt.btw a (Bt.lst b c) (Bt.gst b c)) < Bt.key (Bt.lst b c))))) (N := fun rz => []) (vs := [(.int .u32 (Bt.btw a (Bt.lst b c) (Bt.gst b c))), (.int .u32 (Bt.lst b c))]) rfl rfl T.own31 (by decide) (fun wc hw => before_p (Bt.btw a (Bt.lst b c) (Bt.gst b c)) (Bt.lst b c) wc (by first | assumption | omega | exact Bt.lst_bd (by assumption) (by assumption) | exact Bt.gst_bd (by assumption) (by assumption) | exact Bt.key_bd (by assumption) | exact Bt.unkey_bd (by assumption) | exact Bt.nxt_bd (by assumption) | exact Bt.lst_bd (Bt.gst_bd (by assumption) (by assumption)) (by assumption) | exact Bt.btw_bd (by assumption) (Bt.lst_bd (by assumption) (by assumption)) (Bt.gst_bd (by assumption) (by assumption))) (by first | assumption | omega | exact Bt.lst_bd (by assumption) (by assumption) | exact Bt.gst_bd (by assumption) (by assumption) | exact Bt.key_bd (by assumption) | exact Bt.unkey_bd (by assumption) | exact Bt.nxt_bd (by assumption) | exact Bt.lst_bd (Bt.gst_bd (by assumption) (by assumption)) (by assumption) | exact Bt.btw_bd (by assumption) (Bt.lst_bd (by assumption) (by assumption)) (Bt.gst_bd (by assumption) (by assumption))))) (fun xq36 hq37 => ?_)
          refine GL.val (v := (.bool true)) (Ex.cast (Ex.not rfl) (congrArg Value.bool (congrArg (fun z => !z) (decide_eq_false (by exact Bt.btw_lo (Bt.lo_hi _ _)))))) (by decide) ?_
          refine GL.val (v := (.bool true)) (Ex.move rfl) (by decide) ?_
          refine GL.stepG (tj := 79) rfl rfl (Ex.wp (v := (.int .u32 (Bt.gst b c))) (Ex.move rfl) (by decide)) (fun _ _ => ?_)
          refine GL.stepG (tj := 79) rfl rfl (Ex.wp (v := (.int .u32 (Bt.btw a (Bt.lst b c) (Bt.gst b c)))) (Ex.move rfl) (by decide)) (fun _ _ => ?_)
          refine GL.stepG (tj := 79) rfl rfl (Stp.callR (σ := Unit) (p := fun rz => True) (v := fun rz => (.bool (decide (Bt.key (Bt.gst b c) < Bt.key (Bt.btw a (Bt.lst b c) (Bt.gst b c)))))) (N := fun rz => []) (vs := [(.int .u32 (Bt.gst b c)), (.int .u32 (Bt.btw a (Bt.lst b c) (Bt.gst b c)))]) rfl rfl T.own31 (by decide) (fun wc hw => before_p (Bt.gst b c) (Bt.btw a (Bt.lst b c) (Bt.gst b c)) wc (by first | assumption | omega | exact Bt.lst_bd (by assumption) (by assumption) | exact Bt.gst_bd (by assumption) (by assumption) | exact Bt.key_bd (by assumption) | exact Bt.unkey_bd (by assumption) | exact Bt.nxt_bd (by assumption) | exact Bt.lst_bd (Bt.gst_bd (by assumption) (by assumption)) (by assumption) | exact Bt.btw_bd (by assumption) (Bt.lst_bd (by assumption) (by assumption)) (Bt.gst_bd (by assumption) (by assumption))) (by first | assumption | omega | exact Bt.lst_bd (by assumption) (by assumption) | exact Bt.gst_bd (by assumption) (by assumption) | exact Bt.key_bd (by assumption) | exact Bt.unkey_bd (by assumption) | exact Bt.nxt_bd (by assumption) | exact Bt.lst_bd (Bt.gst_bd (by assumption) (by assumption)) (by assumption) | exact Bt.btw_bd (by assumption) (Bt.lst_bd (by assumption) (by assumption)) (Bt.gst_bd (by assumption) (by assumption))))) (fun xq38 hq39 => ?_)
          refine GL.stepG (tj := 79) rfl rfl (Ex.wp (v := (.bool true)) (Ex.cast (Ex.not rfl) (congrArg Value.bool (congrArg (fun z => !z) (decide_eq_false (by exact Bt.btw_hi))))) (by decide)) (fun _ _ => ?_)
          refine GL.val (v := (.bool true)) (Ex.pickT rfl rfl) (by decide) ?_
          refine GL.val (v := (.bool true)) (Ex.move rfl) (by decide) ?_
          refine GL.stepG (tj := 85) rfl rfl (Ex.wp (v := (.int .u32 (Bt.btw a (Bt.lst b c) (Bt.gst b c)))) (Ex.move rfl) (by decide)) (fun _ _ => ?_)
          refine GL.stepG (tj := 85) rfl rfl (Ex.wp (v := (.int .u32 a)) (Ex.move rfl) (by decide)) (fun _ _ => ?_)
          refine GL.stepG (tj := 85) rfl rfl (Ex.wp (v := (.bool false)) (Ex.cast (Ex.eql rfl rfl) (congrArg Value.bool (decide_eq_false (by exact Bt.btw_ne (Bt.lo_hi _ _) (by first | exact Or.inl (by assumption) | exact Or.inr (by assumption)))))) (by decide)) (fun _ _ => ?_)
          refine GL.stepG (tj := 85) rfl rfl (Ex.wp (v := (.bool false)) (Ex.move rfl) (by decide)) (fun _ _ => ?_)
          refine GL.stepG (tj := 89) rfl rfl (Ex.wp (v := (.int .u32 a)) (Ex.move rfl) (by decide)) (fun _ _ => ?_)
          refine GL.stepG (tj := 89) rfl rfl (Ex.wp (v := (.int .u32 (Bt.lst b c))) (Ex.move rfl) (by decide)) (fun _ _ => ?_)
          refine GL.stepG (tj := 89) rfl rfl (Stp.callR (σ := Unit) (p := fun rz => True) (v := fun rz => (.bool (decide (Bt.key a < Bt.key (Bt.lst b c))))) (N := fun rz => []) (vs := [(.int .u32 a), (.int .u32 (Bt.lst b c))]) rfl rfl T.own31 (by decide) (fun wc hw => before_p a (Bt.lst b c) wc (by first | assumption | omega | exact Bt.lst_bd (by assumption) (by assumption) | exact Bt.gst_bd (by assumption) (by assumption) | exact Bt.key_bd (by assumption) | exact Bt.unkey_bd (by assumption) | exact Bt.nxt_bd (by assumption) | exact Bt.lst_bd (Bt.gst_bd (by assumption) (by assumption)) (by assumption) | exact Bt.btw_bd (by assumption) (Bt.lst_bd (by assumption) (by assumption)) (Bt.gst_bd (by assumption) (by assumption))) (by first | assumption | omega | exact Bt.lst_bd (by assumption) (by assumption) | exact Bt.gst_bd (by assumption) (by assumption) | exact Bt.key_bd (by assumption) | exact Bt.unkey_bd (by assumption) | exact Bt.nxt_bd (by assumption) | exact Bt.lst_bd (Bt.gst_bd (by assumption) (by assumption)) (by assumption) | exact Bt.btw_bd (by assumption) (Bt.lst_bd (by assumption) (by assumption)) (Bt.gst_bd (by assumption) (by assumption))))) (fun xq40 hq41 => ?_)
          refine GL.stepG (tj := 85) rfl rfl (Ex.wp (v := (.bool (decide (Bt.key a < Bt.key (Bt.lst b c))))) (Ex.pickF rfl rfl) (by decide)) (fun _ _ => ?_)
          refine GL.stepG (tj := 85) rfl rfl (Ex.wp (v := (.bool true)) (Ex.cast (Ex.move rfl) (congrArg Value.bool (decide_eq_true (by assumption)))) (by decide)) (fun _ _ => ?_)
          refine GL.skipG (tj := 94) rfl rfl rfl (by decide) ?_
          refine GL.skipG (tj := 94) rfl rfl rfl (by decide) ?_
          refine GL.skipG (tj := 94) rfl rfl rfl (by decide) ?_
          refine GL.stepG (tj := 85) rfl rfl (Ex.wp (v := (.bool true)) (Ex.pickT rfl rfl) (by decide)) (fun _ _ => ?_)
          refine GL.val (v := (.bool true)) (Ex.pickT rfl rfl) (by decide) ?_
          refine GL.val (v := (.bool true)) (Ex.assign rfl) (by decide) ?_
          refine GL.nil ?_
          refine GE.thenN ?_
          refine GC.ret ?_
          refine GC.ret1 rfl (Rv.tmp rfl) (fun wN HN => ?_)
          exact HN.ret () trivial rfl (List.nil_sublist _) rfl
      · by_cases s2 : Bt.key (Bt.gst b c) < Bt.key a
        · refine GC.region ?_
          refine GL.val (v := (.int .u32 (Bt.btw a (Bt.lst b c) (Bt.gst b c)))) (Ex.move rfl) (by decide) ?_
          refine GL.val (v := (.int .u32 (Bt.lst b c))) (Ex.move rfl) (by decide) ?_
          refine GL.step (Stp.callR (σ := Unit) (p := fun rz => True) (v := fun rz => (.bool (decide (Bt.key (Bt.btw a (Bt.lst b c) (Bt.gst b c)) < Bt.key (Bt.lst b c))))) (N := fun rz => []) (vs := [(.int .u32 (Bt.btw a (Bt.lst b c) (Bt.gst b c))), (.int .u32 (Bt.lst b c))]) rfl rfl T.own31 (by decide) (fun wc hw => before_p (Bt.btw a (Bt.lst b c) (Bt.gst b c)) (Bt.lst b c) wc (by first | assumption | omega | exact Bt.lst_bd (by assumption) (by assumption) | exact Bt.gst_bd (by assumption) (by assumption) | exact Bt.key_bd (by assumption) | exact Bt.unkey_bd (by assumption) | exact Bt.nxt_bd (by assumption) | exact Bt.lst_bd (Bt.gst_bd (by assumption) (by assumption)) (by assumption) | exact Bt.btw_bd (by assumption) (Bt.lst_bd (by assumption) (by assumption)) (Bt.gst_bd (by assumption) (by assumption))) (by first | assumption | omega | exact Bt.lst_bd (by assumption) (by assumption) | exact Bt.gst_bd (by assumption) (by assumption) | exact Bt.key_bd (by assumption) | exact Bt.unkey_bd (by assumption) | exact Bt.nxt_bd (by assumption) | exact Bt.lst_bd (Bt.gst_bd (by assumption) (by assumption)) (by assumption) | exact Bt.btw_bd (by assumption) (Bt.lst_bd (by assumption) (by assumption)) (Bt.gst_bd (by assumption) (by assumption))))) (fun xq42 hq43 => ?_)
          refine GL.val (v := (.bool true)) (Ex.cast (Ex.not rfl) (congrArg Value.bool (congrArg (fun z => !z) (decide_eq_false (by exact Bt.btw_lo (Bt.lo_hi _ _)))))) (by decide) ?_
          refine GL.val (v := (.bool true)) (Ex.move rfl) (by decide) ?_
          refine GL.stepG (tj := 79) rfl rfl (Ex.wp (v := (.int .u32 (Bt.gst b c))) (Ex.move rfl) (by decide)) (fun _ _ => ?_)
          refine GL.stepG (tj := 79) rfl rfl (Ex.wp (v := (.int .u32 (Bt.btw a (Bt.lst b c) (Bt.gst b c)))) (Ex.move rfl) (by decide)) (fun _ _ => ?_)
          refine GL.stepG (tj := 79) rfl rfl (Stp.callR (σ := Unit) (p := fun rz => True) (v := fun rz => (.bool (decide (Bt.key (Bt.gst b c) < Bt.key (Bt.btw a (Bt.lst b c) (Bt.gst b c)))))) (N := fun rz => []) (vs := [(.int .u32 (Bt.gst b c)), (.int .u32 (Bt.btw a (Bt.lst b c) (Bt.gst b c)))]) rfl rfl T.own31 (by decide) (fun wc hw => before_p (Bt.gst b c) (Bt.btw a (Bt.lst b c) (Bt.gst b c)) wc (by first | assumption | omega | exact Bt.lst_bd (by assumption) (by assumption) | exact Bt.gst_bd (by assumption) (by assumption) | exact Bt.key_bd (by assumption) | exact Bt.unkey_bd (by assumption) | exact Bt.nxt_bd (by assumption) | exact Bt.lst_bd (Bt.gst_bd (by assumption) (by assumption)) (by assumption) | exact Bt.btw_bd (by assumption) (Bt.lst_bd (by assumption) (by assumption)) (Bt.gst_bd (by assumption) (by assumption))) (by first | assumption | omega | exact Bt.lst_bd (by assumption) (by assumption) | exact Bt.gst_bd (by assumption) (by assumption) | exact Bt.key_bd (by assumption) | exact Bt.unkey_bd (by assumption) | exact Bt.nxt_bd (by assumption) | exact Bt.lst_bd (Bt.gst_bd (by assumption) (by assumption)) (by assumption) | exact Bt.btw_bd (by assumption) (Bt.lst_bd (by assumption) (by assumption)) (Bt.gst_bd (by assumption) (by assumption))))) (fun xq44 hq45 => ?_)
          refine GL.stepG (tj := 79) rfl rfl (Ex.wp (v := (.bool true)) (Ex.cast (Ex.not rfl) (congrArg Value.bool (congrArg (fun z => !z) (decide_eq_false (by exact Bt.btw_hi))))) (by decide)) (fun _ _ => ?_)
          refine GL.val (v := (.bool true)) (Ex.pickT rfl rfl) (by decide) ?_
          refine GL.val (v := (.bool true)) (Ex.move rfl) (by decide) ?_
          refine GL.stepG (tj := 85) rfl rfl (Ex.wp (v := (.int .u32 (Bt.btw a (Bt.lst b c) (Bt.gst b c)))) (Ex.move rfl) (by decide)) (fun _ _ => ?_)
          refine GL.stepG (tj := 85) rfl rfl (Ex.wp (v := (.int .u32 a)) (Ex.move rfl) (by decide)) (fun _ _ => ?_)
          refine GL.stepG (tj := 85) rfl rfl (Ex.wp (v := (.bool false)) (Ex.cast (Ex.eql rfl rfl) (congrArg Value.bool (decide_eq_false (by exact Bt.btw_ne (Bt.lo_hi _ _) (by first | exact Or.inl (by assumption) | exact Or.inr (by assumption)))))) (by decide)) (fun _ _ => ?_)
          refine GL.stepG (tj := 85) rfl rfl (Ex.wp (v := (.bool false)) (Ex.move rfl) (by decide)) (fun _ _ => ?_)
          refine GL.stepG (tj := 89) rfl rfl (Ex.wp (v := (.int .u32 a)) (Ex.move rfl) (by decide)) (fun _ _ => ?_)
          refine GL.stepG (tj := 89) rfl rfl (Ex.wp (v := (.int .u32 (Bt.lst b c))) (Ex.move rfl) (by decide)) (fun _ _ => ?_)
          refine GL.stepG (tj := 89) rfl rfl (Stp.callR (σ := Unit) (p := fun rz => True) (v := fun rz => (.bool (decide (Bt.key a < Bt.key (Bt.lst b c))))) (N := fun rz => []) (vs := [(.int .u32 a), (.int .u32 (Bt.lst b c))]) rfl rfl T.own31 (by decide) (fun wc hw => before_p a (Bt.lst b c) wc (by first | assumption | omega | exact Bt.lst_bd (by assumption) (by assumption) | exact Bt.gst_bd (by assumption) (by assumption) | exact Bt.key_bd (by assumption) | exact Bt.unkey_bd (by assumption) | exact Bt.nxt_bd (by assumption) | exact Bt.lst_bd (Bt.gst_bd (by assumption) (by assumption)) (by assumption) | exact Bt.btw_bd (by assumption) (Bt.lst_bd (by assumption) (by assumption)) (Bt.gst_bd (by assumption) (by assumption))) (by first | assumption | omega | exact Bt.lst_bd (by assumption) (by assumption) | exact Bt.gst_bd (by assumption) (by assumption) | exact Bt.key_bd (by assumption) | exact Bt.unkey_bd (by assumption) | exact Bt.nxt_bd (by assumption) | exact Bt.lst_bd (Bt.gst_bd (by assumption) (by assumption)) (by assumption) | exact Bt.btw_bd (by assumption) (Bt.lst_bd (by assumption) (by assumption)) (Bt.gst_bd (by assumption) (by assumption))))) (fun xq46 hq47 => ?_)
          refine GL.stepG (tj := 85) rfl rfl (Ex.wp (v := (.bool (decide (Bt.key a < Bt.key (Bt.lst b c))))) (Ex.pickF rfl rfl) (by decide)) (fun _ _ => ?_)
          refine GL.stepG (tj := 85) rfl rfl (Ex.wp (v := (.bool false)) (Ex.cast (Ex.move rfl) (congrArg Value.bool (decide_eq_false (by assumption)))) (by decide)) (fun _ _ => ?_)
          refine GL.stepG (tj := 94) rfl rfl (Ex.wp (v := (.int .u32 (Bt.gst b c))) (Ex.move rfl) (by decide)) (fun _ _ => ?_)
          refine GL.stepG (tj := 94) rfl rfl (Ex.wp (v := (.int .u32 a)) (Ex.move rfl) (by decide)) (fun _ _ => ?_)
          refine GL.stepG (tj := 94) rfl rfl (Stp.callR (σ := Unit) (p := fun rz => True) (v := fun rz => (.bool (decide (Bt.key (Bt.gst b c) < Bt.key a)))) (N := fun rz => []) (vs := [(.int .u32 (Bt.gst b c)), (.int .u32 a)]) rfl rfl T.own31 (by decide) (fun wc hw => before_p (Bt.gst b c) a wc (by first | assumption | omega | exact Bt.lst_bd (by assumption) (by assumption) | exact Bt.gst_bd (by assumption) (by assumption) | exact Bt.key_bd (by assumption) | exact Bt.unkey_bd (by assumption) | exact Bt.nxt_bd (by assumption) | exact Bt.lst_bd (Bt.gst_bd (by assumption) (by assumption)) (by assumption) | exact Bt.btw_bd (by assumption) (Bt.lst_bd (by assumption) (by assumption)) (Bt.gst_bd (by assumption) (by assumption))) (by first | assumption | omega | exact Bt.lst_bd (by assumption) (by assumption) | exact Bt.gst_bd (by assumption) (by assumption) | exact Bt.key_bd (by assumption) | exact Bt.unkey_bd (by assumption) | exact Bt.nxt_bd (by assumption) | exact Bt.lst_bd (Bt.gst_bd (by assumption) (by assumption)) (by assumption) | exact Bt.btw_bd (by assumption) (Bt.lst_bd (by assumption) (by assumption)) (Bt.gst_bd (by assumption) (by assumption))))) (fun xq48 hq49 => ?_)
          refine GL.stepG (tj := 85) rfl rfl (Ex.wp (v := (.bool (decide (Bt.key (Bt.gst b c) < Bt.key a)))) (Ex.pickF rfl rfl) (by decide)) (fun _ _ => ?_)
          refine GL.val (v := (.bool (decide (Bt.key (Bt.gst b c) < Bt.key a)))) (Ex.pickT rfl rfl) (by decide) ?_
          refine GL.val (v := (.bool (decide (Bt.key (Bt.gst b c) < Bt.key a)))) (Ex.assign rfl) (by decide) ?_
          refine GL.nil ?_
          refine GE.thenN ?_
          refine GC.ret ?_
          refine GC.ret1 rfl (Rv.tmp rfl) (fun wN HN => ?_)
          exact HN.ret () trivial (congrArg Value.bool (by first | (exfalso; omega) | simp_all)) (List.nil_sublist _) rfl
        · refine GC.region ?_
          refine GL.val (v := (.int .u32 (Bt.btw a (Bt.lst b c) (Bt.gst b c)))) (Ex.move rfl) (by decide) ?_
          refine GL.val (v := (.int .u32 (Bt.lst b c))) (Ex.move rfl) (by decide) ?_
          refine GL.step (Stp.callR (σ := Unit) (p := fun rz => True) (v := fun rz => (.bool (decide (Bt.key (Bt.btw a (Bt.lst b c) (Bt.gst b c)) < Bt.key (Bt.lst b c))))) (N := fun rz => []) (vs := [(.int .u32 (Bt.btw a (Bt.lst b c) (Bt.gst b c))), (.int .u32 (Bt.lst b c))]) rfl rfl T.own31 (by decide) (fun wc hw => before_p (Bt.btw a (Bt.lst b c) (Bt.gst b c)) (Bt.lst b c) wc (by first | assumption | omega | exact Bt.lst_bd (by assumption) (by assumption) | exact Bt.gst_bd (by assumption) (by assumption) | exact Bt.key_bd (by assumption) | exact Bt.unkey_bd (by assumption) | exact Bt.nxt_bd (by assumption) | exact Bt.lst_bd (Bt.gst_bd (by assumption) (by assumption)) (by assumption) | exact Bt.btw_bd (by assumption) (Bt.lst_bd (by assumption) (by assumption)) (Bt.gst_bd (by assumption) (by assumption))) (by first | assumption | omega | exact Bt.lst_bd (by assumption) (by assumption) | exact Bt.gst_bd (by assumption) (by assumption) | exact Bt.key_bd (by assumption) | exact Bt.unkey_bd (by assumption) | exact Bt.nxt_bd (by assumption) | exact Bt.lst_bd (Bt.gst_bd (by assumption) (by assumption)) (by assumption) | exact Bt.btw_bd (by assumption) (Bt.lst_bd (by assumption) (by assumption)) (Bt.gst_bd (by assumption) (by assumption))))) (fun xq50 hq51 => ?_)
          refine GL.val (v := (.bool true)) (Ex.cast (Ex.not rfl) (congrArg Value.bool (congrArg (fun z => !z) (decide_eq_false (by exact Bt.btw_lo (Bt.lo_hi _ _)))))) (by decide) ?_
          refine GL.val (v := (.bool true)) (Ex.move rfl) (by decide) ?_
          refine GL.stepG (tj := 79) rfl rfl (Ex.wp (v := (.int .u32 (Bt.gst b c))) (Ex.move rfl) (by decide)) (fun _ _ => ?_)
          refine GL.stepG (tj := 79) rfl rfl (Ex.wp (v := (.int .u32 (Bt.btw a (Bt.lst b c) (Bt.gst b c)))) (Ex.move rfl) (by decide)) (fun _ _ => ?_)
          refine GL.stepG (tj := 79) rfl rfl (Stp.callR (σ := Unit) (p := fun rz => True) (v := fun rz => (.bool (decide (Bt.key (Bt.gst b c) < Bt.key (Bt.btw a (Bt.lst b c) (Bt.gst b c)))))) (N := fun rz => []) (vs := [(.int .u32 (Bt.gst b c)), (.int .u32 (Bt.btw a (Bt.lst b c) (Bt.gst b c)))]) rfl rfl T.own31 (by decide) (fun wc hw => before_p (Bt.gst b c) (Bt.btw a (Bt.lst b c) (Bt.gst b c)) wc (by first | assumption | omega | exact Bt.lst_bd (by assumption) (by assumption) | exact Bt.gst_bd (by assumption) (by assumption) | exact Bt.key_bd (by assumption) | exact Bt.unkey_bd (by assumption) | exact Bt.nxt_bd (by assumption) | exact Bt.lst_bd (Bt.gst_bd (by assumption) (by assumption)) (by assumption) | exact Bt.btw_bd (by assumption) (Bt.lst_bd (by assumption) (by assumption)) (Bt.gst_bd (by assumption) (by assumption))) (by first | assumption | omega | exact Bt.lst_bd (by assumption) (by assumption) | exact Bt.gst_bd (by assumption) (by assumption) | exact Bt.key_bd (by assumption) | exact Bt.unkey_bd (by assumption) | exact Bt.nxt_bd (by assumption) | exact Bt.lst_bd (Bt.gst_bd (by assumption) (by assumption)) (by assumption) | exact Bt.btw_bd (by assumption) (Bt.lst_bd (by assumption) (by assumption)) (Bt.gst_bd (by assumption) (by assumption))))) (fun xq52 hq53 => ?_)
          refine GL.stepG (tj := 79) rfl rfl (Ex.wp (v := (.bool true)) (Ex.cast (Ex.not rfl) (congrArg Value.bool (congrArg (fun z => !z) (decide_eq_false (by exact Bt.btw_hi))))) (by decide)) (fun _ _ => ?_)
          refine GL.val (v := (.bool true)) (Ex.pickT rfl rfl) (by decide) ?_
          refine GL.val (v := (.bool true)) (Ex.move rfl) (by decide) ?_
          refine GL.stepG (tj := 85) rfl rfl (Ex.wp (v := (.int .u32 (Bt.btw a (Bt.lst b c) (Bt.gst b c)))) (Ex.move rfl) (by decide)) (fun _ _ => ?_)
          refine GL.stepG (tj := 85) rfl rfl (Ex.wp (v := (.int .u32 a)) (Ex.move rfl) (by decide)) (fun _ _ => ?_)
          refine GL.stepG (tj := 85) rfl rfl (Ex.wp (v := (.bool true)) (Ex.cast (Ex.eql rfl rfl) (congrArg Value.bool (decide_eq_true (by exact Bt.btw_is ha (Bt.lst_bd hb hc) (Bt.gst_bd hb hc) (by assumption) (by assumption))))) (by decide)) (fun _ _ => ?_)
          refine GL.stepG (tj := 85) rfl rfl (Ex.wp (v := (.bool true)) (Ex.move rfl) (by decide)) (fun _ _ => ?_)
          refine GL.skipG (tj := 89) rfl rfl rfl (by decide) ?_
          refine GL.skipG (tj := 89) rfl rfl rfl (by decide) ?_
          refine GL.skipG (tj := 89) rfl rfl rfl (by decide) ?_
          refine GL.stepG (tj := 85) rfl rfl (Ex.wp (v := (.bool true)) (Ex.pickT rfl rfl) (by decide)) (fun _ _ => ?_)
          refine GL.stepG (tj := 85) rfl rfl (Ex.wp (v := (.bool true)) (Ex.move rfl) (by decide)) (fun _ _ => ?_)
          refine GL.skipG (tj := 94) rfl rfl rfl (by decide) ?_
          refine GL.skipG (tj := 94) rfl rfl rfl (by decide) ?_
          refine GL.skipG (tj := 94) rfl rfl rfl (by decide) ?_
          refine GL.stepG (tj := 85) rfl rfl (Ex.wp (v := (.bool true)) (Ex.pickT rfl rfl) (by decide)) (fun _ _ => ?_)
          refine GL.val (v := (.bool true)) (Ex.pickT rfl rfl) (by decide) ?_
          refine GL.val (v := (.bool true)) (Ex.assign rfl) (by decide) ?_
          refine GL.nil ?_
          refine GE.thenN ?_
          refine GC.ret ?_
          refine GC.ret1 rfl (Rv.tmp rfl) (fun wN HN => ?_)
          exact HN.ret () trivial rfl (List.nil_sublist _) rfl
    · refine GL.stepG (tj := 43) rfl rfl (Ex.wp (v := (.bool false)) (Ex.cast (Ex.neq rfl rfl) (congrArg Value.bool (decide_eq_false hq13))) (by decide)) (fun _ _ => ?_)
      refine GL.stepG (tj := 39) rfl rfl (Ex.wp (v := (.bool false)) (Ex.pickT rfl rfl) (by decide)) (fun _ _ => ?_)
      refine GL.stepG (tj := 39) rfl rfl (Ex.wp (v := (.bool false)) (Ex.move rfl) (by decide)) (fun _ _ => ?_)
      refine GL.skipG (tj := 48) rfl rfl rfl (by decide) ?_
      refine GL.skipG (tj := 48) rfl rfl rfl (by decide) ?_
      refine GL.skipG (tj := 48) rfl rfl rfl (by decide) ?_
      refine GL.stepG (tj := 39) rfl rfl (Ex.wp (v := (.bool false)) (Ex.pickF rfl rfl) (by decide)) (fun _ _ => ?_)
      refine GL.val (v := (.bool false)) (Ex.pickF rfl rfl) (by decide) ?_
      refine GL.nil ?_
      refine GE.thenN ?_
      refine GC.cond rfl (fun hq54 => by cases hq54) (fun _ => ?_)
      refine GC.skip ?_
      refine GE.thenN ?_
      refine GC.seq ?_
      refine GC.seq ?_
      refine GC.region ?_
      refine GL.val (v := (.int .u32 (Bt.med a b c))) (Ex.move rfl) (by decide) ?_
      refine GL.val (v := (.int .u32 a)) (Ex.move rfl) (by decide) ?_
      refine GL.val (v := (.int .u32 b)) (Ex.move rfl) (by decide) ?_
      refine GL.step (Stp.callR (σ := Unit) (p := fun rz => True) (v := fun rz => (.int .u32 (Bt.lst a b))) (N := fun rz => []) (vs := [(.int .u32 a), (.int .u32 b)]) rfl rfl T.own34 (by decide) (fun wc hw => least_p a b wc (by first | assumption | omega | exact Bt.lst_bd (by assumption) (by assumption) | exact Bt.gst_bd (by assumption) (by assumption) | exact Bt.key_bd (by assumption) | exact Bt.unkey_bd (by assumption) | exact Bt.nxt_bd (by assumption) | exact Bt.lst_bd (Bt.gst_bd (by assumption) (by assumption)) (by assumption) | exact Bt.btw_bd (by assumption) (Bt.lst_bd (by assumption) (by assumption)) (Bt.gst_bd (by assumption) (by assumption))) (by first | assumption | omega | exact Bt.lst_bd (by assumption) (by assumption) | exact Bt.gst_bd (by assumption) (by assumption) | exact Bt.key_bd (by assumption) | exact Bt.unkey_bd (by assumption) | exact Bt.nxt_bd (by assumption) | exact Bt.lst_bd (Bt.gst_bd (by assumption) (by assumption)) (by assumption) | exact Bt.btw_bd (by assumption) (Bt.lst_bd (by assumption) (by assumption)) (Bt.gst_bd (by assumption) (by assumption))))) (fun xq55 hq56 => ?_)
      refine GL.val (v := (.int .u32 a)) (Ex.move rfl) (by decide) ?_
      refine GL.val (v := (.int .u32 b)) (Ex.move rfl) (by decide) ?_
      refine GL.step (Stp.callR (σ := Unit) (p := fun rz => True) (v := fun rz => (.int .u32 (Bt.gst a b))) (N := fun rz => []) (vs := [(.int .u32 a), (.int .u32 b)]) rfl rfl T.own36 (by decide) (fun wc hw => greatest_p a b wc (by first | assumption | omega | exact Bt.lst_bd (by assumption) (by assumption) | exact Bt.gst_bd (by assumption) (by assumption) | exact Bt.key_bd (by assumption) | exact Bt.unkey_bd (by assumption) | exact Bt.nxt_bd (by assumption) | exact Bt.lst_bd (Bt.gst_bd (by assumption) (by assumption)) (by assumption) | exact Bt.btw_bd (by assumption) (Bt.lst_bd (by assumption) (by assumption)) (Bt.gst_bd (by assumption) (by assumption))) (by first | assumption | omega | exact Bt.lst_bd (by assumption) (by assumption) | exact Bt.gst_bd (by assumption) (by assumption) | exact Bt.key_bd (by assumption) | exact Bt.unkey_bd (by assumption) | exact Bt.nxt_bd (by assumption) | exact Bt.lst_bd (Bt.gst_bd (by assumption) (by assumption)) (by assumption) | exact Bt.btw_bd (by assumption) (Bt.lst_bd (by assumption) (by assumption)) (Bt.gst_bd (by assumption) (by assumption))))) (fun xq57 hq58 => ?_)
      refine GL.val (v := (.int .u32 c)) (Ex.move rfl) (by decide) ?_
      refine GL.step (Stp.callR (σ := Unit) (p := fun rz => True) (v := fun rz => (.int .u32 (Bt.lst (Bt.gst a b) c))) (N := fun rz => []) (vs := [(.int .u32 (Bt.gst a b)), (.int .u32 c)]) rfl rfl T.own34 (by decide) (fun wc hw => least_p (Bt.gst a b) c wc (by first | assumption | omega | exact Bt.lst_bd (by assumption) (by assumption) | exact Bt.gst_bd (by assumption) (by assumption) | exact Bt.key_bd (by assumption) | exact Bt.unkey_bd (by assumption) | exact Bt.nxt_bd (by assumption) | exact Bt.lst_bd (Bt.gst_bd (by assumption) (by assumption)) (by assumption) | exact Bt.btw_bd (by assumption) (Bt.lst_bd (by assumption) (by assumption)) (Bt.gst_bd (by assumption) (by assumption))) (by first | assumption | omega | exact Bt.lst_bd (by assumption) (by assumption) | exact Bt.gst_bd (by assumption) (by assumption) | exact Bt.key_bd (by assumption) | exact Bt.unkey_bd (by assumption) | exact Bt.nxt_bd (by assumption) | exact Bt.lst_bd (Bt.gst_bd (by assumption) (by assumption)) (by assumption) | exact Bt.btw_bd (by assumption) (Bt.lst_bd (by assumption) (by assumption)) (Bt.gst_bd (by assumption) (by assumption))))) (fun xq59 hq60 => ?_)
      refine GL.step (Stp.callR (σ := Unit) (p := fun rz => True) (v := fun rz => (.int .u32 (Bt.gst (Bt.lst a b) (Bt.lst (Bt.gst a b) c)))) (N := fun rz => []) (vs := [(.int .u32 (Bt.lst a b)), (.int .u32 (Bt.lst (Bt.gst a b) c))]) rfl rfl T.own36 (by decide) (fun wc hw => greatest_p (Bt.lst a b) (Bt.lst (Bt.gst a b) c) wc (by first | assumption | omega | exact Bt.lst_bd (by assumption) (by assumption) | exact Bt.gst_bd (by assumption) (by assumption) | exact Bt.key_bd (by assumption) | exact Bt.unkey_bd (by assumption) | exact Bt.nxt_bd (by assumption) | exact Bt.lst_bd (Bt.gst_bd (by assumption) (by assumption)) (by assumption) | exact Bt.btw_bd (by assumption) (Bt.lst_bd (by assumption) (by assumption)) (Bt.gst_bd (by assumption) (by assumption))) (by first | assumption | omega | exact Bt.lst_bd (by assumption) (by assumption) | exact Bt.gst_bd (by assumption) (by assumption) | exact Bt.key_bd (by assumption) | exact Bt.unkey_bd (by assumption) | exact Bt.nxt_bd (by assumption) | exact Bt.lst_bd (Bt.gst_bd (by assumption) (by assumption)) (by assumption) | exact Bt.btw_bd (by assumption) (Bt.lst_bd (by assumption) (by assumption)) (Bt.gst_bd (by assumption) (by assumption))))) (fun xq61 hq62 => ?_)
      refine GL.val (v := (.bool false)) (Ex.cast (Ex.neq rfl rfl) (congrArg Value.bool (decide_eq_false (by exact fun h => h rfl)))) (by decide) ?_
      refine GL.nil ?_
      refine GE.thenN ?_
      refine GC.cond rfl (fun hq63 => by cases hq63) (fun _ => ?_)
      refine GC.skip ?_
      refine GE.thenN ?_
      refine GC.seq ?_
      refine GC.region ?_
      refine GL.val (v := (.int .u32 b)) (Ex.move rfl) (by decide) ?_
      refine GL.val (v := (.int .u32 c)) (Ex.move rfl) (by decide) ?_
      refine GL.step (Stp.callR (σ := Unit) (p := fun rz => True) (v := fun rz => (.int .u32 (Bt.lst b c))) (N := fun rz => []) (vs := [(.int .u32 b), (.int .u32 c)]) rfl rfl T.own34 (by decide) (fun wc hw => least_p b c wc (by first | assumption | omega | exact Bt.lst_bd (by assumption) (by assumption) | exact Bt.gst_bd (by assumption) (by assumption) | exact Bt.key_bd (by assumption) | exact Bt.unkey_bd (by assumption) | exact Bt.nxt_bd (by assumption) | exact Bt.lst_bd (Bt.gst_bd (by assumption) (by assumption)) (by assumption) | exact Bt.btw_bd (by assumption) (Bt.lst_bd (by assumption) (by assumption)) (Bt.gst_bd (by assumption) (by assumption))) (by first | assumption | omega | exact Bt.lst_bd (by assumption) (by assumption) | exact Bt.gst_bd (by assumption) (by assumption) | exact Bt.key_bd (by assumption) | exact Bt.unkey_bd (by assumption) | exact Bt.nxt_bd (by assumption) | exact Bt.lst_bd (Bt.gst_bd (by assumption) (by assumption)) (by assumption) | exact Bt.btw_bd (by assumption) (Bt.lst_bd (by assumption) (by assumption)) (Bt.gst_bd (by assumption) (by assumption))))) (fun xq64 hq65 => ?_)
      refine GL.val (v := (.int .u32 b)) (Ex.move rfl) (by decide) ?_
      refine GL.val (v := (.int .u32 c)) (Ex.move rfl) (by decide) ?_
      refine GL.step (Stp.callR (σ := Unit) (p := fun rz => True) (v := fun rz => (.int .u32 (Bt.gst b c))) (N := fun rz => []) (vs := [(.int .u32 b), (.int .u32 c)]) rfl rfl T.own36 (by decide) (fun wc hw => greatest_p b c wc (by first | assumption | omega | exact Bt.lst_bd (by assumption) (by assumption) | exact Bt.gst_bd (by assumption) (by assumption) | exact Bt.key_bd (by assumption) | exact Bt.unkey_bd (by assumption) | exact Bt.nxt_bd (by assumption) | exact Bt.lst_bd (Bt.gst_bd (by assumption) (by assumption)) (by assumption) | exact Bt.btw_bd (by assumption) (Bt.lst_bd (by assumption) (by assumption)) (Bt.gst_bd (by assumption) (by assumption))) (by first | assumption | omega | exact Bt.lst_bd (by assumption) (by assumption) | exact Bt.gst_bd (by assumption) (by assumption) | exact Bt.key_bd (by assumption) | exact Bt.unkey_bd (by assumption) | exact Bt.nxt_bd (by assumption) | exact Bt.lst_bd (Bt.gst_bd (by assumption) (by assumption)) (by assumption) | exact Bt.btw_bd (by assumption) (Bt.lst_bd (by assumption) (by assumption)) (Bt.gst_bd (by assumption) (by assumption))))) (fun xq66 hq67 => ?_)
      refine GL.val (v := (.int .u32 (Bt.lst b c))) (Ex.assign rfl) (by decide) ?_
      refine GL.val (v := (.int .u32 (Bt.gst b c))) (Ex.assign rfl) (by decide) ?_
      refine GL.nil ?_
      refine GE.thenN ?_
      refine GC.seq ?_
      refine GC.region ?_
      refine GL.val (v := (.int .u32 a)) (Ex.move rfl) (by decide) ?_
      refine GL.val (v := (.int .u32 (Bt.lst b c))) (Ex.move rfl) (by decide) ?_
      refine GL.val (v := (.int .u32 (Bt.gst b c))) (Ex.move rfl) (by decide) ?_
      refine GL.step (Stp.callR (σ := Unit) (p := fun rz => True) (v := fun rz => (.int .u32 (Bt.btw a (Bt.lst b c) (Bt.gst b c)))) (N := fun rz => []) (vs := [(.int .u32 a), (.int .u32 (Bt.lst b c)), (.int .u32 (Bt.gst b c))]) rfl rfl T.own40 (by decide) (fun wc hw => btw_p a (Bt.lst b c) (Bt.gst b c) wc (by first | assumption | omega | exact Bt.lst_bd (by assumption) (by assumption) | exact Bt.gst_bd (by assumption) (by assumption) | exact Bt.key_bd (by assumption) | exact Bt.unkey_bd (by assumption) | exact Bt.nxt_bd (by assumption) | exact Bt.lst_bd (Bt.gst_bd (by assumption) (by assumption)) (by assumption) | exact Bt.btw_bd (by assumption) (Bt.lst_bd (by assumption) (by assumption)) (Bt.gst_bd (by assumption) (by assumption))) (by first | assumption | omega | exact Bt.lst_bd (by assumption) (by assumption) | exact Bt.gst_bd (by assumption) (by assumption) | exact Bt.key_bd (by assumption) | exact Bt.unkey_bd (by assumption) | exact Bt.nxt_bd (by assumption) | exact Bt.lst_bd (Bt.gst_bd (by assumption) (by assumption)) (by assumption) | exact Bt.btw_bd (by assumption) (Bt.lst_bd (by assumption) (by assumption)) (Bt.gst_bd (by assumption) (by assumption))) (by first | assumption | omega | exact Bt.lst_bd (by assumption) (by assumption) | exact Bt.gst_bd (by assumption) (by assumption) | exact Bt.key_bd (by assumption) | exact Bt.unkey_bd (by assumption) | exact Bt.nxt_bd (by assumption) | exact Bt.lst_bd (Bt.gst_bd (by assumption) (by assumption)) (by assumption) | exact Bt.btw_bd (by assumption) (Bt.lst_bd (by assumption) (by assumption)) (Bt.gst_bd (by assumption) (by assumption))))) (fun xq68 hq69 => ?_)
      refine GL.val (v := (.int .u32 (Bt.btw a (Bt.lst b c) (Bt.gst b c)))) (Ex.assign rfl) (by decide) ?_
      refine GL.nil ?_
      refine GE.thenN ?_
      refine GC.seq ?_
      by_cases s1 : Bt.key a < Bt.key (Bt.lst b c)
      · by_cases s2 : Bt.key (Bt.gst b c) < Bt.key a
        · refine GC.region ?_
          refine GL.val (v := (.int .u32 (Bt.btw a (Bt.lst b c) (Bt.gst b c)))) (Ex.move rfl) (by decide) ?_
          refine GL.val (v := (.int .u32 (Bt.lst b c))) (Ex.move rfl) (by decide) ?_
          refine GL.step (Stp.callR (σ := Unit) (p := fun rz => True) (v := fun rz => (.bool (decide (Bt.key (Bt.btw a (Bt.lst b c) (Bt.gst b c)) < Bt.key (Bt.lst b c))))) (N := fun rz => []) (vs := [(.int .u32 (Bt.btw a (Bt.lst b c) (Bt.gst b c))), (.int .u32 (Bt.lst b c))]) rfl rfl T.own31 (by decide) (fun wc hw => before_p (Bt.btw a (Bt.lst b c) (Bt.gst b c)) (Bt.lst b c) wc (by first | assumption | omega | exact Bt.lst_bd (by assumption) (by assumption) | exact Bt.gst_bd (by assumption) (by assumption) | exact Bt.key_bd (by assumption) | exact Bt.unkey_bd (by assumption) | exact Bt.nxt_bd (by assumption) | exact Bt.lst_bd (Bt.gst_bd (by assumption) (by assumption)) (by assumption) | exact Bt.btw_bd (by assumption) (Bt.lst_bd (by assumption) (by assumption)) (Bt.gst_bd (by assumption) (by assumption))) (by first | assumption | omega | exact Bt.lst_bd (by assumption) (by assumption) | exact Bt.gst_bd (by assumption) (by assumption) | exact Bt.key_bd (by assumption) | exact Bt.unkey_bd (by assumption) | exact Bt.nxt_bd (by assumption) | exact Bt.lst_bd (Bt.gst_bd (by assumption) (by assumption)) (by assumption) | exact Bt.btw_bd (by assumption) (Bt.lst_bd (by assumption) (by assumption)) (Bt.gst_bd (by assumption) (by assumption))))) (fun xq70 hq71 => ?_)
          refine GL.val (v := (.bool true)) (Ex.cast (Ex.not rfl) (congrArg Value.bool (congrArg (fun z => !z) (decide_eq_false (by exact Bt.btw_lo (Bt.lo_hi _ _)))))) (by decide) ?_
          refine GL.val (v := (.bool true)) (Ex.move rfl) (by decide) ?_
          refine GL.stepG (tj := 79) rfl rfl (Ex.wp (v := (.int .u32 (Bt.gst b c))) (Ex.move rfl) (by decide)) (fun _ _ => ?_)
          refine GL.stepG (tj := 79) rfl rfl (Ex.wp (v := (.int .u32 (Bt.btw a (Bt.lst b c) (Bt.gst b c)))) (Ex.move rfl) (by decide)) (fun _ _ => ?_)
          refine GL.stepG (tj := 79) rfl rfl (Stp.callR (σ := Unit) (p := fun rz => True) (v := fun rz => (.bool (decide (Bt.key (Bt.gst b c) < Bt.key (Bt.btw a (Bt.lst b c) (Bt.gst b c)))))) (N := fun rz => []) (vs := [(.int .u32 (Bt.gst b c)), (.int .u32 (Bt.btw a (Bt.lst b c) (Bt.gst b c)))]) rfl rfl T.own31 (by decide) (fun wc hw => before_p (Bt.gst b c) (Bt.btw a (Bt.lst b c) (Bt.gst b c)) wc (by first | assumption | omega | exact Bt.lst_bd (by assumption) (by assumption) | exact Bt.gst_bd (by assumption) (by assumption) | exact Bt.key_bd (by assumption) | exact Bt.unkey_bd (by assumption) | exact Bt.nxt_bd (by assumption) | exact Bt.lst_bd (Bt.gst_bd (by assumption) (by assumption)) (by assumption) | exact Bt.btw_bd (by assumption) (Bt.lst_bd (by assumption) (by assumption)) (Bt.gst_bd (by assumption) (by assumption))) (by first | assumption | omega | exact Bt.lst_bd (by assumption) (by assumption) | exact Bt.gst_bd (by assumption) (by assumption) | exact Bt.key_bd (by assumption) | exact Bt.unkey_bd (by assumption) | exact Bt.nxt_bd (by assumption) | exact Bt.lst_bd (Bt.gst_bd (by assumption) (by assumption)) (by assumption) | exact Bt.btw_bd (by assumption) (Bt.lst_bd (by assumption) (by assumption)) (Bt.gst_bd (by assumption) (by assumption))))) (fun xq72 hq73 => ?_)
          refine GL.stepG (tj := 79) rfl rfl (Ex.wp (v := (.bool true)) (Ex.cast (Ex.not rfl) (congrArg Value.bool (congrArg (fun z => !z) (decide_eq_false (by exact Bt.btw_hi))))) (by decide)) (fun _ _ => ?_)
          refine GL.val (v := (.bool true)) (Ex.pickT rfl rfl) (by decide) ?_
          refine GL.val (v := (.bool true)) (Ex.move rfl) (by decide) ?_
          refine GL.stepG (tj := 85) rfl rfl (Ex.wp (v := (.int .u32 (Bt.btw a (Bt.lst b c) (Bt.gst b c)))) (Ex.move rfl) (by decide)) (fun _ _ => ?_)
          refine GL.stepG (tj := 85) rfl rfl (Ex.wp (v := (.int .u32 a)) (Ex.move rfl) (by decide)) (fun _ _ => ?_)
          refine GL.stepG (tj := 85) rfl rfl (Ex.wp (v := (.bool false)) (Ex.cast (Ex.eql rfl rfl) (congrArg Value.bool (decide_eq_false (by exact Bt.btw_ne (Bt.lo_hi _ _) (by first | exact Or.inl (by assumption) | exact Or.inr (by assumption)))))) (by decide)) (fun _ _ => ?_)
          refine GL.stepG (tj := 85) rfl rfl (Ex.wp (v := (.bool false)) (Ex.move rfl) (by decide)) (fun _ _ => ?_)
          refine GL.stepG (tj := 89) rfl rfl (Ex.wp (v := (.int .u32 a)) (Ex.move rfl) (by decide)) (fun _ _ => ?_)
          refine GL.stepG (tj := 89) rfl rfl (Ex.wp (v := (.int .u32 (Bt.lst b c))) (Ex.move rfl) (by decide)) (fun _ _ => ?_)
          refine GL.stepG (tj := 89) rfl rfl (Stp.callR (σ := Unit) (p := fun rz => True) (v := fun rz => (.bool (decide (Bt.key a < Bt.key (Bt.lst b c))))) (N := fun rz => []) (vs := [(.int .u32 a), (.int .u32 (Bt.lst b c))]) rfl rfl T.own31 (by decide) (fun wc hw => before_p a (Bt.lst b c) wc (by first | assumption | omega | exact Bt.lst_bd (by assumption) (by assumption) | exact Bt.gst_bd (by assumption) (by assumption) | exact Bt.key_bd (by assumption) | exact Bt.unkey_bd (by assumption) | exact Bt.nxt_bd (by assumption) | exact Bt.lst_bd (Bt.gst_bd (by assumption) (by assumption)) (by assumption) | exact Bt.btw_bd (by assumption) (Bt.lst_bd (by assumption) (by assumption)) (Bt.gst_bd (by assumption) (by assumption))) (by first | assumption | omega | exact Bt.lst_bd (by assumption) (by assumption) | exact Bt.gst_bd (by assumption) (by assumption) | exact Bt.key_bd (by assumption) | exact Bt.unkey_bd (by assumption) | exact Bt.nxt_bd (by assumption) | exact Bt.lst_bd (Bt.gst_bd (by assumption) (by assumption)) (by assumption) | exact Bt.btw_bd (by assumption) (Bt.lst_bd (by assumption) (by assumption)) (Bt.gst_bd (by assumption) (by assumption))))) (fun xq74 hq75 => ?_)
          refine GL.stepG (tj := 85) rfl rfl (Ex.wp (v := (.bool (decide (Bt.key a < Bt.key (Bt.lst b c))))) (Ex.pickF rfl rfl) (by decide)) (fun _ _ => ?_)
          refine GL.stepG (tj := 85) rfl rfl (Ex.wp (v := (.bool true)) (Ex.cast (Ex.move rfl) (congrArg Value.bool (decide_eq_true (by assumption)))) (by decide)) (fun _ _ => ?_)
          refine GL.skipG (tj := 94) rfl rfl rfl (by decide) ?_
          refine GL.skipG (tj := 94) rfl rfl rfl (by decide) ?_
          refine GL.skipG (tj := 94) rfl rfl rfl (by decide) ?_
          refine GL.stepG (tj := 85) rfl rfl (Ex.wp (v := (.bool true)) (Ex.pickT rfl rfl) (by decide)) (fun _ _ => ?_)
          refine GL.val (v := (.bool true)) (Ex.pickT rfl rfl) (by decide) ?_
          refine GL.val (v := (.bool true)) (Ex.assign rfl) (by decide) ?_
          refine GL.nil ?_
          refine GE.thenN ?_
          refine GC.ret ?_
          refine GC.ret1 rfl (Rv.tmp rfl) (fun wN HN => ?_)
          exact HN.ret () trivial rfl (List.nil_sublist _) rfl
        · refine GC.region ?_
          refine GL.val (v := (.int .u32 (Bt.btw a (Bt.lst b c) (Bt.gst b c)))) (Ex.move rfl) (by decide) ?_
          refine GL.val (v := (.int .u32 (Bt.lst b c))) (Ex.move rfl) (by decide) ?_
          refine GL.step (Stp.callR (σ := Unit) (p := fun rz => True) (v := fun rz => (.bool (decide (Bt.key (Bt.btw a (Bt.lst b c) (Bt.gst b c)) < Bt.key (Bt.lst b c))))) (N := fun rz => []) (vs := [(.int .u32 (Bt.btw a (Bt.lst b c) (Bt.gst b c))), (.int .u32 (Bt.lst b c))]) rfl rfl T.own31 (by decide) (fun wc hw => before_p (Bt.btw a (Bt.lst b c) (Bt.gst b c)) (Bt.lst b c) wc (by first | assumption | omega | exact Bt.lst_bd (by assumption) (by assumption) | exact Bt.gst_bd (by assumption) (by assumption) | exact Bt.key_bd (by assumption) | exact Bt.unkey_bd (by assumption) | exact Bt.nxt_bd (by assumption) | exact Bt.lst_bd (Bt.gst_bd (by assumption) (by assumption)) (by assumption) | exact Bt.btw_bd (by assumption) (Bt.lst_bd (by assumption) (by assumption)) (Bt.gst_bd (by assumption) (by assumption))) (by first | assumption | omega | exact Bt.lst_bd (by assumption) (by assumption) | exact Bt.gst_bd (by assumption) (by assumption) | exact Bt.key_bd (by assumption) | exact Bt.unkey_bd (by assumption) | exact Bt.nxt_bd (by assumption) | exact Bt.lst_bd (Bt.gst_bd (by assumption) (by assumption)) (by assumption) | exact Bt.btw_bd (by assumption) (Bt.lst_bd (by assumption) (by assumption)) (Bt.gst_bd (by assumption) (by assumption))))) (fun xq76 hq77 => ?_)
          refine GL.val (v := (.bool true)) (Ex.cast (Ex.not rfl) (congrArg Value.bool (congrArg (fun z => !z) (decide_eq_false (by exact Bt.btw_lo (Bt.lo_hi _ _)))))) (by decide) ?_
          refine GL.val (v := (.bool true)) (Ex.move rfl) (by decide) ?_
          refine GL.stepG (tj := 79) rfl rfl (Ex.wp (v := (.int .u32 (Bt.gst b c))) (Ex.move rfl) (by decide)) (fun _ _ => ?_)
          refine GL.stepG (tj := 79) rfl rfl (Ex.wp (v := (.int .u32 (Bt.btw a (Bt.lst b c) (Bt.gst b c)))) (Ex.move rfl) (by decide)) (fun _ _ => ?_)
          refine GL.stepG (tj := 79) rfl rfl (Stp.callR (σ := Unit) (p := fun rz => True) (v := fun rz => (.bool (decide (Bt.key (Bt.gst b c) < Bt.key (Bt.btw a (Bt.lst b c) (Bt.gst b c)))))) (N := fun rz => []) (vs := [(.int .u32 (Bt.gst b c)), (.int .u32 (Bt.btw a (Bt.lst b c) (Bt.gst b c)))]) rfl rfl T.own31 (by decide) (fun wc hw => before_p (Bt.gst b c) (Bt.btw a (Bt.lst b c) (Bt.gst b c)) wc (by first | assumption | omega | exact Bt.lst_bd (by assumption) (by assumption) | exact Bt.gst_bd (by assumption) (by assumption) | exact Bt.key_bd (by assumption) | exact Bt.unkey_bd (by assumption) | exact Bt.nxt_bd (by assumption) | exact Bt.lst_bd (Bt.gst_bd (by assumption) (by assumption)) (by assumption) | exact Bt.btw_bd (by assumption) (Bt.lst_bd (by assumption) (by assumption)) (Bt.gst_bd (by assumption) (by assumption))) (by first | assumption | omega | exact Bt.lst_bd (by assumption) (by assumption) | exact Bt.gst_bd (by assumption) (by assumption) | exact Bt.key_bd (by assumption) | exact Bt.unkey_bd (by assumption) | exact Bt.nxt_bd (by assumption) | exact Bt.lst_bd (Bt.gst_bd (by assumption) (by assumption)) (by assumption) | exact Bt.btw_bd (by assumption) (Bt.lst_bd (by assumption) (by assumption)) (Bt.gst_bd (by assumption) (by assumption))))) (fun xq78 hq79 => ?_)
          refine GL.stepG (tj := 79) rfl rfl (Ex.wp (v := (.bool true)) (Ex.cast (Ex.not rfl) (congrArg Value.bool (congrArg (fun z => !z) (decide_eq_false (by exact Bt.btw_hi))))) (by decide)) (fun _ _ => ?_)
          refine GL.val (v := (.bool true)) (Ex.pickT rfl rfl) (by decide) ?_
          refine GL.val (v := (.bool true)) (Ex.move rfl) (by decide) ?_
          refine GL.stepG (tj := 85) rfl rfl (Ex.wp (v := (.int .u32 (Bt.btw a (Bt.lst b c) (Bt.gst b c)))) (Ex.move rfl) (by decide)) (fun _ _ => ?_)
          refine GL.stepG (tj := 85) rfl rfl (Ex.wp (v := (.int .u32 a)) (Ex.move rfl) (by decide)) (fun _ _ => ?_)
          refine GL.stepG (tj := 85) rfl rfl (Ex.wp (v := (.bool false)) (Ex.cast (Ex.eql rfl rfl) (congrArg Value.bool (decide_eq_false (by exact Bt.btw_ne (Bt.lo_hi _ _) (by first | exact Or.inl (by assumption) | exact Or.inr (by assumption)))))) (by decide)) (fun _ _ => ?_)
          refine GL.stepG (tj := 85) rfl rfl (Ex.wp (v := (.bool false)) (Ex.move rfl) (by decide)) (fun _ _ => ?_)
          refine GL.stepG (tj := 89) rfl rfl (Ex.wp (v := (.int .u32 a)) (Ex.move rfl) (by decide)) (fun _ _ => ?_)
          refine GL.stepG (tj := 89) rfl rfl (Ex.wp (v := (.int .u32 (Bt.lst b c))) (Ex.move rfl) (by decide)) (fun _ _ => ?_)
          refine GL.stepG (tj := 89) rfl rfl (Stp.callR (σ := Unit) (p := fun rz => True) (v := fun rz => (.bool (decide (Bt.key a < Bt.key (Bt.lst b c))))) (N := fun rz => []) (vs := [(.int .u32 a), (.int .u32 (Bt.lst b c))]) rfl rfl T.own31 (by decide) (fun wc hw => before_p a (Bt.lst b c) wc (by first | assumption | omega | exact Bt.lst_bd (by assumption) (by assumption) | exact Bt.gst_bd (by assumption) (by assumption) | exact Bt.key_bd (by assumption) | exact Bt.unkey_bd (by assumption) | exact Bt.nxt_bd (by assumption) | exact Bt.lst_bd (Bt.gst_bd (by assumption) (by assumption)) (by assumption) | exact Bt.btw_bd (by assumption) (Bt.lst_bd (by assumption) (by assumption)) (Bt.gst_bd (by assumption) (by assumption))) (by first | assumption | omega | exact Bt.lst_bd (by assumption) (by assumption) | exact Bt.gst_bd (by assumption) (by assumption) | exact Bt.key_bd (by assumption) | exact Bt.unkey_bd (by assumption) | exact Bt.nxt_bd (by assumption) | exact Bt.lst_bd (Bt.gst_bd (by assumption) (by assumption)) (by assumption) | exact Bt.btw_bd (by assumption) (Bt.lst_bd (by assumption) (by assumption)) (Bt.gst_bd (by assumption) (by assumption))))) (fun xq80 hq81 => ?_)
          refine GL.stepG (tj := 85) rfl rfl (Ex.wp (v := (.bool (decide (Bt.key a < Bt.key (Bt.lst b c))))) (Ex.pickF rfl rfl) (by decide)) (fun _ _ => ?_)
          refine GL.stepG (tj := 85) rfl rfl (Ex.wp (v := (.bool true)) (Ex.cast (Ex.move rfl) (congrArg Value.bool (decide_eq_true (by assumption)))) (by decide)) (fun _ _ => ?_)
          refine GL.skipG (tj := 94) rfl rfl rfl (by decide) ?_
          refine GL.skipG (tj := 94) rfl rfl rfl (by decide) ?_
          refine GL.skipG (tj := 94) rfl rfl rfl (by decide) ?_
          refine GL.stepG (tj := 85) rfl rfl (Ex.wp (v := (.bool true)) (Ex.pickT rfl rfl) (by decide)) (fun _ _ => ?_)
          refine GL.val (v := (.bool true)) (Ex.pickT rfl rfl) (by decide) ?_
          refine GL.val (v := (.bool true)) (Ex.assign rfl) (by decide) ?_
          refine GL.nil ?_
          refine GE.thenN ?_
          refine GC.ret ?_
          refine GC.ret1 rfl (Rv.tmp rfl) (fun wN HN => ?_)
          exact HN.ret () trivial rfl (List.nil_sublist _) rfl
      · by_cases s2 : Bt.key (Bt.gst b c) < Bt.key a
        · refine GC.region ?_
          refine GL.val (v := (.int .u32 (Bt.btw a (Bt.lst b c) (Bt.gst b c)))) (Ex.move rfl) (by decide) ?_
          refine GL.val (v := (.int .u32 (Bt.lst b c))) (Ex.move rfl) (by decide) ?_
          refine GL.step (Stp.callR (σ := Unit) (p := fun rz => True) (v := fun rz => (.bool (decide (Bt.key (Bt.btw a (Bt.lst b c) (Bt.gst b c)) < Bt.key (Bt.lst b c))))) (N := fun rz => []) (vs := [(.int .u32 (Bt.btw a (Bt.lst b c) (Bt.gst b c))), (.int .u32 (Bt.lst b c))]) rfl rfl T.own31 (by decide) (fun wc hw => before_p (Bt.btw a (Bt.lst b c) (Bt.gst b c)) (Bt.lst b c) wc (by first | assumption | omega | exact Bt.lst_bd (by assumption) (by assumption) | exact Bt.gst_bd (by assumption) (by assumption) | exact Bt.key_bd (by assumption) | exact Bt.unkey_bd (by assumption) | exact Bt.nxt_bd (by assumption) | exact Bt.lst_bd (Bt.gst_bd (by assumption) (by assumption)) (by assumption) | exact Bt.btw_bd (by assumption) (Bt.lst_bd (by assumption) (by assumption)) (Bt.gst_bd (by assumption) (by assumption))) (by first | assumption | omega | exact Bt.lst_bd (by assumption) (by assumption) | exact Bt.gst_bd (by assumption) (by assumption) | exact Bt.key_bd (by assumption) | exact Bt.unkey_bd (by assumption) | exact Bt.nxt_bd (by assumption) | exact Bt.lst_bd (Bt.gst_bd (by assumption) (by assumption)) (by assumption) | exact Bt.btw_bd (by assumption) (Bt.lst_bd (by assumption) (by assumption)) (Bt.gst_bd (by assumption) (by assumption))))) (fun xq82 hq83 => ?_)
          refine GL.val (v := (.bool true)) (Ex.cast (Ex.not rfl) (congrArg Value.bool (congrArg (fun z => !z) (decide_eq_false (by exact Bt.btw_lo (Bt.lo_hi _ _)))))) (by decide) ?_
          refine GL.val (v := (.bool true)) (Ex.move rfl) (by decide) ?_
          refine GL.stepG (tj := 79) rfl rfl (Ex.wp (v := (.int .u32 (Bt.gst b c))) (Ex.move rfl) (by decide)) (fun _ _ => ?_)
          refine GL.stepG (tj := 79) rfl rfl (Ex.wp (v := (.int .u32 (Bt.btw a (Bt.lst b c) (Bt.gst b c)))) (Ex.move rfl) (by decide)) (fun _ _ => ?_)
          refine GL.stepG (tj := 79) rfl rfl (Stp.callR (σ := Unit) (p := fun rz => True) (v := fun rz => (.bool (decide (Bt.key (Bt.gst b c) < Bt.key (Bt.btw a (Bt.lst b c) (Bt.gst b c)))))) (N := fun rz => []) (vs := [(.int .u32 (Bt.gst b c)), (.int .u32 (Bt.btw a (Bt.lst b c) (Bt.gst b c)))]) rfl rfl T.own31 (by decide) (fun wc hw => before_p (Bt.gst b c) (Bt.btw a (Bt.lst b c) (Bt.gst b c)) wc (by first | assumption | omega | exact Bt.lst_bd (by assumption) (by assumption) | exact Bt.gst_bd (by assumption) (by assumption) | exact Bt.key_bd (by assumption) | exact Bt.unkey_bd (by assumption) | exact Bt.nxt_bd (by assumption) | exact Bt.lst_bd (Bt.gst_bd (by assumption) (by assumption)) (by assumption) | exact Bt.btw_bd (by assumption) (Bt.lst_bd (by assumption) (by assumption)) (Bt.gst_bd (by assumption) (by assumption))) (by first | assumption | omega | exact Bt.lst_bd (by assumption) (by assumption) | exact Bt.gst_bd (by assumption) (by assumption) | exact Bt.key_bd (by assumption) | exact Bt.unkey_bd (by assumption) | exact Bt.nxt_bd (by assumption) | exact Bt.lst_bd (Bt.gst_bd (by assumption) (by assumption)) (by assumption) | exact Bt.btw_bd (by assumption) (Bt.lst_bd (by assumption) (by assumption)) (Bt.gst_bd (by assumption) (by assumption))))) (fun xq84 hq85 => ?_)
          refine GL.stepG (tj := 79) rfl rfl (Ex.wp (v := (.bool true)) (Ex.cast (Ex.not rfl) (congrArg Value.bool (congrArg (fun z => !z) (decide_eq_false (by exact Bt.btw_hi))))) (by decide)) (fun _ _ => ?_)
          refine GL.val (v := (.bool true)) (Ex.pickT rfl rfl) (by decide) ?_
          refine GL.val (v := (.bool true)) (Ex.move rfl) (by decide) ?_
          refine GL.stepG (tj := 85) rfl rfl (Ex.wp (v := (.int .u32 (Bt.btw a (Bt.lst b c) (Bt.gst b c)))) (Ex.move rfl) (by decide)) (fun _ _ => ?_)
          refine GL.stepG (tj := 85) rfl rfl (Ex.wp (v := (.int .u32 a)) (Ex.move rfl) (by decide)) (fun _ _ => ?_)
          refine GL.stepG (tj := 85) rfl rfl (Ex.wp (v := (.bool false)) (Ex.cast (Ex.eql rfl rfl) (congrArg Value.bool (decide_eq_false (by exact Bt.btw_ne (Bt.lo_hi _ _) (by first | exact Or.inl (by assumption) | exact Or.inr (by assumption)))))) (by decide)) (fun _ _ => ?_)
          refine GL.stepG (tj := 85) rfl rfl (Ex.wp (v := (.bool false)) (Ex.move rfl) (by decide)) (fun _ _ => ?_)
          refine GL.stepG (tj := 89) rfl rfl (Ex.wp (v := (.int .u32 a)) (Ex.move rfl) (by decide)) (fun _ _ => ?_)
          refine GL.stepG (tj := 89) rfl rfl (Ex.wp (v := (.int .u32 (Bt.lst b c))) (Ex.move rfl) (by decide)) (fun _ _ => ?_)
          refine GL.stepG (tj := 89) rfl rfl (Stp.callR (σ := Unit) (p := fun rz => True) (v := fun rz => (.bool (decide (Bt.key a < Bt.key (Bt.lst b c))))) (N := fun rz => []) (vs := [(.int .u32 a), (.int .u32 (Bt.lst b c))]) rfl rfl T.own31 (by decide) (fun wc hw => before_p a (Bt.lst b c) wc (by first | assumption | omega | exact Bt.lst_bd (by assumption) (by assumption) | exact Bt.gst_bd (by assumption) (by assumption) | exact Bt.key_bd (by assumption) | exact Bt.unkey_bd (by assumption) | exact Bt.nxt_bd (by assumption) | exact Bt.lst_bd (Bt.gst_bd (by assumption) (by assumption)) (by assumption) | exact Bt.btw_bd (by assumption) (Bt.lst_bd (by assumption) (by assumption)) (Bt.gst_bd (by assumption) (by assumption))) (by first | assumption | omega | exact Bt.lst_bd (by assumption) (by assumption) | exact Bt.gst_bd (by assumption) (by assumption) | exact Bt.key_bd (by assumption) | exact Bt.unkey_bd (by assumption) | exact Bt.nxt_bd (by assumption) | exact Bt.lst_bd (Bt.gst_bd (by assumption) (by assumption)) (by assumption) | exact Bt.btw_bd (by assumption) (Bt.lst_bd (by assumption) (by assumption)) (Bt.gst_bd (by assumption) (by assumption))))) (fun xq86 hq87 => ?_)
          refine GL.stepG (tj := 85) rfl rfl (Ex.wp (v := (.bool (decide (Bt.key a < Bt.key (Bt.lst b c))))) (Ex.pickF rfl rfl) (by decide)) (fun _ _ => ?_)
          refine GL.stepG (tj := 85) rfl rfl (Ex.wp (v := (.bool false)) (Ex.cast (Ex.move rfl) (congrArg Value.bool (decide_eq_false (by assumption)))) (by decide)) (fun _ _ => ?_)
          refine GL.stepG (tj := 94) rfl rfl (Ex.wp (v := (.int .u32 (Bt.gst b c))) (Ex.move rfl) (by decide)) (fun _ _ => ?_)
          refine GL.stepG (tj := 94) rfl rfl (Ex.wp (v := (.int .u32 a)) (Ex.move rfl) (by decide)) (fun _ _ => ?_)
          refine GL.stepG (tj := 94) rfl rfl (Stp.callR (σ := Unit) (p := fun rz => True) (v := fun rz => (.bool (decide (Bt.key (Bt.gst b c) < Bt.key a)))) (N := fun rz => []) (vs := [(.int .u32 (Bt.gst b c)), (.int .u32 a)]) rfl rfl T.own31 (by decide) (fun wc hw => before_p (Bt.gst b c) a wc (by first | assumption | omega | exact Bt.lst_bd (by assumption) (by assumption) | exact Bt.gst_bd (by assumption) (by assumption) | exact Bt.key_bd (by assumption) | exact Bt.unkey_bd (by assumption) | exact Bt.nxt_bd (by assumption) | exact Bt.lst_bd (Bt.gst_bd (by assumption) (by assumption)) (by assumption) | exact Bt.btw_bd (by assumption) (Bt.lst_bd (by assumption) (by assumption)) (Bt.gst_bd (by assumption) (by assumption))) (by first | assumption | omega | exact Bt.lst_bd (by assumption) (by assumption) | exact Bt.gst_bd (by assumption) (by assumption) | exact Bt.key_bd (by assumption) | exact Bt.unkey_bd (by assumption) | exact Bt.nxt_bd (by assumption) | exact Bt.lst_bd (Bt.gst_bd (by assumption) (by assumption)) (by assumption) | exact Bt.btw_bd (by assumption) (Bt.lst_bd (by assumption) (by assumption)) (Bt.gst_bd (by assumption) (by assumption))))) (fun xq88 hq89 => ?_)
          refine GL.stepG (tj := 85) rfl rfl (Ex.wp (v := (.bool (decide (Bt.key (Bt.gst b c) < Bt.key a)))) (Ex.pickF rfl rfl) (by decide)) (fun _ _ => ?_)
          refine GL.val (v := (.bool (decide (Bt.key (Bt.gst b c) < Bt.key a)))) (Ex.pickT rfl rfl) (by decide) ?_
          refine GL.val (v := (.bool (decide (Bt.key (Bt.gst b c) < Bt.key a)))) (Ex.assign rfl) (by decide) ?_
          refine GL.nil ?_
          refine GE.thenN ?_
          refine GC.ret ?_
          refine GC.ret1 rfl (Rv.tmp rfl) (fun wN HN => ?_)
          exact HN.ret () trivial (congrArg Value.bool (by first | (exfalso; omega) | simp_all)) (List.nil_sublist _) rfl
        · refine GC.region ?_
          refine GL.val (v := (.int .u32 (Bt.btw a (Bt.lst b c) (Bt.gst b c)))) (Ex.move rfl) (by decide) ?_
          refine GL.val (v := (.int .u32 (Bt.lst b c))) (Ex.move rfl) (by decide) ?_
          refine GL.step (Stp.callR (σ := Unit) (p := fun rz => True) (v := fun rz => (.bool (decide (Bt.key (Bt.btw a (Bt.lst b c) (Bt.gst b c)) < Bt.key (Bt.lst b c))))) (N := fun rz => []) (vs := [(.int .u32 (Bt.btw a (Bt.lst b c) (Bt.gst b c))), (.int .u32 (Bt.lst b c))]) rfl rfl T.own31 (by decide) (fun wc hw => before_p (Bt.btw a (Bt.lst b c) (Bt.gst b c)) (Bt.lst b c) wc (by first | assumption | omega | exact Bt.lst_bd (by assumption) (by assumption) | exact Bt.gst_bd (by assumption) (by assumption) | exact Bt.key_bd (by assumption) | exact Bt.unkey_bd (by assumption) | exact Bt.nxt_bd (by assumption) | exact Bt.lst_bd (Bt.gst_bd (by assumption) (by assumption)) (by assumption) | exact Bt.btw_bd (by assumption) (Bt.lst_bd (by assumption) (by assumption)) (Bt.gst_bd (by assumption) (by assumption))) (by first | assumption | omega | exact Bt.lst_bd (by assumption) (by assumption) | exact Bt.gst_bd (by assumption) (by assumption) | exact Bt.key_bd (by assumption) | exact Bt.unkey_bd (by assumption) | exact Bt.nxt_bd (by assumption) | exact Bt.lst_bd (Bt.gst_bd (by assumption) (by assumption)) (by assumption) | exact Bt.btw_bd (by assumption) (Bt.lst_bd (by assumption) (by assumption)) (Bt.gst_bd (by assumption) (by assumption))))) (fun xq90 hq91 => ?_)
          refine GL.val (v := (.bool true)) (Ex.cast (Ex.not rfl) (congrArg Value.bool (congrArg (fun z => !z) (decide_eq_false (by exact Bt.btw_lo (Bt.lo_hi _ _)))))) (by decide) ?_
          refine GL.val (v := (.bool true)) (Ex.move rfl) (by decide) ?_
          refine GL.stepG (tj := 79) rfl rfl (Ex.wp (v := (.int .u32 (Bt.gst b c))) (Ex.move rfl) (by decide)) (fun _ _ => ?_)
          refine GL.stepG (tj := 79) rfl rfl (Ex.wp (v := (.int .u32 (Bt.btw a (Bt.lst b c) (Bt.gst b c)))) (Ex.move rfl) (by decide)) (fun _ _ => ?_)
          refine GL.stepG (tj := 79) rfl rfl (Stp.callR (σ := Unit) (p := fun rz => True) (v := fun rz => (.bool (decide (Bt.key (Bt.gst b c) < Bt.key (Bt.btw a (Bt.lst b c) (Bt.gst b c)))))) (N := fun rz => []) (vs := [(.int .u32 (Bt.gst b c)), (.int .u32 (Bt.btw a (Bt.lst b c) (Bt.gst b c)))]) rfl rfl T.own31 (by decide) (fun wc hw => before_p (Bt.gst b c) (Bt.btw a (Bt.lst b c) (Bt.gst b c)) wc (by first | assumption | omega | exact Bt.lst_bd (by assumption) (by assumption) | exact Bt.gst_bd (by assumption) (by assumption) | exact Bt.key_bd (by assumption) | exact Bt.unkey_bd (by assumption) | exact Bt.nxt_bd (by assumption) | exact Bt.lst_bd (Bt.gst_bd (by assumption) (by assumption)) (by assumption) | exact Bt.btw_bd (by assumption) (Bt.lst_bd (by assumption) (by assumption)) (Bt.gst_bd (by assumption) (by assumption))) (by first | assumption | omega | exact Bt.lst_bd (by assumption) (by assumption) | exact Bt.gst_bd (by assumption) (by assumption) | exact Bt.key_bd (by assumption) | exact Bt.unkey_bd (by assumption) | exact Bt.nxt_bd (by assumption) | exact Bt.lst_bd (Bt.gst_bd (by assumption) (by assumption)) (by assumption) | exact Bt.btw_bd (by assumption) (Bt.lst_bd (by assumption) (by assumption)) (Bt.gst_bd (by assumption) (by assumption))))) (fun xq92 hq93 => ?_)
          refine GL.stepG (tj := 79) rfl rfl (Ex.wp (v := (.bool true)) (Ex.cast (Ex.not rfl) (congrArg Value.bool (congrArg (fun z => !z) (decide_eq_false (by exact Bt.btw_hi))))) (by decide)) (fun _ _ => ?_)
          refine GL.val (v := (.bool true)) (Ex.pickT rfl rfl) (by decide) ?_
          refine GL.val (v := (.bool true)) (Ex.move rfl) (by decide) ?_
          refine GL.stepG (tj := 85) rfl rfl (Ex.wp (v := (.int .u32 (Bt.btw a (Bt.lst b c) (Bt.gst b c)))) (Ex.move rfl) (by decide)) (fun _ _ => ?_)
          refine GL.stepG (tj := 85) rfl rfl (Ex.wp (v := (.int .u32 a)) (Ex.move rfl) (by decide)) (fun _ _ => ?_)
          refine GL.stepG (tj := 85) rfl rfl (Ex.wp (v := (.bool true)) (Ex.cast (Ex.eql rfl rfl) (congrArg Value.bool (decide_eq_true (by exact Bt.btw_is ha (Bt.lst_bd hb hc) (Bt.gst_bd hb hc) (by assumption) (by assumption))))) (by decide)) (fun _ _ => ?_)
          refine GL.stepG (tj := 85) rfl rfl (Ex.wp (v := (.bool true)) (Ex.move rfl) (by decide)) (fun _ _ => ?_)
          refine GL.skipG (tj := 89) rfl rfl rfl (by decide) ?_
          refine GL.skipG (tj := 89) rfl rfl rfl (by decide) ?_
          refine GL.skipG (tj := 89) rfl rfl rfl (by decide) ?_
          refine GL.stepG (tj := 85) rfl rfl (Ex.wp (v := (.bool true)) (Ex.pickT rfl rfl) (by decide)) (fun _ _ => ?_)
          refine GL.stepG (tj := 85) rfl rfl (Ex.wp (v := (.bool true)) (Ex.move rfl) (by decide)) (fun _ _ => ?_)
          refine GL.skipG (tj := 94) rfl rfl rfl (by decide) ?_
          refine GL.skipG (tj := 94) rfl rfl rfl (by decide) ?_
          refine GL.skipG (tj := 94) rfl rfl rfl (by decide) ?_
          refine GL.stepG (tj := 85) rfl rfl (Ex.wp (v := (.bool true)) (Ex.pickT rfl rfl) (by decide)) (fun _ _ => ?_)
          refine GL.val (v := (.bool true)) (Ex.pickT rfl rfl) (by decide) ?_
          refine GL.val (v := (.bool true)) (Ex.assign rfl) (by decide) ?_
          refine GL.nil ?_
          refine GE.thenN ?_
          refine GC.ret ?_
          refine GC.ret1 rfl (Rv.tmp rfl) (fun wN HN => ?_)
          exact HN.ret () trivial rfl (List.nil_sublist _) rfl
  · refine GL.stepG (tj := 39) rfl rfl (Ex.wp (v := (.bool false)) (Ex.cast (Ex.neq rfl rfl) (congrArg Value.bool (decide_eq_false hq12))) (by decide)) (fun _ _ => ?_)
    refine GL.stepG (tj := 39) rfl rfl (Ex.wp (v := (.bool false)) (Ex.move rfl) (by decide)) (fun _ _ => ?_)
    refine GL.skipG (tj := 43) rfl rfl rfl (by decide) ?_
    refine GL.skipG (tj := 43) rfl rfl rfl (by decide) ?_
    refine GL.skipG (tj := 43) rfl rfl rfl (by decide) ?_
    refine GL.stepG (tj := 39) rfl rfl (Ex.wp (v := (.bool false)) (Ex.pickF rfl rfl) (by decide)) (fun _ _ => ?_)
    refine GL.stepG (tj := 39) rfl rfl (Ex.wp (v := (.bool false)) (Ex.move rfl) (by decide)) (fun _ _ => ?_)
    refine GL.skipG (tj := 48) rfl rfl rfl (by decide) ?_
    refine GL.skipG (tj := 48) rfl rfl rfl (by decide) ?_
    refine GL.skipG (tj := 48) rfl rfl rfl (by decide) ?_
    refine GL.stepG (tj := 39) rfl rfl (Ex.wp (v := (.bool false)) (Ex.pickF rfl rfl) (by decide)) (fun _ _ => ?_)
    refine GL.val (v := (.bool false)) (Ex.pickF rfl rfl) (by decide) ?_
    refine GL.nil ?_
    refine GE.thenN ?_
    refine GC.cond rfl (fun hq94 => by cases hq94) (fun _ => ?_)
    refine GC.skip ?_
    refine GE.thenN ?_
    refine GC.seq ?_
    refine GC.seq ?_
    refine GC.region ?_
    refine GL.val (v := (.int .u32 (Bt.med a b c))) (Ex.move rfl) (by decide) ?_
    refine GL.val (v := (.int .u32 a)) (Ex.move rfl) (by decide) ?_
    refine GL.val (v := (.int .u32 b)) (Ex.move rfl) (by decide) ?_
    refine GL.step (Stp.callR (σ := Unit) (p := fun rz => True) (v := fun rz => (.int .u32 (Bt.lst a b))) (N := fun rz => []) (vs := [(.int .u32 a), (.int .u32 b)]) rfl rfl T.own34 (by decide) (fun wc hw => least_p a b wc (by first | assumption | omega | exact Bt.lst_bd (by assumption) (by assumption) | exact Bt.gst_bd (by assumption) (by assumption) | exact Bt.key_bd (by assumption) | exact Bt.unkey_bd (by assumption) | exact Bt.nxt_bd (by assumption) | exact Bt.lst_bd (Bt.gst_bd (by assumption) (by assumption)) (by assumption) | exact Bt.btw_bd (by assumption) (Bt.lst_bd (by assumption) (by assumption)) (Bt.gst_bd (by assumption) (by assumption))) (by first | assumption | omega | exact Bt.lst_bd (by assumption) (by assumption) | exact Bt.gst_bd (by assumption) (by assumption) | exact Bt.key_bd (by assumption) | exact Bt.unkey_bd (by assumption) | exact Bt.nxt_bd (by assumption) | exact Bt.lst_bd (Bt.gst_bd (by assumption) (by assumption)) (by assumption) | exact Bt.btw_bd (by assumption) (Bt.lst_bd (by assumption) (by assumption)) (Bt.gst_bd (by assumption) (by assumption))))) (fun xq95 hq96 => ?_)
    refine GL.val (v := (.int .u32 a)) (Ex.move rfl) (by decide) ?_
    refine GL.val (v := (.int .u32 b)) (Ex.move rfl) (by decide) ?_
    refine GL.step (Stp.callR (σ := Unit) (p := fun rz => True) (v := fun rz => (.int .u32 (Bt.gst a b))) (N := fun rz => []) (vs := [(.int .u32 a), (.int .u32 b)]) rfl rfl T.own36 (by decide) (fun wc hw => greatest_p a b wc (by first | assumption | omega | exact Bt.lst_bd (by assumption) (by assumption) | exact Bt.gst_bd (by assumption) (by assumption) | exact Bt.key_bd (by assumption) | exact Bt.unkey_bd (by assumption) | exact Bt.nxt_bd (by assumption) | exact Bt.lst_bd (Bt.gst_bd (by assumption) (by assumption)) (by assumption) | exact Bt.btw_bd (by assumption) (Bt.lst_bd (by assumption) (by assumption)) (Bt.gst_bd (by assumption) (by assumption))) (by first | assumption | omega | exact Bt.lst_bd (by assumption) (by assumption) | exact Bt.gst_bd (by assumption) (by assumption) | exact Bt.key_bd (by assumption) | exact Bt.unkey_bd (by assumption) | exact Bt.nxt_bd (by assumption) | exact Bt.lst_bd (Bt.gst_bd (by assumption) (by assumption)) (by assumption) | exact Bt.btw_bd (by assumption) (Bt.lst_bd (by assumption) (by assumption)) (Bt.gst_bd (by assumption) (by assumption))))) (fun xq97 hq98 => ?_)
    refine GL.val (v := (.int .u32 c)) (Ex.move rfl) (by decide) ?_
    refine GL.step (Stp.callR (σ := Unit) (p := fun rz => True) (v := fun rz => (.int .u32 (Bt.lst (Bt.gst a b) c))) (N := fun rz => []) (vs := [(.int .u32 (Bt.gst a b)), (.int .u32 c)]) rfl rfl T.own34 (by decide) (fun wc hw => least_p (Bt.gst a b) c wc (by first | assumption | omega | exact Bt.lst_bd (by assumption) (by assumption) | exact Bt.gst_bd (by assumption) (by assumption) | exact Bt.key_bd (by assumption) | exact Bt.unkey_bd (by assumption) | exact Bt.nxt_bd (by assumption) | exact Bt.lst_bd (Bt.gst_bd (by assumption) (by assumption)) (by assumption) | exact Bt.btw_bd (by assumption) (Bt.lst_bd (by assumption) (by assumption)) (Bt.gst_bd (by assumption) (by assumption))) (by first | assumption | omega | exact Bt.lst_bd (by assumption) (by assumption) | exact Bt.gst_bd (by assumption) (by assumption) | exact Bt.key_bd (by assumption) | exact Bt.unkey_bd (by assumption) | exact Bt.nxt_bd (by assumption) | exact Bt.lst_bd (Bt.gst_bd (by assumption) (by assumption)) (by assumption) | exact Bt.btw_bd (by assumption) (Bt.lst_bd (by assumption) (by assumption)) (Bt.gst_bd (by assumption) (by assumption))))) (fun xq99 hq100 => ?_)
    refine GL.step (Stp.callR (σ := Unit) (p := fun rz => True) (v := fun rz => (.int .u32 (Bt.gst (Bt.lst a b) (Bt.lst (Bt.gst a b) c)))) (N := fun rz => []) (vs := [(.int .u32 (Bt.lst a b)), (.int .u32 (Bt.lst (Bt.gst a b) c))]) rfl rfl T.own36 (by decide) (fun wc hw => greatest_p (Bt.lst a b) (Bt.lst (Bt.gst a b) c) wc (by first | assumption | omega | exact Bt.lst_bd (by assumption) (by assumption) | exact Bt.gst_bd (by assumption) (by assumption) | exact Bt.key_bd (by assumption) | exact Bt.unkey_bd (by assumption) | exact Bt.nxt_bd (by assumption) | exact Bt.lst_bd (Bt.gst_bd (by assumption) (by assumption)) (by assumption) | exact Bt.btw_bd (by assumption) (Bt.lst_bd (by assumption) (by assumption)) (Bt.gst_bd (by assumption) (by assumption))) (by first | assumption | omega | exact Bt.lst_bd (by assumption) (by assumption) | exact Bt.gst_bd (by assumption) (by assumption) | exact Bt.key_bd (by assumption) | exact Bt.unkey_bd (by assumption) | exact Bt.nxt_bd (by assumption) | exact Bt.lst_bd (Bt.gst_bd (by assumption) (by assumption)) (by assumption) | exact Bt.btw_bd (by assumption) (Bt.lst_bd (by assumption) (by assumption)) (Bt.gst_bd (by assumption) (by assumption))))) (fun xq101 hq102 => ?_)
    refine GL.val (v := (.bool false)) (Ex.cast (Ex.neq rfl rfl) (congrArg Value.bool (decide_eq_false (by exact fun h => h rfl)))) (by decide) ?_
    refine GL.nil ?_
    refine GE.thenN ?_
    refine GC.cond rfl (fun hq103 => by cases hq103) (fun _ => ?_)
    refine GC.skip ?_
    refine GE.thenN ?_
    refine GC.seq ?_
    refine GC.region ?_
    refine GL.val (v := (.int .u32 b)) (Ex.move rfl) (by decide) ?_
    refine GL.val (v := (.int .u32 c)) (Ex.move rfl) (by decide) ?_
    refine GL.step (Stp.callR (σ := Unit) (p := fun rz => True) (v := fun rz => (.int .u32 (Bt.lst b c))) (N := fun rz => []) (vs := [(.int .u32 b), (.int .u32 c)]) rfl rfl T.own34 (by decide) (fun wc hw => least_p b c wc (by first | assumption | omega | exact Bt.lst_bd (by assumption) (by assumption) | exact Bt.gst_bd (by assumption) (by assumption) | exact Bt.key_bd (by assumption) | exact Bt.unkey_bd (by assumption) | exact Bt.nxt_bd (by assumption) | exact Bt.lst_bd (Bt.gst_bd (by assumption) (by assumption)) (by assumption) | exact Bt.btw_bd (by assumption) (Bt.lst_bd (by assumption) (by assumption)) (Bt.gst_bd (by assumption) (by assumption))) (by first | assumption | omega | exact Bt.lst_bd (by assumption) (by assumption) | exact Bt.gst_bd (by assumption) (by assumption) | exact Bt.key_bd (by assumption) | exact Bt.unkey_bd (by assumption) | exact Bt.nxt_bd (by assumption) | exact Bt.lst_bd (Bt.gst_bd (by assumption) (by assumption)) (by assumption) | exact Bt.btw_bd (by assumption) (Bt.lst_bd (by assumption) (by assumption)) (Bt.gst_bd (by assumption) (by assumption))))) (fun xq104 hq105 => ?_)
    refine GL.val (v := (.int .u32 b)) (Ex.move rfl) (by decide) ?_
    refine GL.val (v := (.int .u32 c)) (Ex.move rfl) (by decide) ?_
    refine GL.step (Stp.callR (σ := Unit) (p := fun rz => True) (v := fun rz => (.int .u32 (Bt.gst b c))) (N := fun rz => []) (vs := [(.int .u32 b), (.int .u32 c)]) rfl rfl T.own36 (by decide) (fun wc hw => greatest_p b c wc (by first | assumption | omega | exact Bt.lst_bd (by assumption) (by assumption) | exact Bt.gst_bd (by assumption) (by assumption) | exact Bt.key_bd (by assumption) | exact Bt.unkey_bd (by assumption) | exact Bt.nxt_bd (by assumption) | exact Bt.lst_bd (Bt.gst_bd (by assumption) (by assumption)) (by assumption) | exact Bt.btw_bd (by assumption) (Bt.lst_bd (by assumption) (by assumption)) (Bt.gst_bd (by assumption) (by assumption))) (by first | assumption | omega | exact Bt.lst_bd (by assumption) (by assumption) | exact Bt.gst_bd (by assumption) (by assumption) | exact Bt.key_bd (by assumption) | exact Bt.unkey_bd (by assumption) | exact Bt.nxt_bd (by assumption) | exact Bt.lst_bd (Bt.gst_bd (by assumption) (by assumption)) (by assumption) | exact Bt.btw_bd (by assumption) (Bt.lst_bd (by assumption) (by assumption)) (Bt.gst_bd (by assumption) (by assumption))))) (fun xq106 hq107 => ?_)
    refine GL.val (v := (.int .u32 (Bt.lst b c))) (Ex.assign rfl) (by decide) ?_
    refine GL.val (v := (.int .u32 (Bt.gst b c))) (Ex.assign rfl) (by decide) ?_
    refine GL.nil ?_
    refine GE.thenN ?_
    refine GC.seq ?_
    refine GC.region ?_
    refine GL.val (v := (.int .u32 a)) (Ex.move rfl) (by decide) ?_
    refine GL.val (v := (.int .u32 (Bt.lst b c))) (Ex.move rfl) (by decide) ?_
    refine GL.val (v := (.int .u32 (Bt.gst b c))) (Ex.move rfl) (by decide) ?_
    refine GL.step (Stp.callR (σ := Unit) (p := fun rz => True) (v := fun rz => (.int .u32 (Bt.btw a (Bt.lst b c) (Bt.gst b c)))) (N := fun rz => []) (vs := [(.int .u32 a), (.int .u32 (Bt.lst b c)), (.int .u32 (Bt.gst b c))]) rfl rfl T.own40 (by decide) (fun wc hw => btw_p a (Bt.lst b c) (Bt.gst b c) wc (by first | assumption | omega | exact Bt.lst_bd (by assumption) (by assumption) | exact Bt.gst_bd (by assumption) (by assumption) | exact Bt.key_bd (by assumption) | exact Bt.unkey_bd (by assumption) | exact Bt.nxt_bd (by assumption) | exact Bt.lst_bd (Bt.gst_bd (by assumption) (by assumption)) (by assumption) | exact Bt.btw_bd (by assumption) (Bt.lst_bd (by assumption) (by assumption)) (Bt.gst_bd (by assumption) (by assumption))) (by first | assumption | omega | exact Bt.lst_bd (by assumption) (by assumption) | exact Bt.gst_bd (by assumption) (by assumption) | exact Bt.key_bd (by assumption) | exact Bt.unkey_bd (by assumption) | exact Bt.nxt_bd (by assumption) | exact Bt.lst_bd (Bt.gst_bd (by assumption) (by assumption)) (by assumption) | exact Bt.btw_bd (by assumption) (Bt.lst_bd (by assumption) (by assumption)) (Bt.gst_bd (by assumption) (by assumption))) (by first | assumption | omega | exact Bt.lst_bd (by assumption) (by assumption) | exact Bt.gst_bd (by assumption) (by assumption) | exact Bt.key_bd (by assumption) | exact Bt.unkey_bd (by assumption) | exact Bt.nxt_bd (by assumption) | exact Bt.lst_bd (Bt.gst_bd (by assumption) (by assumption)) (by assumption) | exact Bt.btw_bd (by assumption) (Bt.lst_bd (by assumption) (by assumption)) (Bt.gst_bd (by assumption) (by assumption))))) (fun xq108 hq109 => ?_)
    refine GL.val (v := (.int .u32 (Bt.btw a (Bt.lst b c) (Bt.gst b c)))) (Ex.assign rfl) (by decide) ?_
    refine GL.nil ?_
    refine GE.thenN ?_
    refine GC.seq ?_
    by_cases s1 : Bt.key a < Bt.key (Bt.lst b c)
    · by_cases s2 : Bt.key (Bt.gst b c) < Bt.key a
      · refine GC.region ?_
        refine GL.val (v := (.int .u32 (Bt.btw a (Bt.lst b c) (Bt.gst b c)))) (Ex.move rfl) (by decide) ?_
        refine GL.val (v := (.int .u32 (Bt.lst b c))) (Ex.move rfl) (by decide) ?_
        refine GL.step (Stp.callR (σ := Unit) (p := fun rz => True) (v := fun rz => (.bool (decide (Bt.key (Bt.btw a (Bt.lst b c) (Bt.gst b c)) < Bt.key (Bt.lst b c))))) (N := fun rz => []) (vs := [(.int .u32 (Bt.btw a (Bt.lst b c) (Bt.gst b c))), (.int .u32 (Bt.lst b c))]) rfl rfl T.own31 (by decide) (fun wc hw => before_p (Bt.btw a (Bt.lst b c) (Bt.gst b c)) (Bt.lst b c) wc (by first | assumption | omega | exact Bt.lst_bd (by assumption) (by assumption) | exact Bt.gst_bd (by assumption) (by assumption) | exact Bt.key_bd (by assumption) | exact Bt.unkey_bd (by assumption) | exact Bt.nxt_bd (by assumption) | exact Bt.lst_bd (Bt.gst_bd (by assumption) (by assumption)) (by assumption) | exact Bt.btw_bd (by assumption) (Bt.lst_bd (by assumption) (by assumption)) (Bt.gst_bd (by assumption) (by assumption))) (by first | assumption | omega | exact Bt.lst_bd (by assumption) (by assumption) | exact Bt.gst_bd (by assumption) (by assumption) | exact Bt.key_bd (by assumption) | exact Bt.unkey_bd (by assumption) | exact Bt.nxt_bd (by assumption) | exact Bt.lst_bd (Bt.gst_bd (by assumption) (by assumption)) (by assumption) | exact Bt.btw_bd (by assumption) (Bt.lst_bd (by assumption) (by assumption)) (Bt.gst_bd (by assumption) (by assumption))))) (fun xq110 hq111 => ?_)
        refine GL.val (v := (.bool true)) (Ex.cast (Ex.not rfl) (congrArg Value.bool (congrArg (fun z => !z) (decide_eq_false (by exact Bt.btw_lo (Bt.lo_hi _ _)))))) (by decide) ?_
        refine GL.val (v := (.bool true)) (Ex.move rfl) (by decide) ?_
        refine GL.stepG (tj := 79) rfl rfl (Ex.wp (v := (.int .u32 (Bt.gst b c))) (Ex.move rfl) (by decide)) (fun _ _ => ?_)
        refine GL.stepG (tj := 79) rfl rfl (Ex.wp (v := (.int .u32 (Bt.btw a (Bt.lst b c) (Bt.gst b c)))) (Ex.move rfl) (by decide)) (fun _ _ => ?_)
        refine GL.stepG (tj := 79) rfl rfl (Stp.callR (σ := Unit) (p := fun rz => True) (v := fun rz => (.bool (decide (Bt.key (Bt.gst b c) < Bt.key (Bt.btw a (Bt.lst b c) (Bt.gst b c)))))) (N := fun rz => []) (vs := [(.int .u32 (Bt.gst b c)), (.int .u32 (Bt.btw a (Bt.lst b c) (Bt.gst b c)))]) rfl rfl T.own31 (by decide) (fun wc hw => before_p (Bt.gst b c) (Bt.btw a (Bt.lst b c) (Bt.gst b c)) wc (by first | assumption | omega | exact Bt.lst_bd (by assumption) (by assumption) | exact Bt.gst_bd (by assumption) (by assumption) | exact Bt.key_bd (by assumption) | exact Bt.unkey_bd (by assumption) | exact Bt.nxt_bd (by assumption) | exact Bt.lst_bd (Bt.gst_bd (by assumption) (by assumption)) (by assumption) | exact Bt.btw_bd (by assumption) (Bt.lst_bd (by assumption) (by assumption)) (Bt.gst_bd (by assumption) (by assumption))) (by first | assumption | omega | exact Bt.lst_bd (by assumption) (by assumption) | exact Bt.gst_bd (by assumption) (by assumption) | exact Bt.key_bd (by assumption) | exact Bt.unkey_bd (by assumption) | exact Bt.nxt_bd (by assumption) | exact Bt.lst_bd (Bt.gst_bd (by assumption) (by assumption)) (by assumption) | exact Bt.btw_bd (by assumption) (Bt.lst_bd (by assumption) (by assumption)) (Bt.gst_bd (by assumption) (by assumption))))) (fun xq112 hq113 => ?_)
        refine GL.stepG (tj := 79) rfl rfl (Ex.wp (v := (.bool true)) (Ex.cast (Ex.not rfl) (congrArg Value.bool (congrArg (fun z => !z) (decide_eq_false (by exact Bt.btw_hi))))) (by decide)) (fun _ _ => ?_)
        refine GL.val (v := (.bool true)) (Ex.pickT rfl rfl) (by decide) ?_
        refine GL.val (v := (.bool true)) (Ex.move rfl) (by decide) ?_
        refine GL.stepG (tj := 85) rfl rfl (Ex.wp (v := (.int .u32 (Bt.btw a (Bt.lst b c) (Bt.gst b c)))) (Ex.move rfl) (by decide)) (fun _ _ => ?_)
        refine GL.stepG (tj := 85) rfl rfl (Ex.wp (v := (.int .u32 a)) (Ex.move rfl) (by decide)) (fun _ _ => ?_)
        refine GL.stepG (tj := 85) rfl rfl (Ex.wp (v := (.bool false)) (Ex.cast (Ex.eql rfl rfl) (congrArg Value.bool (decide_eq_false (by exact Bt.btw_ne (Bt.lo_hi _ _) (by first | exact Or.inl (by assumption) | exact Or.inr (by assumption)))))) (by decide)) (fun _ _ => ?_)
        refine GL.stepG (tj := 85) rfl rfl (Ex.wp (v := (.bool false)) (Ex.move rfl) (by decide)) (fun _ _ => ?_)
        refine GL.stepG (tj := 89) rfl rfl (Ex.wp (v := (.int .u32 a)) (Ex.move rfl) (by decide)) (fun _ _ => ?_)
        refine GL.stepG (tj := 89) rfl rfl (Ex.wp (v := (.int .u32 (Bt.lst b c))) (Ex.move rfl) (by decide)) (fun _ _ => ?_)
        refine GL.stepG (tj := 89) rfl rfl (Stp.callR (σ := Unit) (p := fun rz => True) (v := fun rz => (.bool (decide (Bt.key a < Bt.key (Bt.lst b c))))) (N := fun rz => []) (vs := [(.int .u32 a), (.int .u32 (Bt.lst b c))]) rfl rfl T.own31 (by decide) (fun wc hw => before_p a (Bt.lst b c) wc (by first | assumption | omega | exact Bt.lst_bd (by assumption) (by assumption) | exact Bt.gst_bd (by assumption) (by assumption) | exact Bt.key_bd (by assumption) | exact Bt.unkey_bd (by assumption) | exact Bt.nxt_bd (by assumption) | exact Bt.lst_bd (Bt.gst_bd (by assumption) (by assumption)) (by assumption) | exact Bt.btw_bd (by assumption) (Bt.lst_bd (by assumption) (by assumption)) (Bt.gst_bd (by assumption) (by assumption))) (by first | assumption | omega | exact Bt.lst_bd (by assumption) (by assumption) | exact Bt.gst_bd (by assumption) (by assumption) | exact Bt.key_bd (by assumption) | exact Bt.unkey_bd (by assumption) | exact Bt.nxt_bd (by assumption) | exact Bt.lst_bd (Bt.gst_bd (by assumption) (by assumption)) (by assumption) | exact Bt.btw_bd (by assumption) (Bt.lst_bd (by assumption) (by assumption)) (Bt.gst_bd (by assumption) (by assumption))))) (fun xq114 hq115 => ?_)
        refine GL.stepG (tj := 85) rfl rfl (Ex.wp (v := (.bool (decide (Bt.key a < Bt.key (Bt.lst b c))))) (Ex.pickF rfl rfl) (by decide)) (fun _ _ => ?_)
        refine GL.stepG (tj := 85) rfl rfl (Ex.wp (v := (.bool true)) (Ex.cast (Ex.move rfl) (congrArg Value.bool (decide_eq_true (by assumption)))) (by decide)) (fun _ _ => ?_)
        refine GL.skipG (tj := 94) rfl rfl rfl (by decide) ?_
        refine GL.skipG (tj := 94) rfl rfl rfl (by decide) ?_
        refine GL.skipG (tj := 94) rfl rfl rfl (by decide) ?_
        refine GL.stepG (tj := 85) rfl rfl (Ex.wp (v := (.bool true)) (Ex.pickT rfl rfl) (by decide)) (fun _ _ => ?_)
        refine GL.val (v := (.bool true)) (Ex.pickT rfl rfl) (by decide) ?_
        refine GL.val (v := (.bool true)) (Ex.assign rfl) (by decide) ?_
        refine GL.nil ?_
        refine GE.thenN ?_
        refine GC.ret ?_
        refine GC.ret1 rfl (Rv.tmp rfl) (fun wN HN => ?_)
        exact HN.ret () trivial rfl (List.nil_sublist _) rfl
      · refine GC.region ?_
        refine GL.val (v := (.int .u32 (Bt.btw a (Bt.lst b c) (Bt.gst b c)))) (Ex.move rfl) (by decide) ?_
        refine GL.val (v := (.int .u32 (Bt.lst b c))) (Ex.move rfl) (by decide) ?_
        refine GL.step (Stp.callR (σ := Unit) (p := fun rz => True) (v := fun rz => (.bool (decide (Bt.key (Bt.btw a (Bt.lst b c) (Bt.gst b c)) < Bt.key (Bt.lst b c))))) (N := fun rz => []) (vs := [(.int .u32 (Bt.btw a (Bt.lst b c) (Bt.gst b c))), (.int .u32 (Bt.lst b c))]) rfl rfl T.own31 (by decide) (fun wc hw => before_p (Bt.btw a (Bt.lst b c) (Bt.gst b c)) (Bt.lst b c) wc (by first | assumption | omega | exact Bt.lst_bd (by assumption) (by assumption) | exact Bt.gst_bd (by assumption) (by assumption) | exact Bt.key_bd (by assumption) | exact Bt.unkey_bd (by assumption) | exact Bt.nxt_bd (by assumption) | exact Bt.lst_bd (Bt.gst_bd (by assumption) (by assumption)) (by assumption) | exact Bt.btw_bd (by assumption) (Bt.lst_bd (by assumption) (by assumption)) (Bt.gst_bd (by assumption) (by assumption))) (by first | assumption | omega | exact Bt.lst_bd (by assumption) (by assumption) | exact Bt.gst_bd (by assumption) (by assumption) | exact Bt.key_bd (by assumption) | exact Bt.unkey_bd (by assumption) | exact Bt.nxt_bd (by assumption) | exact Bt.lst_bd (Bt.gst_bd (by assumption) (by assumption)) (by assumption) | exact Bt.btw_bd (by assumption) (Bt.lst_bd (by assumption) (by assumption)) (Bt.gst_bd (by assumption) (by assumption))))) (fun xq116 hq117 => ?_)
        refine GL.val (v := (.bool true)) (Ex.cast (Ex.not rfl) (congrArg Value.bool (congrArg (fun z => !z) (decide_eq_false (by exact Bt.btw_lo (Bt.lo_hi _ _)))))) (by decide) ?_
        refine GL.val (v := (.bool true)) (Ex.move rfl) (by decide) ?_
        refine GL.stepG (tj := 79) rfl rfl (Ex.wp (v := (.int .u32 (Bt.gst b c))) (Ex.move rfl) (by decide)) (fun _ _ => ?_)
        refine GL.stepG (tj := 79) rfl rfl (Ex.wp (v := (.int .u32 (Bt.btw a (Bt.lst b c) (Bt.gst b c)))) (Ex.move rfl) (by decide)) (fun _ _ => ?_)
        refine GL.stepG (tj := 79) rfl rfl (Stp.callR (σ := Unit) (p := fun rz => True) (v := fun rz => (.bool (decide (Bt.key (Bt.gst b c) < Bt.key (Bt.btw a (Bt.lst b c) (Bt.gst b c)))))) (N := fun rz => []) (vs := [(.int .u32 (Bt.gst b c)), (.int .u32 (Bt.btw a (Bt.lst b c) (Bt.gst b c)))]) rfl rfl T.own31 (by decide) (fun wc hw => before_p (Bt.gst b c) (Bt.btw a (Bt.lst b c) (Bt.gst b c)) wc (by first | assumption | omega | exact Bt.lst_bd (by assumption) (by assumption) | exact Bt.gst_bd (by assumption) (by assumption) | exact Bt.key_bd (by assumption) | exact Bt.unkey_bd (by assumption) | exact Bt.nxt_bd (by assumption) | exact Bt.lst_bd (Bt.gst_bd (by assumption) (by assumption)) (by assumption) | exact Bt.btw_bd (by assumption) (Bt.lst_bd (by assumption) (by assumption)) (Bt.gst_bd (by assumption) (by assumption))) (by first | assumption | omega | exact Bt.lst_bd (by assumption) (by assumption) | exact Bt.gst_bd (by assumption) (by assumption) | exact Bt.key_bd (by assumption) | exact Bt.unkey_bd (by assumption) | exact Bt.nxt_bd (by assumption) | exact Bt.lst_bd (Bt.gst_bd (by assumption) (by assumption)) (by assumption) | exact Bt.btw_bd (by assumption) (Bt.lst_bd (by assumption) (by assumption)) (Bt.gst_bd (by assumption) (by assumption))))) (fun xq118 hq119 => ?_)
        refine GL.stepG (tj := 79) rfl rfl (Ex.wp (v := (.bool true)) (Ex.cast (Ex.not rfl) (congrArg Value.bool (congrArg (fun z => !z) (decide_eq_false (by exact Bt.btw_hi))))) (by decide)) (fun _ _ => ?_)
        refine GL.val (v := (.bool true)) (Ex.pickT rfl rfl) (by decide) ?_
        refine GL.val (v := (.bool true)) (Ex.move rfl) (by decide) ?_
        refine GL.stepG (tj := 85) rfl rfl (Ex.wp (v := (.int .u32 (Bt.btw a (Bt.lst b c) (Bt.gst b c)))) (Ex.move rfl) (by decide)) (fun _ _ => ?_)
        refine GL.stepG (tj := 85) rfl rfl (Ex.wp (v := (.int .u32 a)) (Ex.move rfl) (by decide)) (fun _ _ => ?_)
        refine GL.stepG (tj := 85) rfl rfl (Ex.wp (v := (.bool false)) (Ex.cast (Ex.eql rfl rfl) (congrArg Value.bool (decide_eq_false (by exact Bt.btw_ne (Bt.lo_hi _ _) (by first | exact Or.inl (by assumption) | exact Or.inr (by assumption)))))) (by decide)) (fun _ _ => ?_)
        refine GL.stepG (tj := 85) rfl rfl (Ex.wp (v := (.bool false)) (Ex.move rfl) (by decide)) (fun _ _ => ?_)
        refine GL.stepG (tj := 89) rfl rfl (Ex.wp (v := (.int .u32 a)) (Ex.move rfl) (by decide)) (fun _ _ => ?_)
        refine GL.stepG (tj := 89) rfl rfl (Ex.wp (v := (.int .u32 (Bt.lst b c))) (Ex.move rfl) (by decide)) (fun _ _ => ?_)
        refine GL.stepG (tj := 89) rfl rfl (Stp.callR (σ := Unit) (p := fun rz => True) (v := fun rz => (.bool (decide (Bt.key a < Bt.key (Bt.lst b c))))) (N := fun rz => []) (vs := [(.int .u32 a), (.int .u32 (Bt.lst b c))]) rfl rfl T.own31 (by decide) (fun wc hw => before_p a (Bt.lst b c) wc (by first | assumption | omega | exact Bt.lst_bd (by assumption) (by assumption) | exact Bt.gst_bd (by assumption) (by assumption) | exact Bt.key_bd (by assumption) | exact Bt.unkey_bd (by assumption) | exact Bt.nxt_bd (by assumption) | exact Bt.lst_bd (Bt.gst_bd (by assumption) (by assumption)) (by assumption) | exact Bt.btw_bd (by assumption) (Bt.lst_bd (by assumption) (by assumption)) (Bt.gst_bd (by assumption) (by assumption))) (by first | assumption | omega | exact Bt.lst_bd (by assumption) (by assumption) | exact Bt.gst_bd (by assumption) (by assumption) | exact Bt.key_bd (by assumption) | exact Bt.unkey_bd (by assumption) | exact Bt.nxt_bd (by assumption) | exact Bt.lst_bd (Bt.gst_bd (by assumption) (by assumption)) (by assumption) | exact Bt.btw_bd (by assumption) (Bt.lst_bd (by assumption) (by assumption)) (Bt.gst_bd (by assumption) (by assumption))))) (fun xq120 hq121 => ?_)
        refine GL.stepG (tj := 85) rfl rfl (Ex.wp (v := (.bool (decide (Bt.key a < Bt.key (Bt.lst b c))))) (Ex.pickF rfl rfl) (by decide)) (fun _ _ => ?_)
        refine GL.stepG (tj := 85) rfl rfl (Ex.wp (v := (.bool true)) (Ex.cast (Ex.move rfl) (congrArg Value.bool (decide_eq_true (by assumption)))) (by decide)) (fun _ _ => ?_)
        refine GL.skipG (tj := 94) rfl rfl rfl (by decide) ?_
        refine GL.skipG (tj := 94) rfl rfl rfl (by decide) ?_
        refine GL.skipG (tj := 94) rfl rfl rfl (by decide) ?_
        refine GL.stepG (tj := 85) rfl rfl (Ex.wp (v := (.bool true)) (Ex.pickT rfl rfl) (by decide)) (fun _ _ => ?_)
        refine GL.val (v := (.bool true)) (Ex.pickT rfl rfl) (by decide) ?_
        refine GL.val (v := (.bool true)) (Ex.assign rfl) (by decide) ?_
        refine GL.nil ?_
        refine GE.thenN ?_
        refine GC.ret ?_
        refine GC.ret1 rfl (Rv.tmp rfl) (fun wN HN => ?_)
        exact HN.ret () trivial rfl (List.nil_sublist _) rfl
    · by_cases s2 : Bt.key (Bt.gst b c) < Bt.key a
      · refine GC.region ?_
        refine GL.val (v := (.int .u32 (Bt.btw a (Bt.lst b c) (Bt.gst b c)))) (Ex.move rfl) (by decide) ?_
        refine GL.val (v := (.int .u32 (Bt.lst b c))) (Ex.move rfl) (by decide) ?_
        refine GL.step (Stp.callR (σ := Unit) (p := fun rz => True) (v := fun rz => (.bool (decide (Bt.key (Bt.btw a (Bt.lst b c) (Bt.gst b c)) < Bt.key (Bt.lst b c))))) (N := fun rz => []) (vs := [(.int .u32 (Bt.btw a (Bt.lst b c) (Bt.gst b c))), (.int .u32 (Bt.lst b c))]) rfl rfl T.own31 (by decide) (fun wc hw => before_p (Bt.btw a (Bt.lst b c) (Bt.gst b c)) (Bt.lst b c) wc (by first | assumption | omega | exact Bt.lst_bd (by assumption) (by assumption) | exact Bt.gst_bd (by assumption) (by assumption) | exact Bt.key_bd (by assumption) | exact Bt.unkey_bd (by assumption) | exact Bt.nxt_bd (by assumption) | exact Bt.lst_bd (Bt.gst_bd (by assumption) (by assumption)) (by assumption) | exact Bt.btw_bd (by assumption) (Bt.lst_bd (by assumption) (by assumption)) (Bt.gst_bd (by assumption) (by assumption))) (by first | assumption | omega | exact Bt.lst_bd (by assumption) (by assumption) | exact Bt.gst_bd (by assumption) (by assumption) | exact Bt.key_bd (by assumption) | exact Bt.unkey_bd (by assumption) | exact Bt.nxt_bd (by assumption) | exact Bt.lst_bd (Bt.gst_bd (by assumption) (by assumption)) (by assumption) | exact Bt.btw_bd (by assumption) (Bt.lst_bd (by assumption) (by assumption)) (Bt.gst_bd (by assumption) (by assumption))))) (fun xq122 hq123 => ?_)
        refine GL.val (v := (.bool true)) (Ex.cast (Ex.not rfl) (congrArg Value.bool (congrArg (fun z => !z) (decide_eq_false (by exact Bt.btw_lo (Bt.lo_hi _ _)))))) (by decide) ?_
        refine GL.val (v := (.bool true)) (Ex.move rfl) (by decide) ?_
        refine GL.stepG (tj := 79) rfl rfl (Ex.wp (v := (.int .u32 (Bt.gst b c))) (Ex.move rfl) (by decide)) (fun _ _ => ?_)
        refine GL.stepG (tj := 79) rfl rfl (Ex.wp (v := (.int .u32 (Bt.btw a (Bt.lst b c) (Bt.gst b c)))) (Ex.move rfl) (by decide)) (fun _ _ => ?_)
        refine GL.stepG (tj := 79) rfl rfl (Stp.callR (σ := Unit) (p := fun rz => True) (v := fun rz => (.bool (decide (Bt.key (Bt.gst b c) < Bt.key (Bt.btw a (Bt.lst b c) (Bt.gst b c)))))) (N := fun rz => []) (vs := [(.int .u32 (Bt.gst b c)), (.int .u32 (Bt.btw a (Bt.lst b c) (Bt.gst b c)))]) rfl rfl T.own31 (by decide) (fun wc hw => before_p (Bt.gst b c) (Bt.btw a (Bt.lst b c) (Bt.gst b c)) wc (by first | assumption | omega | exact Bt.lst_bd (by assumption) (by assumption) | exact Bt.gst_bd (by assumption) (by assumption) | exact Bt.key_bd (by assumption) | exact Bt.unkey_bd (by assumption) | exact Bt.nxt_bd (by assumption) | exact Bt.lst_bd (Bt.gst_bd (by assumption) (by assumption)) (by assumption) | exact Bt.btw_bd (by assumption) (Bt.lst_bd (by assumption) (by assumption)) (Bt.gst_bd (by assumption) (by assumption))) (by first | assumption | omega | exact Bt.lst_bd (by assumption) (by assumption) | exact Bt.gst_bd (by assumption) (by assumption) | exact Bt.key_bd (by assumption) | exact Bt.unkey_bd (by assumption) | exact Bt.nxt_bd (by assumption) | exact Bt.lst_bd (Bt.gst_bd (by assumption) (by assumption)) (by assumption) | exact Bt.btw_bd (by assumption) (Bt.lst_bd (by assumption) (by assumption)) (Bt.gst_bd (by assumption) (by assumption))))) (fun xq124 hq125 => ?_)
        refine GL.stepG (tj := 79) rfl rfl (Ex.wp (v := (.bool true)) (Ex.cast (Ex.not rfl) (congrArg Value.bool (congrArg (fun z => !z) (decide_eq_false (by exact Bt.btw_hi))))) (by decide)) (fun _ _ => ?_)
        refine GL.val (v := (.bool true)) (Ex.pickT rfl rfl) (by decide) ?_
        refine GL.val (v := (.bool true)) (Ex.move rfl) (by decide) ?_
        refine GL.stepG (tj := 85) rfl rfl (Ex.wp (v := (.int .u32 (Bt.btw a (Bt.lst b c) (Bt.gst b c)))) (Ex.move rfl) (by decide)) (fun _ _ => ?_)
        refine GL.stepG (tj := 85) rfl rfl (Ex.wp (v := (.int .u32 a)) (Ex.move rfl) (by decide)) (fun _ _ => ?_)
        refine GL.stepG (tj := 85) rfl rfl (Ex.wp (v := (.bool false)) (Ex.cast (Ex.eql rfl rfl) (congrArg Value.bool (decide_eq_false (by exact Bt.btw_ne (Bt.lo_hi _ _) (by first | exact Or.inl (by assumption) | exact Or.inr (by assumption)))))) (by decide)) (fun _ _ => ?_)
        refine GL.stepG (tj := 85) rfl rfl (Ex.wp (v := (.bool false)) (Ex.move rfl) (by decide)) (fun _ _ => ?_)
        refine GL.stepG (tj := 89) rfl rfl (Ex.wp (v := (.int .u32 a)) (Ex.move rfl) (by decide)) (fun _ _ => ?_)
        refine GL.stepG (tj := 89) rfl rfl (Ex.wp (v := (.int .u32 (Bt.lst b c))) (Ex.move rfl) (by decide)) (fun _ _ => ?_)
        refine GL.stepG (tj := 89) rfl rfl (Stp.callR (σ := Unit) (p := fun rz => True) (v := fun rz => (.bool (decide (Bt.key a < Bt.key (Bt.lst b c))))) (N := fun rz => []) (vs := [(.int .u32 a), (.int .u32 (Bt.lst b c))]) rfl rfl T.own31 (by decide) (fun wc hw => before_p a (Bt.lst b c) wc (by first | assumption | omega | exact Bt.lst_bd (by assumption) (by assumption) | exact Bt.gst_bd (by assumption) (by assumption) | exact Bt.key_bd (by assumption) | exact Bt.unkey_bd (by assumption) | exact Bt.nxt_bd (by assumption) | exact Bt.lst_bd (Bt.gst_bd (by assumption) (by assumption)) (by assumption) | exact Bt.btw_bd (by assumption) (Bt.lst_bd (by assumption) (by assumption)) (Bt.gst_bd (by assumption) (by assumption))) (by first | assumption | omega | exact Bt.lst_bd (by assumption) (by assumption) | exact Bt.gst_bd (by assumption) (by assumption) | exact Bt.key_bd (by assumption) | exact Bt.unkey_bd (by assumption) | exact Bt.nxt_bd (by assumption) | exact Bt.lst_bd (Bt.gst_bd (by assumption) (by assumption)) (by assumption) | exact Bt.btw_bd (by assumption) (Bt.lst_bd (by assumption) (by assumption)) (Bt.gst_bd (by assumption) (by assumption))))) (fun xq126 hq127 => ?_)
        refine GL.stepG (tj := 85) rfl rfl (Ex.wp (v := (.bool (decide (Bt.key a < Bt.key (Bt.lst b c))))) (Ex.pickF rfl rfl) (by decide)) (fun _ _ => ?_)
        refine GL.stepG (tj := 85) rfl rfl (Ex.wp (v := (.bool false)) (Ex.cast (Ex.move rfl) (congrArg Value.bool (decide_eq_false (by assumption)))) (by decide)) (fun _ _ => ?_)
        refine GL.stepG (tj := 94) rfl rfl (Ex.wp (v := (.int .u32 (Bt.gst b c))) (Ex.move rfl) (by decide)) (fun _ _ => ?_)
        refine GL.stepG (tj := 94) rfl rfl (Ex.wp (v := (.int .u32 a)) (Ex.move rfl) (by decide)) (fun _ _ => ?_)
        refine GL.stepG (tj := 94) rfl rfl (Stp.callR (σ := Unit) (p := fun rz => True) (v := fun rz => (.bool (decide (Bt.key (Bt.gst b c) < Bt.key a)))) (N := fun rz => []) (vs := [(.int .u32 (Bt.gst b c)), (.int .u32 a)]) rfl rfl T.own31 (by decide) (fun wc hw => before_p (Bt.gst b c) a wc (by first | assumption | omega | exact Bt.lst_bd (by assumption) (by assumption) | exact Bt.gst_bd (by assumption) (by assumption) | exact Bt.key_bd (by assumption) | exact Bt.unkey_bd (by assumption) | exact Bt.nxt_bd (by assumption) | exact Bt.lst_bd (Bt.gst_bd (by assumption) (by assumption)) (by assumption) | exact Bt.btw_bd (by assumption) (Bt.lst_bd (by assumption) (by assumption)) (Bt.gst_bd (by assumption) (by assumption))) (by first | assumption | omega | exact Bt.lst_bd (by assumption) (by assumption) | exact Bt.gst_bd (by assumption) (by assumption) | exact Bt.key_bd (by assumption) | exact Bt.unkey_bd (by assumption) | exact Bt.nxt_bd (by assumption) | exact Bt.lst_bd (Bt.gst_bd (by assumption) (by assumption)) (by assumption) | exact Bt.btw_bd (by assumption) (Bt.lst_bd (by assumption) (by assumption)) (Bt.gst_bd (by assumption) (by assumption))))) (fun xq128 hq129 => ?_)
        refine GL.stepG (tj := 85) rfl rfl (Ex.wp (v := (.bool (decide (Bt.key (Bt.gst b c) < Bt.key a)))) (Ex.pickF rfl rfl) (by decide)) (fun _ _ => ?_)
        refine GL.val (v := (.bool (decide (Bt.key (Bt.gst b c) < Bt.key a)))) (Ex.pickT rfl rfl) (by decide) ?_
        refine GL.val (v := (.bool (decide (Bt.key (Bt.gst b c) < Bt.key a)))) (Ex.assign rfl) (by decide) ?_
        refine GL.nil ?_
        refine GE.thenN ?_
        refine GC.ret ?_
        refine GC.ret1 rfl (Rv.tmp rfl) (fun wN HN => ?_)
        exact HN.ret () trivial (congrArg Value.bool (by first | (exfalso; omega) | simp_all)) (List.nil_sublist _) rfl
      · refine GC.region ?_
        refine GL.val (v := (.int .u32 (Bt.btw a (Bt.lst b c) (Bt.gst b c)))) (Ex.move rfl) (by decide) ?_
        refine GL.val (v := (.int .u32 (Bt.lst b c))) (Ex.move rfl) (by decide) ?_
        refine GL.step (Stp.callR (σ := Unit) (p := fun rz => True) (v := fun rz => (.bool (decide (Bt.key (Bt.btw a (Bt.lst b c) (Bt.gst b c)) < Bt.key (Bt.lst b c))))) (N := fun rz => []) (vs := [(.int .u32 (Bt.btw a (Bt.lst b c) (Bt.gst b c))), (.int .u32 (Bt.lst b c))]) rfl rfl T.own31 (by decide) (fun wc hw => before_p (Bt.btw a (Bt.lst b c) (Bt.gst b c)) (Bt.lst b c) wc (by first | assumption | omega | exact Bt.lst_bd (by assumption) (by assumption) | exact Bt.gst_bd (by assumption) (by assumption) | exact Bt.key_bd (by assumption) | exact Bt.unkey_bd (by assumption) | exact Bt.nxt_bd (by assumption) | exact Bt.lst_bd (Bt.gst_bd (by assumption) (by assumption)) (by assumption) | exact Bt.btw_bd (by assumption) (Bt.lst_bd (by assumption) (by assumption)) (Bt.gst_bd (by assumption) (by assumption))) (by first | assumption | omega | exact Bt.lst_bd (by assumption) (by assumption) | exact Bt.gst_bd (by assumption) (by assumption) | exact Bt.key_bd (by assumption) | exact Bt.unkey_bd (by assumption) | exact Bt.nxt_bd (by assumption) | exact Bt.lst_bd (Bt.gst_bd (by assumption) (by assumption)) (by assumption) | exact Bt.btw_bd (by assumption) (Bt.lst_bd (by assumption) (by assumption)) (Bt.gst_bd (by assumption) (by assumption))))) (fun xq130 hq131 => ?_)
        refine GL.val (v := (.bool true)) (Ex.cast (Ex.not rfl) (congrArg Value.bool (congrArg (fun z => !z) (decide_eq_false (by exact Bt.btw_lo (Bt.lo_hi _ _)))))) (by decide) ?_
        refine GL.val (v := (.bool true)) (Ex.move rfl) (by decide) ?_
        refine GL.stepG (tj := 79) rfl rfl (Ex.wp (v := (.int .u32 (Bt.gst b c))) (Ex.move rfl) (by decide)) (fun _ _ => ?_)
        refine GL.stepG (tj := 79) rfl rfl (Ex.wp (v := (.int .u32 (Bt.btw a (Bt.lst b c) (Bt.gst b c)))) (Ex.move rfl) (by decide)) (fun _ _ => ?_)
        refine GL.stepG (tj := 79) rfl rfl (Stp.callR (σ := Unit) (p := fun rz => True) (v := fun rz => (.bool (decide (Bt.key (Bt.gst b c) < Bt.key (Bt.btw a (Bt.lst b c) (Bt.gst b c)))))) (N := fun rz => []) (vs := [(.int .u32 (Bt.gst b c)), (.int .u32 (Bt.btw a (Bt.lst b c) (Bt.gst b c)))]) rfl rfl T.own31 (by decide) (fun wc hw => before_p (Bt.gst b c) (Bt.btw a (Bt.lst b c) (Bt.gst b c)) wc (by first | assumption | omega | exact Bt.lst_bd (by assumption) (by assumption) | exact Bt.gst_bd (by assumption) (by assumption) | exact Bt.key_bd (by assumption) | exact Bt.unkey_bd (by assumption) | exact Bt.nxt_bd (by assumption) | exact Bt.lst_bd (Bt.gst_bd (by assumption) (by assumption)) (by assumption) | exact Bt.btw_bd (by assumption) (Bt.lst_bd (by assumption) (by assumption)) (Bt.gst_bd (by assumption) (by assumption))) (by first | assumption | omega | exact Bt.lst_bd (by assumption) (by assumption) | exact Bt.gst_bd (by assumption) (by assumption) | exact Bt.key_bd (by assumption) | exact Bt.unkey_bd (by assumption) | exact Bt.nxt_bd (by assumption) | exact Bt.lst_bd (Bt.gst_bd (by assumption) (by assumption)) (by assumption) | exact Bt.btw_bd (by assumption) (Bt.lst_bd (by assumption) (by assumption)) (Bt.gst_bd (by assumption) (by assumption))))) (fun xq132 hq133 => ?_)
        refine GL.stepG (tj := 79) rfl rfl (Ex.wp (v := (.bool true)) (Ex.cast (Ex.not rfl) (congrArg Value.bool (congrArg (fun z => !z) (decide_eq_false (by exact Bt.btw_hi))))) (by decide)) (fun _ _ => ?_)
        refine GL.val (v := (.bool true)) (Ex.pickT rfl rfl) (by decide) ?_
        refine GL.val (v := (.bool true)) (Ex.move rfl) (by decide) ?_
        refine GL.stepG (tj := 85) rfl rfl (Ex.wp (v := (.int .u32 (Bt.btw a (Bt.lst b c) (Bt.gst b c)))) (Ex.move rfl) (by decide)) (fun _ _ => ?_)
        refine GL.stepG (tj := 85) rfl rfl (Ex.wp (v := (.int .u32 a)) (Ex.move rfl) (by decide)) (fun _ _ => ?_)
        refine GL.stepG (tj := 85) rfl rfl (Ex.wp (v := (.bool true)) (Ex.cast (Ex.eql rfl rfl) (congrArg Value.bool (decide_eq_true (by exact Bt.btw_is ha (Bt.lst_bd hb hc) (Bt.gst_bd hb hc) (by assumption) (by assumption))))) (by decide)) (fun _ _ => ?_)
        refine GL.stepG (tj := 85) rfl rfl (Ex.wp (v := (.bool true)) (Ex.move rfl) (by decide)) (fun _ _ => ?_)
        refine GL.skipG (tj := 89) rfl rfl rfl (by decide) ?_
        refine GL.skipG (tj := 89) rfl rfl rfl (by decide) ?_
        refine GL.skipG (tj := 89) rfl rfl rfl (by decide) ?_
        refine GL.stepG (tj := 85) rfl rfl (Ex.wp (v := (.bool true)) (Ex.pickT rfl rfl) (by decide)) (fun _ _ => ?_)
        refine GL.stepG (tj := 85) rfl rfl (Ex.wp (v := (.bool true)) (Ex.move rfl) (by decide)) (fun _ _ => ?_)
        refine GL.skipG (tj := 94) rfl rfl rfl (by decide) ?_
        refine GL.skipG (tj := 94) rfl rfl rfl (by decide) ?_
        refine GL.skipG (tj := 94) rfl rfl rfl (by decide) ?_
        refine GL.stepG (tj := 85) rfl rfl (Ex.wp (v := (.bool true)) (Ex.pickT rfl rfl) (by decide)) (fun _ _ => ?_)
        refine GL.val (v := (.bool true)) (Ex.pickT rfl rfl) (by decide) ?_
        refine GL.val (v := (.bool true)) (Ex.assign rfl) (by decide) ?_
        refine GL.nil ?_
        refine GE.thenN ?_
        refine GC.ret ?_
        refine GC.ret1 rfl (Rv.tmp rfl) (fun wN HN => ?_)
        exact HN.ret () trivial rfl (List.nil_sublist _) rfl

end Go.Proofs.Ytnpmfinjommjkaa.B
