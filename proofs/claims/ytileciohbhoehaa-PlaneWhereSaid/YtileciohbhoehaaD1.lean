/- Plane's laws on planes, walked. -/
import Derived.Test.YtileciohbhoehaaC3
import Derived.Test.YtileciohbhoehaaOw
namespace Go.Proofs.Ytileciohbhoehaa.C
open Go Go.RowKit Sx
set_option linter.unusedVariables false
set_option maxRecDepth 100000 in
set_option maxHeartbeats 1000000 in
theorem ref_size (pw ph : Int) (w : World) :
    Calls Try.prog 47 #[(.int .i64 pw), (.int .i64 ph)] w (Ret w (fun _ : Unit => True) (fun _ => .bool (sizeB pw ph)) (fun _ => [])) := by
  refine enter (M := None) (L := []) (n := 25) (l := [(0, (.int .i64 pw)), (1, (.int .i64 ph))]) Try.func47 rfl rfl (Args.cons rfl (Args.cons rfl (Args.nil _))) (Hp.start _ _) ?_
  refine GC.seq ?_
  refine GC.region ?_
  refine GL.val (v := (.bool false)) (Ex.assign rfl) (by decide) ?_
  refine GL.nil ?_
  refine GE.thenN ?_
  refine GC.seq ?_
  refine GC.region ?_
  refine GL.val (v := (.int .i64 pw)) (Ex.move rfl) (by decide) ?_
  by_cases hq1 : 1 ≤ pw
  · refine GL.val (v := (.bool true)) (Ex.cast (Ex.geq rfl rfl) (congrArg Value.bool (decide_eq_true hq1))) (by decide) ?_
    refine GL.val (v := (.bool true)) (Ex.move rfl) (by decide) ?_
    refine GL.stepG (tj := 7) rfl rfl (Ex.wp (v := (.int .i64 pw)) (Ex.move rfl) (by decide)) (fun _ _ => ?_)
    by_cases hq2 : pw ≤ 1024
    · refine GL.stepG (tj := 7) rfl rfl (Ex.wp (v := (.bool true)) (Ex.cast (Ex.leq rfl rfl) (congrArg Value.bool (decide_eq_true hq2))) (by decide)) (fun _ _ => ?_)
      refine GL.val (v := (.bool true)) (Ex.pickT rfl rfl) (by decide) ?_
      refine GL.val (v := (.bool true)) (Ex.move rfl) (by decide) ?_
      refine GL.stepG (tj := 11) rfl rfl (Ex.wp (v := (.int .i64 ph)) (Ex.move rfl) (by decide)) (fun _ _ => ?_)
      by_cases hq3 : 1 ≤ ph
      · refine GL.stepG (tj := 11) rfl rfl (Ex.wp (v := (.bool true)) (Ex.cast (Ex.geq rfl rfl) (congrArg Value.bool (decide_eq_true hq3))) (by decide)) (fun _ _ => ?_)
        refine GL.val (v := (.bool true)) (Ex.pickT rfl rfl) (by decide) ?_
        refine GL.val (v := (.bool true)) (Ex.move rfl) (by decide) ?_
        refine GL.stepG (tj := 15) rfl rfl (Ex.wp (v := (.int .i64 ph)) (Ex.move rfl) (by decide)) (fun _ _ => ?_)
        by_cases hq4 : ph ≤ 1024
        · have hm := mul_bd (w := pw) (h := ph) (by omega) (by omega) (by omega) (by omega)
          refine GL.stepG (tj := 15) rfl rfl (Ex.wp (v := (.bool true)) (Ex.cast (Ex.leq rfl rfl) (congrArg Value.bool (decide_eq_true hq4))) (by decide)) (fun _ _ => ?_)
          refine GL.val (v := (.bool true)) (Ex.pickT rfl rfl) (by decide) ?_
          refine GL.val (v := (.bool true)) (Ex.move rfl) (by decide) ?_
          refine GL.stepG (tj := 19) rfl rfl (Ex.wp (v := (.int .i64 pw)) (Ex.move rfl) (by decide)) (fun _ _ => ?_)
          refine GL.stepG (tj := 19) rfl rfl (Ex.wp (v := (.int .i64 ph)) (Ex.move rfl) (by decide)) (fun _ _ => ?_)
          refine GL.stepG (tj := 19) rfl rfl (Ex.wp (v := (.int .i64 (pw * ph))) (Ex.mul rfl rfl (Z := pw * ph) (w64 (by omega))) (by decide)) (fun _ _ => ?_)
          refine GL.stepG (tj := 19) rfl rfl (Ex.wp (v := (.bool (decide ((pw * ph) ≤ 65536)))) (Ex.leq rfl rfl) (by decide)) (fun _ _ => ?_)
          refine GL.val (v := (.bool (decide ((pw * ph) ≤ 65536)))) (Ex.pickT rfl rfl) (by decide) ?_
          refine GL.val (v := (.bool (decide ((pw * ph) ≤ 65536)))) (Ex.assign rfl) (by decide) ?_
          refine GL.nil ?_
          refine GE.thenN ?_
          refine GC.ret ?_
          refine GC.ret1 rfl (Rv.tmp rfl) (fun wN HN => ?_)
          exact HN.ret () trivial (by simp only [sizeB]; congr 1; apply decide_eq_decide.2; omega) (List.nil_sublist _) rfl
        · refine GL.stepG (tj := 15) rfl rfl (Ex.wp (v := (.bool false)) (Ex.cast (Ex.leq rfl rfl) (congrArg Value.bool (decide_eq_false hq4))) (by decide)) (fun _ _ => ?_)
          refine GL.val (v := (.bool false)) (Ex.pickT rfl rfl) (by decide) ?_
          refine GL.val (v := (.bool false)) (Ex.move rfl) (by decide) ?_
          refine GL.skipG (tj := 19) rfl rfl rfl (by decide) ?_
          refine GL.skipG (tj := 19) rfl rfl rfl (by decide) ?_
          refine GL.skipG (tj := 19) rfl rfl rfl (by decide) ?_
          refine GL.skipG (tj := 19) rfl rfl rfl (by decide) ?_
          refine GL.val (v := (.bool false)) (Ex.pickF rfl rfl) (by decide) ?_
          refine GL.val (v := (.bool false)) (Ex.assign rfl) (by decide) ?_
          refine GL.nil ?_
          refine GE.thenN ?_
          refine GC.ret ?_
          refine GC.ret1 rfl (Rv.tmp rfl) (fun wN HN => ?_)
          exact HN.ret () trivial (by simp only [sizeB]; rw [decide_eq_false (by omega)]) (List.nil_sublist _) rfl
      · refine GL.stepG (tj := 11) rfl rfl (Ex.wp (v := (.bool false)) (Ex.cast (Ex.geq rfl rfl) (congrArg Value.bool (decide_eq_false hq3))) (by decide)) (fun _ _ => ?_)
        refine GL.val (v := (.bool false)) (Ex.pickT rfl rfl) (by decide) ?_
        refine GL.val (v := (.bool false)) (Ex.move rfl) (by decide) ?_
        refine GL.skipG (tj := 15) rfl rfl rfl (by decide) ?_
        refine GL.skipG (tj := 15) rfl rfl rfl (by decide) ?_
        refine GL.val (v := (.bool false)) (Ex.pickF rfl rfl) (by decide) ?_
        refine GL.val (v := (.bool false)) (Ex.move rfl) (by decide) ?_
        refine GL.skipG (tj := 19) rfl rfl rfl (by decide) ?_
        refine GL.skipG (tj := 19) rfl rfl rfl (by decide) ?_
        refine GL.skipG (tj := 19) rfl rfl rfl (by decide) ?_
        refine GL.skipG (tj := 19) rfl rfl rfl (by decide) ?_
        refine GL.val (v := (.bool false)) (Ex.pickF rfl rfl) (by decide) ?_
        refine GL.val (v := (.bool false)) (Ex.assign rfl) (by decide) ?_
        refine GL.nil ?_
        refine GE.thenN ?_
        refine GC.ret ?_
        refine GC.ret1 rfl (Rv.tmp rfl) (fun wN HN => ?_)
        exact HN.ret () trivial (by simp only [sizeB]; rw [decide_eq_false (by omega)]) (List.nil_sublist _) rfl
    · refine GL.stepG (tj := 7) rfl rfl (Ex.wp (v := (.bool false)) (Ex.cast (Ex.leq rfl rfl) (congrArg Value.bool (decide_eq_false hq2))) (by decide)) (fun _ _ => ?_)
      refine GL.val (v := (.bool false)) (Ex.pickT rfl rfl) (by decide) ?_
      refine GL.val (v := (.bool false)) (Ex.move rfl) (by decide) ?_
      refine GL.skipG (tj := 11) rfl rfl rfl (by decide) ?_
      refine GL.skipG (tj := 11) rfl rfl rfl (by decide) ?_
      refine GL.val (v := (.bool false)) (Ex.pickF rfl rfl) (by decide) ?_
      refine GL.val (v := (.bool false)) (Ex.move rfl) (by decide) ?_
      refine GL.skipG (tj := 15) rfl rfl rfl (by decide) ?_
      refine GL.skipG (tj := 15) rfl rfl rfl (by decide) ?_
      refine GL.val (v := (.bool false)) (Ex.pickF rfl rfl) (by decide) ?_
      refine GL.val (v := (.bool false)) (Ex.move rfl) (by decide) ?_
      refine GL.skipG (tj := 19) rfl rfl rfl (by decide) ?_
      refine GL.skipG (tj := 19) rfl rfl rfl (by decide) ?_
      refine GL.skipG (tj := 19) rfl rfl rfl (by decide) ?_
      refine GL.skipG (tj := 19) rfl rfl rfl (by decide) ?_
      refine GL.val (v := (.bool false)) (Ex.pickF rfl rfl) (by decide) ?_
      refine GL.val (v := (.bool false)) (Ex.assign rfl) (by decide) ?_
      refine GL.nil ?_
      refine GE.thenN ?_
      refine GC.ret ?_
      refine GC.ret1 rfl (Rv.tmp rfl) (fun wN HN => ?_)
      exact HN.ret () trivial (by simp only [sizeB]; rw [decide_eq_false (by omega)]) (List.nil_sublist _) rfl
  · refine GL.val (v := (.bool false)) (Ex.cast (Ex.geq rfl rfl) (congrArg Value.bool (decide_eq_false hq1))) (by decide) ?_
    refine GL.val (v := (.bool false)) (Ex.move rfl) (by decide) ?_
    refine GL.skipG (tj := 7) rfl rfl rfl (by decide) ?_
    refine GL.skipG (tj := 7) rfl rfl rfl (by decide) ?_
    refine GL.val (v := (.bool false)) (Ex.pickF rfl rfl) (by decide) ?_
    refine GL.val (v := (.bool false)) (Ex.move rfl) (by decide) ?_
    refine GL.skipG (tj := 11) rfl rfl rfl (by decide) ?_
    refine GL.skipG (tj := 11) rfl rfl rfl (by decide) ?_
    refine GL.val (v := (.bool false)) (Ex.pickF rfl rfl) (by decide) ?_
    refine GL.val (v := (.bool false)) (Ex.move rfl) (by decide) ?_
    refine GL.skipG (tj := 15) rfl rfl rfl (by decide) ?_
    refine GL.skipG (tj := 15) rfl rfl rfl (by decide) ?_
    refine GL.val (v := (.bool false)) (Ex.pickF rfl rfl) (by decide) ?_
    refine GL.val (v := (.bool false)) (Ex.move rfl) (by decide) ?_
    refine GL.skipG (tj := 19) rfl rfl rfl (by decide) ?_
    refine GL.skipG (tj := 19) rfl rfl rfl (by decide) ?_
    refine GL.skipG (tj := 19) rfl rfl rfl (by decide) ?_
    refine GL.skipG (tj := 19) rfl rfl rfl (by decide) ?_
    refine GL.val (v := (.bool false)) (Ex.pickF rfl rfl) (by decide) ?_
    refine GL.val (v := (.bool false)) (Ex.assign rfl) (by decide) ?_
    refine GL.nil ?_
    refine GE.thenN ?_
    refine GC.ret ?_
    refine GC.ret1 rfl (Rv.tmp rfl) (fun wN HN => ?_)
    exact HN.ret () trivial (by simp only [sizeB]; rw [decide_eq_false (by omega)]) (List.nil_sublist _) rfl

set_option maxRecDepth 100000 in
set_option maxHeartbeats 1000000 in
theorem ref_check (W H : Int) (ad : Option Addr) (n cap : Nat) (w : World) :
    Calls Try.prog 35 #[(.agg #[(.int .i64 W), (.int .i64 H), (.slice ad n cap)])] w (Ret w (fun _ : Unit => True) (fun _ => .int .i64 (chk W H n)) (fun _ => [])) := by
  refine enter (M := None) (L := []) (n := 18) (l := [(0, (.agg #[(.int .i64 W), (.int .i64 H), (.slice ad n cap)]))]) Try.func35 rfl rfl (Args.cons rfl (Args.nil _)) (Hp.start _ _) ?_
  refine GC.seq ?_
  refine GC.region ?_
  refine GL.step (Stp.box (cs := [(.int .i64 W), (.int .i64 H), (.slice ad n cap)]) rfl rfl (by decide)) (fun bq1 _ => ?_)
  refine GL.val (v := (.int .i64 0)) (Ex.assign rfl) (by decide) ?_
  refine GL.nil ?_
  refine GE.thenN ?_
  refine GC.seq ?_
  refine GC.seq ?_
  refine GC.region ?_
  refine GL.val (v := (.pointer (some ⟨bq1, 0, none⟩))) (Ex.cast (Ex.fieldAddr rfl Try.underlying32 rfl T.sz3 (by decide)) rfl) (by decide) ?_
  refine GL.val (v := (.int .i64 W)) (Ex.load rfl T.ag3 (i := 0) rfl rfl) (by decide) ?_
  refine GL.val (v := (.pointer (some ⟨bq1, 1, none⟩))) (Ex.cast (Ex.fieldAddr rfl Try.underlying32 rfl T.sz3 (by decide)) rfl) (by decide) ?_
  refine GL.val (v := (.int .i64 H)) (Ex.load rfl T.ag3 (i := 0) rfl rfl) (by decide) ?_
  refine GL.step (Stp.callR (σ := Unit) (p := fun rz => True) (v := fun rz => (.bool (sizeB W H))) (N := fun rz => []) (vs := [(.int .i64 W), (.int .i64 H)]) rfl rfl T.own47 (by decide) (fun wc hw => ref_size W H wc)) (fun xq2 hq3 => ?_)
  refine GL.val (v := (.bool (!(sizeB W H)))) (Ex.not rfl) (by decide) ?_
  refine GL.nil ?_
  refine GE.thenN ?_
  refine GC.cond rfl (fun hq4 => ?_) (fun hq4 => ?_)
  · have hs : sizeB W H = false := by simpa using hq4
    refine GC.seq ?_
    refine GC.region ?_
    refine GL.val (v := (.int .i64 50)) (Ex.assign rfl) (by decide) ?_
    refine GL.nil ?_
    refine GE.thenN ?_
    refine GC.ret ?_
    refine GE.thenR ?_
    refine GC.ret1 rfl (Rv.tmp rfl) (fun wN HN => ?_)
    exact HN.ret () trivial (by simp [chk, *]) (List.nil_sublist _) rfl
  · have hs : sizeB W H = true := by simpa using hq4
    refine GC.skip ?_
    refine GE.thenN ?_
    refine GC.seq ?_
    refine GC.seq ?_
    have hm := sizeB_mul hs
    refine GC.region ?_
    refine GL.val (v := (.pointer (some ⟨bq1, 2, none⟩))) (Ex.cast (Ex.fieldAddr rfl Try.underlying32 rfl T.sz30 (by decide)) rfl) (by decide) ?_
    refine GL.val (v := (.slice ad n cap)) (Ex.load rfl T.ag30 (i := 0) rfl rfl) (by decide) ?_
    refine GL.val (v := (.int .i64 ((n : Int)))) (Ex.len rfl Try.underlying30) (by decide) ?_
    refine GL.val (v := (.pointer (some ⟨bq1, 0, none⟩))) (Ex.cast (Ex.fieldAddr rfl Try.underlying32 rfl T.sz3 (by decide)) rfl) (by decide) ?_
    refine GL.val (v := (.int .i64 W)) (Ex.load rfl T.ag3 (i := 0) rfl rfl) (by decide) ?_
    refine GL.val (v := (.pointer (some ⟨bq1, 1, none⟩))) (Ex.cast (Ex.fieldAddr rfl Try.underlying32 rfl T.sz3 (by decide)) rfl) (by decide) ?_
    refine GL.val (v := (.int .i64 H)) (Ex.load rfl T.ag3 (i := 0) rfl rfl) (by decide) ?_
    refine GL.val (v := (.int .i64 (W * H))) (Ex.mul rfl rfl (Z := W * H) (w64 (by omega))) (by decide) ?_
    refine GL.val (v := (.bool (decide (((n : Int)) ≠ (W * H))))) (Ex.neq rfl rfl) (by decide) ?_
    refine GL.nil ?_
    refine GE.thenN ?_
    refine GC.cond rfl (fun hq5 => ?_) (fun hq5 => ?_)
    · replace hq5 := of_decide_eq_true hq5
      refine GC.seq ?_
      refine GC.region ?_
      refine GL.val (v := (.int .i64 51)) (Ex.assign rfl) (by decide) ?_
      refine GL.nil ?_
      refine GE.thenN ?_
      refine GC.ret ?_
      refine GE.thenR ?_
      refine GC.ret1 rfl (Rv.tmp rfl) (fun wN HN => ?_)
      exact HN.ret () trivial (by simp [chk, *]) (List.nil_sublist _) rfl
    · replace hq5 := of_decide_eq_false hq5
      refine GC.skip ?_
      refine GE.thenN ?_
      refine GC.seq ?_
      refine GC.region ?_
      refine GL.val (v := (.int .i64 0)) (Ex.assign rfl) (by decide) ?_
      refine GL.nil ?_
      refine GE.thenN ?_
      refine GC.ret ?_
      refine GC.ret1 rfl (Rv.tmp rfl) (fun wN HN => ?_)
      exact HN.ret () trivial (by simp [chk, *]) (List.nil_sublist _) rfl

theorem turn_any (W H n cap b o : Nat) (xs : List Int) (q : Int) (r : Nat) (w : World) (hok : okP W H) (hn : n = W * H) (hx : xs.length = n) (hr : Rd w b o (xs.map u32)) (hr4 : r < 4) (hq : rst q 4 = (r : Int)) :
    Calls Try.prog 33 #[.agg #[.int .i64 (W : Int), .int .i64 (H : Int), .slice (some ⟨b, o, none⟩) n cap], .int .i64 q] w (Ret w (fun _ : Nat => True) (fun x => .tuple #[.agg #[.int .i64 ((tW r W H : Nat) : Int), .int .i64 ((tH r W H : Nat) : Int), .slice (some ⟨x, 0, none⟩) (tW r W H * tH r W H) (tW r W H * tH r W H)], .int .i64 0]) (fun x => [⟨x, (trn r xs W H).map u32, 72, true⟩])) := by
  have hb := tmod_bd q (show (1 : Int) ≤ 4 by decide)
  have hc : r = 0 ∨ r = 1 ∨ r = 2 ∨ r = 3 := by omega
  rcases hc with rfl | rfl | rfl | rfl
  · exact turn_0 W H n cap b o xs q w hok hn hx hr hq hb
  · exact turn_1 W H n cap b o xs q w hok hn hx hr hq hb
  · exact turn_2 W H n cap b o xs q w hok hn hx hr hq hb
  · exact turn_3 W H n cap b o xs q w hok hn hx hr hq hb

set_option maxRecDepth 100000 in
set_option maxHeartbeats 1000000 in
theorem turns_ok (W H n cap b o : Nat) (a1 b1 : Int) (xs : List Int) (w : World) (hok : okP W H) (hn : n = W * H) (hx : xs.length = n) (hr : Rd w b o (xs.map u32)) :
    Calls Try.prog 9 #[(.agg #[(.int .i64 ((W : Int))), (.int .i64 ((H : Int))), (.slice (some ⟨b, o, none⟩) n cap)]), (.int .i64 a1), (.int .i64 b1)] w (Ret w (fun _ : Unit => True) (fun _ => .bool true) (fun _ => [])) := by
  refine enter (M := None) (L := []) (n := 158) (l := [(0, (.agg #[(.int .i64 ((W : Int))), (.int .i64 ((H : Int))), (.slice (some ⟨b, o, none⟩) n cap)])), (1, (.int .i64 a1)), (2, (.int .i64 b1))]) Try.func9 rfl rfl (Args.cons rfl (Args.cons rfl (Args.cons rfl (Args.nil _)))) (Hp.start _ _) ?_
  refine GC.seq ?_
  have hx' : xs.length = W * H := by rw [hx, hn]
  have hA := tmod_bd a1 (show (1 : Int) ≤ 1000 by decide)
  have hB := tmod_bd b1 (show (1 : Int) ≤ 1000 by decide)
  refine GC.region ?_
  refine GL.step (Stp.box (cs := [(.int .i64 ((W : Int))), (.int .i64 ((H : Int))), (.slice (some ⟨b, o, none⟩) n cap)]) rfl rfl (by decide)) (fun bq1 _ => ?_)
  refine GL.val (v := (.bool false)) (Ex.assign rfl) (by decide) ?_
  refine GL.nil ?_
  refine GE.thenN ?_
  refine GC.seq ?_
  refine GC.seq ?_
  refine GC.region ?_
  refine GL.step (Stp.callR (σ := Unit) (p := fun rz => True) (v := fun rz => (.bool true)) (N := fun rz => []) (vs := []) rfl rfl T.own13 (by decide) (fun wc hw => known wc)) (fun xq2 hq3 => ?_)
  refine GL.val (v := (.bool false)) (Ex.cast (Ex.not rfl) rfl) (by decide) ?_
  refine GL.nil ?_
  refine GE.thenN ?_
  refine GC.cond rfl (fun hq4 => by cases hq4) (fun _ => ?_)
  refine GC.skip ?_
  refine GE.thenN ?_
  refine GC.seq ?_
  refine GC.seq ?_
  refine GC.region ?_
  refine GL.val (v := (.agg #[(.int .i64 ((W : Int))), (.int .i64 ((H : Int))), (.slice (some ⟨b, o, none⟩) n cap)])) (Ex.loadA rfl T.ag32 T.sz32 (i := 0) rfl (vs := [(.int .i64 ((W : Int))), (.int .i64 ((H : Int))), (.slice (some ⟨b, o, none⟩) n cap)]) rfl rfl) (by decide) ?_
  refine GL.step (Stp.callR (σ := Unit) (p := fun rz => True) (v := fun rz => (.int .i64 0)) (N := fun rz => []) (vs := [(.agg #[(.int .i64 ((W : Int))), (.int .i64 ((H : Int))), (.slice (some ⟨b, o, none⟩) n cap)])]) rfl rfl T.own35 (by decide) (fun wc hw => (by have h := ref_check ((W : Int)) ((H : Int)) (some ⟨b, o, none⟩) n cap wc; rw [show chk ((W : Int)) ((H : Int)) (n) = 0 from by first | exact chk_ok (hok) | (rw [hn]; exact chk_ok (hok))] at h; exact h))) (fun xq5 hq6 => ?_)
  refine GL.val (v := (.bool false)) (Ex.cast (Ex.neq rfl rfl) rfl) (by decide) ?_
  refine GL.nil ?_
  refine GE.thenN ?_
  refine GC.cond rfl (fun hq7 => by cases hq7) (fun _ => ?_)
  refine GC.skip ?_
  refine GE.thenN ?_
  refine GC.seq ?_
  refine GC.region ?_
  refine GL.val (v := (.agg #[(.int .i64 ((W : Int))), (.int .i64 ((H : Int))), (.slice (some ⟨b, o, none⟩) n cap)])) (Ex.loadA rfl T.ag32 T.sz32 (i := 0) rfl (vs := [(.int .i64 ((W : Int))), (.int .i64 ((H : Int))), (.slice (some ⟨b, o, none⟩) n cap)]) rfl rfl) (by decide) ?_
  refine GL.step (Stp.callR (σ := Nat) (p := fun rz => True) (v := fun rz => (.tuple #[(.agg #[(.int .i64 (((W : Nat) : Int))), (.int .i64 (((H : Nat) : Int))), (.slice (some ⟨rz, 0, none⟩) (W * H) (W * H))]), (.int .i64 0)])) (N := fun rz => [⟨rz, (flT xs W H).map u32, 72, true⟩]) (vs := [(.agg #[(.int .i64 ((W : Int))), (.int .i64 ((H : Int))), (.slice (some ⟨b, o, none⟩) n cap)]), (.bool true)]) rfl rfl T.own29 (by decide) (fun wc hw => (flipT W H n cap b o xs  wc hok hn hx (hw.rd hr (fun x => x)) ))) (fun xq8 hq9 => ?_)
  refine GL.val (v := (.tuple #[(.agg #[(.int .i64 (((W : Nat) : Int))), (.int .i64 (((H : Nat) : Int))), (.slice (some ⟨xq8, 0, none⟩) (W * H) (W * H))]), (.int .i64 0)])) (Ex.move rfl) (by decide) ?_
  refine GL.val (v := (.agg #[(.int .i64 (((W : Nat) : Int))), (.int .i64 (((H : Nat) : Int))), (.slice (some ⟨xq8, 0, none⟩) (W * H) (W * H))])) (Ex.extract rfl rfl) (by decide) ?_
  refine GL.val (v := (.int .i64 0)) (Ex.extract rfl rfl) (by decide) ?_
  refine GL.step (Stp.alloc T.zr32 (by decide)) (fun bq10 _ => ?_)
  refine GL.step (Stp.storeL (i := 0) (L1 := [⟨bq10, [(.int .i64 (((W : Nat) : Int))), (.int .i64 (((H : Nat) : Int))), (.slice (some ⟨xq8, 0, none⟩) (W * H) (W * H))], 32, true⟩, ⟨xq8, (flT xs W H).map u32, 72, true⟩, ⟨bq1, [(.int .i64 ((W : Int))), (.int .i64 ((H : Int))), (.slice (some ⟨b, o, none⟩) n cap)], 32, true⟩]) rfl rfl rfl T.sz32 rfl rfl rfl rfl) (fun _ _ => ?_)
  refine GL.val (v := (.int .i64 0)) (Ex.assign rfl) (by decide) ?_
  refine GL.nil ?_
  refine GE.thenN ?_
  refine GC.seq ?_
  refine GC.region ?_
  refine GL.val (v := (.agg #[(.int .i64 (((W : Nat) : Int))), (.int .i64 (((H : Nat) : Int))), (.slice (some ⟨xq8, 0, none⟩) (W * H) (W * H))])) (Ex.loadA rfl T.ag32 T.sz32 (i := 0) rfl (vs := [(.int .i64 (((W : Nat) : Int))), (.int .i64 (((H : Nat) : Int))), (.slice (some ⟨xq8, 0, none⟩) (W * H) (W * H))]) rfl rfl) (by decide) ?_
  refine GL.step (Stp.callR (σ := Nat) (p := fun rz => True) (v := fun rz => (.tuple #[(.agg #[(.int .i64 (((W : Nat) : Int))), (.int .i64 (((H : Nat) : Int))), (.slice (some ⟨rz, 0, none⟩) (W * H) (W * H))]), (.int .i64 0)])) (N := fun rz => [⟨rz, (flT (flT xs W H) W H).map u32, 72, true⟩]) (vs := [(.agg #[(.int .i64 (((W : Nat) : Int))), (.int .i64 (((H : Nat) : Int))), (.slice (some ⟨xq8, 0, none⟩) (W * H) (W * H))]), (.bool true)]) rfl rfl T.own29 (by decide) (fun wc hw => (flipT W H (W * H) (W * H) xq8 0 (flT xs W H)  wc (show okP W H from hok) rfl flT_len (hw.rdOf (i := 1) rfl 0) ))) (fun xq11 hq12 => ?_)
  refine GL.val (v := (.tuple #[(.agg #[(.int .i64 (((W : Nat) : Int))), (.int .i64 (((H : Nat) : Int))), (.slice (some ⟨xq11, 0, none⟩) (W * H) (W * H))]), (.int .i64 0)])) (Ex.move rfl) (by decide) ?_
  refine GL.val (v := (.agg #[(.int .i64 (((W : Nat) : Int))), (.int .i64 (((H : Nat) : Int))), (.slice (some ⟨xq11, 0, none⟩) (W * H) (W * H))])) (Ex.extract rfl rfl) (by decide) ?_
  refine GL.val (v := (.int .i64 0)) (Ex.extract rfl rfl) (by decide) ?_
  refine GL.step (Stp.alloc T.zr32 (by decide)) (fun bq13 _ => ?_)
  refine GL.step (Stp.storeL (i := 0) (L1 := [⟨bq13, [(.int .i64 (((W : Nat) : Int))), (.int .i64 (((H : Nat) : Int))), (.slice (some ⟨xq11, 0, none⟩) (W * H) (W * H))], 32, true⟩, ⟨xq11, (flT (flT xs W H) W H).map u32, 72, true⟩, ⟨bq10, [(.int .i64 (((W : Nat) : Int))), (.int .i64 (((H : Nat) : Int))), (.slice (some ⟨xq8, 0, none⟩) (W * H) (W * H))], 32, true⟩, ⟨xq8, (flT xs W H).map u32, 72, true⟩, ⟨bq1, [(.int .i64 ((W : Int))), (.int .i64 ((H : Int))), (.slice (some ⟨b, o, none⟩) n cap)], 32, true⟩]) rfl rfl rfl T.sz32 rfl rfl rfl rfl) (fun _ _ => ?_)
  refine GL.val (v := (.int .i64 0)) (Ex.assign rfl) (by decide) ?_
  refine GL.nil ?_
  refine GE.thenN ?_
  refine GC.seq ?_
  refine GC.region ?_
  refine GL.val (v := (.agg #[(.int .i64 ((W : Int))), (.int .i64 ((H : Int))), (.slice (some ⟨b, o, none⟩) n cap)])) (Ex.loadA rfl T.ag32 T.sz32 (i := 4) rfl (vs := [(.int .i64 ((W : Int))), (.int .i64 ((H : Int))), (.slice (some ⟨b, o, none⟩) n cap)]) rfl rfl) (by decide) ?_
  refine GL.step (Stp.callR (σ := Nat) (p := fun rz => True) (v := fun rz => (.tuple #[(.agg #[(.int .i64 (((W : Nat) : Int))), (.int .i64 (((H : Nat) : Int))), (.slice (some ⟨rz, 0, none⟩) (W * H) (W * H))]), (.int .i64 0)])) (N := fun rz => [⟨rz, (flF xs W H).map u32, 72, true⟩]) (vs := [(.agg #[(.int .i64 ((W : Int))), (.int .i64 ((H : Int))), (.slice (some ⟨b, o, none⟩) n cap)]), (.bool false)]) rfl rfl T.own29 (by decide) (fun wc hw => (flipF W H n cap b o xs  wc hok hn hx (hw.rd hr (fun x => x)) ))) (fun xq14 hq15 => ?_)
  refine GL.val (v := (.tuple #[(.agg #[(.int .i64 (((W : Nat) : Int))), (.int .i64 (((H : Nat) : Int))), (.slice (some ⟨xq14, 0, none⟩) (W * H) (W * H))]), (.int .i64 0)])) (Ex.move rfl) (by decide) ?_
  refine GL.val (v := (.agg #[(.int .i64 (((W : Nat) : Int))), (.int .i64 (((H : Nat) : Int))), (.slice (some ⟨xq14, 0, none⟩) (W * H) (W * H))])) (Ex.extract rfl rfl) (by decide) ?_
  refine GL.val (v := (.int .i64 0)) (Ex.extract rfl rfl) (by decide) ?_
  refine GL.step (Stp.alloc T.zr32 (by decide)) (fun bq16 _ => ?_)
  refine GL.step (Stp.storeL (i := 0) (L1 := [⟨bq16, [(.int .i64 (((W : Nat) : Int))), (.int .i64 (((H : Nat) : Int))), (.slice (some ⟨xq14, 0, none⟩) (W * H) (W * H))], 32, true⟩, ⟨xq14, (flF xs W H).map u32, 72, true⟩, ⟨bq13, [(.int .i64 (((W : Nat) : Int))), (.int .i64 (((H : Nat) : Int))), (.slice (some ⟨xq11, 0, none⟩) (W * H) (W * H))], 32, true⟩, ⟨xq11, (flT (flT xs W H) W H).map u32, 72, true⟩, ⟨bq10, [(.int .i64 (((W : Nat) : Int))), (.int .i64 (((H : Nat) : Int))), (.slice (some ⟨xq8, 0, none⟩) (W * H) (W * H))], 32, true⟩, ⟨xq8, (flT xs W H).map u32, 72, true⟩, ⟨bq1, [(.int .i64 ((W : Int))), (.int .i64 ((H : Int))), (.slice (some ⟨b, o, none⟩) n cap)], 32, true⟩]) rfl rfl rfl T.sz32 rfl rfl rfl rfl) (fun _ _ => ?_)
  refine GL.val (v := (.int .i64 0)) (Ex.assign rfl) (by decide) ?_
  refine GL.nil ?_
  refine GE.thenN ?_
  refine GC.seq ?_
  refine GC.region ?_
  refine GL.val (v := (.agg #[(.int .i64 (((W : Nat) : Int))), (.int .i64 (((H : Nat) : Int))), (.slice (some ⟨xq14, 0, none⟩) (W * H) (W * H))])) (Ex.loadA rfl T.ag32 T.sz32 (i := 0) rfl (vs := [(.int .i64 (((W : Nat) : Int))), (.int .i64 (((H : Nat) : Int))), (.slice (some ⟨xq14, 0, none⟩) (W * H) (W * H))]) rfl rfl) (by decide) ?_
  refine GL.step (Stp.callR (σ := Nat) (p := fun rz => True) (v := fun rz => (.tuple #[(.agg #[(.int .i64 (((W : Nat) : Int))), (.int .i64 (((H : Nat) : Int))), (.slice (some ⟨rz, 0, none⟩) (W * H) (W * H))]), (.int .i64 0)])) (N := fun rz => [⟨rz, (flF (flF xs W H) W H).map u32, 72, true⟩]) (vs := [(.agg #[(.int .i64 (((W : Nat) : Int))), (.int .i64 (((H : Nat) : Int))), (.slice (some ⟨xq14, 0, none⟩) (W * H) (W * H))]), (.bool false)]) rfl rfl T.own29 (by decide) (fun wc hw => (flipF W H (W * H) (W * H) xq14 0 (flF xs W H)  wc (show okP W H from hok) rfl flF_len (hw.rdOf (i := 1) rfl 0) ))) (fun xq17 hq18 => ?_)
  refine GL.val (v := (.tuple #[(.agg #[(.int .i64 (((W : Nat) : Int))), (.int .i64 (((H : Nat) : Int))), (.slice (some ⟨xq17, 0, none⟩) (W * H) (W * H))]), (.int .i64 0)])) (Ex.move rfl) (by decide) ?_
  refine GL.val (v := (.agg #[(.int .i64 (((W : Nat) : Int))), (.int .i64 (((H : Nat) : Int))), (.slice (some ⟨xq17, 0, none⟩) (W * H) (W * H))])) (Ex.extract rfl rfl) (by decide) ?_
  refine GL.val (v := (.int .i64 0)) (Ex.extract rfl rfl) (by decide) ?_
  refine GL.step (Stp.alloc T.zr32 (by decide)) (fun bq19 _ => ?_)
  refine GL.step (Stp.storeL (i := 0) (L1 := [⟨bq19, [(.int .i64 (((W : Nat) : Int))), (.int .i64 (((H : Nat) : Int))), (.slice (some ⟨xq17, 0, none⟩) (W * H) (W * H))], 32, true⟩, ⟨xq17, (flF (flF xs W H) W H).map u32, 72, true⟩, ⟨bq16, [(.int .i64 (((W : Nat) : Int))), (.int .i64 (((H : Nat) : Int))), (.slice (some ⟨xq14, 0, none⟩) (W * H) (W * H))], 32, true⟩, ⟨xq14, (flF xs W H).map u32, 72, true⟩, ⟨bq13, [(.int .i64 (((W : Nat) : Int))), (.int .i64 (((H : Nat) : Int))), (.slice (some ⟨xq11, 0, none⟩) (W * H) (W * H))], 32, true⟩, ⟨xq11, (flT (flT xs W H) W H).map u32, 72, true⟩, ⟨bq10, [(.int .i64 (((W : Nat) : Int))), (.int .i64 (((H : Nat) : Int))), (.slice (some ⟨xq8, 0, none⟩) (W * H) (W * H))], 32, true⟩, ⟨xq8, (flT xs W H).map u32, 72, true⟩, ⟨bq1, [(.int .i64 ((W : Int))), (.int .i64 ((H : Int))), (.slice (some ⟨b, o, none⟩) n cap)], 32, true⟩]) rfl rfl rfl T.sz32 rfl rfl rfl rfl) (fun _ _ => ?_)
  refine GL.val (v := (.int .i64 0)) (Ex.assign rfl) (by decide) ?_
  refine GL.nil ?_
  refine GE.thenN ?_
  refine GC.seq ?_
  refine GC.region ?_
  refine GL.val (v := (.agg #[(.int .i64 ((W : Int))), (.int .i64 ((H : Int))), (.slice (some ⟨b, o, none⟩) n cap)])) (Ex.loadA rfl T.ag32 T.sz32 (i := 8) rfl (vs := [(.int .i64 ((W : Int))), (.int .i64 ((H : Int))), (.slice (some ⟨b, o, none⟩) n cap)]) rfl rfl) (by decide) ?_
  refine GL.step (Stp.callR (σ := Nat) (p := fun rz => True) (v := fun rz => (.tuple #[(.agg #[(.int .i64 (((H : Nat) : Int))), (.int .i64 (((W : Nat) : Int))), (.slice (some ⟨rz, 0, none⟩) (H * W) (H * W))]), (.int .i64 0)])) (N := fun rz => [⟨rz, (trp xs W H).map u32, 72, true⟩]) (vs := [(.agg #[(.int .i64 ((W : Int))), (.int .i64 ((H : Int))), (.slice (some ⟨b, o, none⟩) n cap)])]) rfl rfl T.own31 (by decide) (fun wc hw => (transp W H n cap b o xs  wc hok hn hx (hw.rd hr (fun x => x)) ))) (fun xq20 hq21 => ?_)
  refine GL.val (v := (.tuple #[(.agg #[(.int .i64 (((H : Nat) : Int))), (.int .i64 (((W : Nat) : Int))), (.slice (some ⟨xq20, 0, none⟩) (H * W) (H * W))]), (.int .i64 0)])) (Ex.move rfl) (by decide) ?_
  refine GL.val (v := (.agg #[(.int .i64 (((H : Nat) : Int))), (.int .i64 (((W : Nat) : Int))), (.slice (some ⟨xq20, 0, none⟩) (H * W) (H * W))])) (Ex.extract rfl rfl) (by decide) ?_
  refine GL.val (v := (.int .i64 0)) (Ex.extract rfl rfl) (by decide) ?_
  refine GL.step (Stp.alloc T.zr32 (by decide)) (fun bq22 _ => ?_)
  refine GL.step (Stp.storeL (i := 0) (L1 := [⟨bq22, [(.int .i64 (((H : Nat) : Int))), (.int .i64 (((W : Nat) : Int))), (.slice (some ⟨xq20, 0, none⟩) (H * W) (H * W))], 32, true⟩, ⟨xq20, (trp xs W H).map u32, 72, true⟩, ⟨bq19, [(.int .i64 (((W : Nat) : Int))), (.int .i64 (((H : Nat) : Int))), (.slice (some ⟨xq17, 0, none⟩) (W * H) (W * H))], 32, true⟩, ⟨xq17, (flF (flF xs W H) W H).map u32, 72, true⟩, ⟨bq16, [(.int .i64 (((W : Nat) : Int))), (.int .i64 (((H : Nat) : Int))), (.slice (some ⟨xq14, 0, none⟩) (W * H) (W * H))], 32, true⟩, ⟨xq14, (flF xs W H).map u32, 72, true⟩, ⟨bq13, [(.int .i64 (((W : Nat) : Int))), (.int .i64 (((H : Nat) : Int))), (.slice (some ⟨xq11, 0, none⟩) (W * H) (W * H))], 32, true⟩, ⟨xq11, (flT (flT xs W H) W H).map u32, 72, true⟩, ⟨bq10, [(.int .i64 (((W : Nat) : Int))), (.int .i64 (((H : Nat) : Int))), (.slice (some ⟨xq8, 0, none⟩) (W * H) (W * H))], 32, true⟩, ⟨xq8, (flT xs W H).map u32, 72, true⟩, ⟨bq1, [(.int .i64 ((W : Int))), (.int .i64 ((H : Int))), (.slice (some ⟨b, o, none⟩) n cap)], 32, true⟩]) rfl rfl rfl T.sz32 rfl rfl rfl rfl) (fun _ _ => ?_)
  refine GL.val (v := (.int .i64 0)) (Ex.assign rfl) (by decide) ?_
  refine GL.nil ?_
  refine GE.thenN ?_
  refine GC.seq ?_
  refine GC.region ?_
  refine GL.val (v := (.agg #[(.int .i64 (((H : Nat) : Int))), (.int .i64 (((W : Nat) : Int))), (.slice (some ⟨xq20, 0, none⟩) (H * W) (H * W))])) (Ex.loadA rfl T.ag32 T.sz32 (i := 0) rfl (vs := [(.int .i64 (((H : Nat) : Int))), (.int .i64 (((W : Nat) : Int))), (.slice (some ⟨xq20, 0, none⟩) (H * W) (H * W))]) rfl rfl) (by decide) ?_
  refine GL.step (Stp.callR (σ := Nat) (p := fun rz => True) (v := fun rz => (.tuple #[(.agg #[(.int .i64 (((W : Nat) : Int))), (.int .i64 (((H : Nat) : Int))), (.slice (some ⟨rz, 0, none⟩) (W * H) (W * H))]), (.int .i64 0)])) (N := fun rz => [⟨rz, (trp (trp xs W H) H W).map u32, 72, true⟩]) (vs := [(.agg #[(.int .i64 (((H : Nat) : Int))), (.int .i64 (((W : Nat) : Int))), (.slice (some ⟨xq20, 0, none⟩) (H * W) (H * W))])]) rfl rfl T.own31 (by decide) (fun wc hw => (transp H W (H * W) (H * W) xq20 0 (trp xs W H)  wc (show okP H W from (okP.swap hok)) rfl trp_len (hw.rdOf (i := 1) rfl 0) ))) (fun xq23 hq24 => ?_)
  refine GL.val (v := (.tuple #[(.agg #[(.int .i64 (((W : Nat) : Int))), (.int .i64 (((H : Nat) : Int))), (.slice (some ⟨xq23, 0, none⟩) (W * H) (W * H))]), (.int .i64 0)])) (Ex.move rfl) (by decide) ?_
  refine GL.val (v := (.agg #[(.int .i64 (((W : Nat) : Int))), (.int .i64 (((H : Nat) : Int))), (.slice (some ⟨xq23, 0, none⟩) (W * H) (W * H))])) (Ex.extract rfl rfl) (by decide) ?_
  refine GL.val (v := (.int .i64 0)) (Ex.extract rfl rfl) (by decide) ?_
  refine GL.step (Stp.alloc T.zr32 (by decide)) (fun bq25 _ => ?_)
  refine GL.step (Stp.storeL (i := 0) (L1 := [⟨bq25, [(.int .i64 (((W : Nat) : Int))), (.int .i64 (((H : Nat) : Int))), (.slice (some ⟨xq23, 0, none⟩) (W * H) (W * H))], 32, true⟩, ⟨xq23, (trp (trp xs W H) H W).map u32, 72, true⟩, ⟨bq22, [(.int .i64 (((H : Nat) : Int))), (.int .i64 (((W : Nat) : Int))), (.slice (some ⟨xq20, 0, none⟩) (H * W) (H * W))], 32, true⟩, ⟨xq20, (trp xs W H).map u32, 72, true⟩, ⟨bq19, [(.int .i64 (((W : Nat) : Int))), (.int .i64 (((H : Nat) : Int))), (.slice (some ⟨xq17, 0, none⟩) (W * H) (W * H))], 32, true⟩, ⟨xq17, (flF (flF xs W H) W H).map u32, 72, true⟩, ⟨bq16, [(.int .i64 (((W : Nat) : Int))), (.int .i64 (((H : Nat) : Int))), (.slice (some ⟨xq14, 0, none⟩) (W * H) (W * H))], 32, true⟩, ⟨xq14, (flF xs W H).map u32, 72, true⟩, ⟨bq13, [(.int .i64 (((W : Nat) : Int))), (.int .i64 (((H : Nat) : Int))), (.slice (some ⟨xq11, 0, none⟩) (W * H) (W * H))], 32, true⟩, ⟨xq11, (flT (flT xs W H) W H).map u32, 72, true⟩, ⟨bq10, [(.int .i64 (((W : Nat) : Int))), (.int .i64 (((H : Nat) : Int))), (.slice (some ⟨xq8, 0, none⟩) (W * H) (W * H))], 32, true⟩, ⟨xq8, (flT xs W H).map u32, 72, true⟩, ⟨bq1, [(.int .i64 ((W : Int))), (.int .i64 ((H : Int))), (.slice (some ⟨b, o, none⟩) n cap)], 32, true⟩]) rfl rfl rfl T.sz32 rfl rfl rfl rfl) (fun _ _ => ?_)
  refine GL.val (v := (.int .i64 0)) (Ex.assign rfl) (by decide) ?_
  refine GL.nil ?_
  refine GE.thenN ?_
  refine GC.seq ?_
  refine GC.region ?_
  refine GL.val (v := (.agg #[(.int .i64 ((W : Int))), (.int .i64 ((H : Int))), (.slice (some ⟨b, o, none⟩) n cap)])) (Ex.loadA rfl T.ag32 T.sz32 (i := 12) rfl (vs := [(.int .i64 ((W : Int))), (.int .i64 ((H : Int))), (.slice (some ⟨b, o, none⟩) n cap)]) rfl rfl) (by decide) ?_
  refine GL.step (Stp.callR (σ := Nat) (p := fun rz => True) (v := fun rz => (.tuple #[(.agg #[(.int .i64 (((tW 1 W H : Nat) : Int))), (.int .i64 (((tH 1 W H : Nat) : Int))), (.slice (some ⟨rz, 0, none⟩) ((tW 1 W H) * (tH 1 W H)) ((tW 1 W H) * (tH 1 W H)))]), (.int .i64 0)])) (N := fun rz => [⟨rz, (trn 1 xs W H).map u32, 72, true⟩]) (vs := [(.agg #[(.int .i64 ((W : Int))), (.int .i64 ((H : Int))), (.slice (some ⟨b, o, none⟩) n cap)]), (.int .i64 1)]) rfl rfl T.own33 (by decide) (fun wc hw => (turn_any W H n cap b o xs 1 1 wc hok hn hx (hw.rd hr (fun x => x)) (by decide) (by decide)))) (fun xq26 hq27 => ?_)
  refine GL.val (v := (.tuple #[(.agg #[(.int .i64 (((tW 1 W H : Nat) : Int))), (.int .i64 (((tH 1 W H : Nat) : Int))), (.slice (some ⟨xq26, 0, none⟩) ((tW 1 W H) * (tH 1 W H)) ((tW 1 W H) * (tH 1 W H)))]), (.int .i64 0)])) (Ex.move rfl) (by decide) ?_
  refine GL.val (v := (.agg #[(.int .i64 (((tW 1 W H : Nat) : Int))), (.int .i64 (((tH 1 W H : Nat) : Int))), (.slice (some ⟨xq26, 0, none⟩) ((tW 1 W H) * (tH 1 W H)) ((tW 1 W H) * (tH 1 W H)))])) (Ex.extract rfl rfl) (by decide) ?_
  refine GL.val (v := (.int .i64 0)) (Ex.extract rfl rfl) (by decide) ?_
  refine GL.step (Stp.alloc T.zr32 (by decide)) (fun bq28 _ => ?_)
  refine GL.step (Stp.storeL (i := 0) (L1 := [⟨bq28, [(.int .i64 (((tW 1 W H : Nat) : Int))), (.int .i64 (((tH 1 W H : Nat) : Int))), (.slice (some ⟨xq26, 0, none⟩) ((tW 1 W H) * (tH 1 W H)) ((tW 1 W H) * (tH 1 W H)))], 32, true⟩, ⟨xq26, (trn 1 xs W H).map u32, 72, true⟩, ⟨bq25, [(.int .i64 (((W : Nat) : Int))), (.int .i64 (((H : Nat) : Int))), (.slice (some ⟨xq23, 0, none⟩) (W * H) (W * H))], 32, true⟩, ⟨xq23, (trp (trp xs W H) H W).map u32, 72, true⟩, ⟨bq22, [(.int .i64 (((H : Nat) : Int))), (.int .i64 (((W : Nat) : Int))), (.slice (some ⟨xq20, 0, none⟩) (H * W) (H * W))], 32, true⟩, ⟨xq20, (trp xs W H).map u32, 72, true⟩, ⟨bq19, [(.int .i64 (((W : Nat) : Int))), (.int .i64 (((H : Nat) : Int))), (.slice (some ⟨xq17, 0, none⟩) (W * H) (W * H))], 32, true⟩, ⟨xq17, (flF (flF xs W H) W H).map u32, 72, true⟩, ⟨bq16, [(.int .i64 (((W : Nat) : Int))), (.int .i64 (((H : Nat) : Int))), (.slice (some ⟨xq14, 0, none⟩) (W * H) (W * H))], 32, true⟩, ⟨xq14, (flF xs W H).map u32, 72, true⟩, ⟨bq13, [(.int .i64 (((W : Nat) : Int))), (.int .i64 (((H : Nat) : Int))), (.slice (some ⟨xq11, 0, none⟩) (W * H) (W * H))], 32, true⟩, ⟨xq11, (flT (flT xs W H) W H).map u32, 72, true⟩, ⟨bq10, [(.int .i64 (((W : Nat) : Int))), (.int .i64 (((H : Nat) : Int))), (.slice (some ⟨xq8, 0, none⟩) (W * H) (W * H))], 32, true⟩, ⟨xq8, (flT xs W H).map u32, 72, true⟩, ⟨bq1, [(.int .i64 ((W : Int))), (.int .i64 ((H : Int))), (.slice (some ⟨b, o, none⟩) n cap)], 32, true⟩]) rfl rfl rfl T.sz32 rfl rfl rfl rfl) (fun _ _ => ?_)
  refine GL.val (v := (.int .i64 0)) (Ex.assign rfl) (by decide) ?_
  refine GL.nil ?_
  refine GE.thenN ?_
  refine GC.seq ?_
  refine GC.region ?_
  refine GL.val (v := (.agg #[(.int .i64 (((H : Nat) : Int))), (.int .i64 (((W : Nat) : Int))), (.slice (some ⟨xq20, 0, none⟩) (H * W) (H * W))])) (Ex.loadA rfl T.ag32 T.sz32 (i := 4) rfl (vs := [(.int .i64 (((H : Nat) : Int))), (.int .i64 (((W : Nat) : Int))), (.slice (some ⟨xq20, 0, none⟩) (H * W) (H * W))]) rfl rfl) (by decide) ?_
  refine GL.step (Stp.callR (σ := Nat) (p := fun rz => True) (v := fun rz => (.tuple #[(.agg #[(.int .i64 (((H : Nat) : Int))), (.int .i64 (((W : Nat) : Int))), (.slice (some ⟨rz, 0, none⟩) (H * W) (H * W))]), (.int .i64 0)])) (N := fun rz => [⟨rz, (flT (trp xs W H) H W).map u32, 72, true⟩]) (vs := [(.agg #[(.int .i64 (((H : Nat) : Int))), (.int .i64 (((W : Nat) : Int))), (.slice (some ⟨xq20, 0, none⟩) (H * W) (H * W))]), (.bool true)]) rfl rfl T.own29 (by decide) (fun wc hw => (flipT H W (H * W) (H * W) xq20 0 (trp xs W H)  wc (show okP H W from (okP.swap hok)) rfl trp_len (hw.rdOf (i := 5) rfl 0) ))) (fun xq29 hq30 => ?_)
  refine GL.val (v := (.tuple #[(.agg #[(.int .i64 (((H : Nat) : Int))), (.int .i64 (((W : Nat) : Int))), (.slice (some ⟨xq29, 0, none⟩) (H * W) (H * W))]), (.int .i64 0)])) (Ex.move rfl) (by decide) ?_
  refine GL.val (v := (.agg #[(.int .i64 (((H : Nat) : Int))), (.int .i64 (((W : Nat) : Int))), (.slice (some ⟨xq29, 0, none⟩) (H * W) (H * W))])) (Ex.extract rfl rfl) (by decide) ?_
  refine GL.val (v := (.int .i64 0)) (Ex.extract rfl rfl) (by decide) ?_
  refine GL.step (Stp.alloc T.zr32 (by decide)) (fun bq31 _ => ?_)
  refine GL.step (Stp.storeL (i := 0) (L1 := [⟨bq31, [(.int .i64 (((H : Nat) : Int))), (.int .i64 (((W : Nat) : Int))), (.slice (some ⟨xq29, 0, none⟩) (H * W) (H * W))], 32, true⟩, ⟨xq29, (flT (trp xs W H) H W).map u32, 72, true⟩, ⟨bq28, [(.int .i64 (((tW 1 W H : Nat) : Int))), (.int .i64 (((tH 1 W H : Nat) : Int))), (.slice (some ⟨xq26, 0, none⟩) ((tW 1 W H) * (tH 1 W H)) ((tW 1 W H) * (tH 1 W H)))], 32, true⟩, ⟨xq26, (trn 1 xs W H).map u32, 72, true⟩, ⟨bq25, [(.int .i64 (((W : Nat) : Int))), (.int .i64 (((H : Nat) : Int))), (.slice (some ⟨xq23, 0, none⟩) (W * H) (W * H))], 32, true⟩, ⟨xq23, (trp (trp xs W H) H W).map u32, 72, true⟩, ⟨bq22, [(.int .i64 (((H : Nat) : Int))), (.int .i64 (((W : Nat) : Int))), (.slice (some ⟨xq20, 0, none⟩) (H * W) (H * W))], 32, true⟩, ⟨xq20, (trp xs W H).map u32, 72, true⟩, ⟨bq19, [(.int .i64 (((W : Nat) : Int))), (.int .i64 (((H : Nat) : Int))), (.slice (some ⟨xq17, 0, none⟩) (W * H) (W * H))], 32, true⟩, ⟨xq17, (flF (flF xs W H) W H).map u32, 72, true⟩, ⟨bq16, [(.int .i64 (((W : Nat) : Int))), (.int .i64 (((H : Nat) : Int))), (.slice (some ⟨xq14, 0, none⟩) (W * H) (W * H))], 32, true⟩, ⟨xq14, (flF xs W H).map u32, 72, true⟩, ⟨bq13, [(.int .i64 (((W : Nat) : Int))), (.int .i64 (((H : Nat) : Int))), (.slice (some ⟨xq11, 0, none⟩) (W * H) (W * H))], 32, true⟩, ⟨xq11, (flT (flT xs W H) W H).map u32, 72, true⟩, ⟨bq10, [(.int .i64 (((W : Nat) : Int))), (.int .i64 (((H : Nat) : Int))), (.slice (some ⟨xq8, 0, none⟩) (W * H) (W * H))], 32, true⟩, ⟨xq8, (flT xs W H).map u32, 72, true⟩, ⟨bq1, [(.int .i64 ((W : Int))), (.int .i64 ((H : Int))), (.slice (some ⟨b, o, none⟩) n cap)], 32, true⟩]) rfl rfl rfl T.sz32 rfl rfl rfl rfl) (fun _ _ => ?_)
  refine GL.val (v := (.int .i64 0)) (Ex.assign rfl) (by decide) ?_
  refine GL.nil ?_
  refine GE.thenN ?_
  refine GC.seq ?_
  refine GC.region ?_
  refine GL.val (v := (.int .i64 a1)) (Ex.move rfl) (by decide) ?_
  refine GL.val (v := (.int .i64 (a1.tmod 1000))) (Ex.rem rfl rfl (Z := a1.tmod 1000) (by decide) rfl) (by decide) ?_
  refine GL.val (v := (.int .i64 b1)) (Ex.move rfl) (by decide) ?_
  refine GL.val (v := (.int .i64 (b1.tmod 1000))) (Ex.rem rfl rfl (Z := b1.tmod 1000) (by decide) rfl) (by decide) ?_
  refine GL.val (v := (.int .i64 (a1.tmod 1000))) (Ex.assign rfl) (by decide) ?_
  refine GL.val (v := (.int .i64 (b1.tmod 1000))) (Ex.assign rfl) (by decide) ?_
  refine GL.nil ?_
  refine GE.thenN ?_
  refine GC.seq ?_
  refine GC.region ?_
  refine GL.val (v := (.agg #[(.int .i64 ((W : Int))), (.int .i64 ((H : Int))), (.slice (some ⟨b, o, none⟩) n cap)])) (Ex.loadA rfl T.ag32 T.sz32 (i := 16) rfl (vs := [(.int .i64 ((W : Int))), (.int .i64 ((H : Int))), (.slice (some ⟨b, o, none⟩) n cap)]) rfl rfl) (by decide) ?_
  refine GL.val (v := (.int .i64 (a1.tmod 1000))) (Ex.move rfl) (by decide) ?_
  refine GL.step (Stp.callR (σ := Nat) (p := fun rz => True) (v := fun rz => (.tuple #[(.agg #[(.int .i64 (((tW ((rst (a1.tmod 1000) 4).toNat) W H : Nat) : Int))), (.int .i64 (((tH ((rst (a1.tmod 1000) 4).toNat) W H : Nat) : Int))), (.slice (some ⟨rz, 0, none⟩) ((tW ((rst (a1.tmod 1000) 4).toNat) W H) * (tH ((rst (a1.tmod 1000) 4).toNat) W H)) ((tW ((rst (a1.tmod 1000) 4).toNat) W H) * (tH ((rst (a1.tmod 1000) 4).toNat) W H)))]), (.int .i64 0)])) (N := fun rz => [⟨rz, (trn ((rst (a1.tmod 1000) 4).toNat) xs W H).map u32, 72, true⟩]) (vs := [(.agg #[(.int .i64 ((W : Int))), (.int .i64 ((H : Int))), (.slice (some ⟨b, o, none⟩) n cap)]), (.int .i64 (a1.tmod 1000))]) rfl rfl T.own33 (by decide) (fun wc hw => (turn_any W H n cap b o xs (a1.tmod 1000) ((rst (a1.tmod 1000) 4).toNat) wc hok hn hx (hw.rd hr (fun x => x)) (rst4 (a1.tmod 1000)).2 (rst4 (a1.tmod 1000)).1))) (fun xq32 hq33 => ?_)
  refine GL.val (v := (.tuple #[(.agg #[(.int .i64 (((tW ((rst (a1.tmod 1000) 4).toNat) W H : Nat) : Int))), (.int .i64 (((tH ((rst (a1.tmod 1000) 4).toNat) W H : Nat) : Int))), (.slice (some ⟨xq32, 0, none⟩) ((tW ((rst (a1.tmod 1000) 4).toNat) W H) * (tH ((rst (a1.tmod 1000) 4).toNat) W H)) ((tW ((rst (a1.tmod 1000) 4).toNat) W H) * (tH ((rst (a1.tmod 1000) 4).toNat) W H)))]), (.int .i64 0)])) (Ex.move rfl) (by decide) ?_
  refine GL.val (v := (.agg #[(.int .i64 (((tW ((rst (a1.tmod 1000) 4).toNat) W H : Nat) : Int))), (.int .i64 (((tH ((rst (a1.tmod 1000) 4).toNat) W H : Nat) : Int))), (.slice (some ⟨xq32, 0, none⟩) ((tW ((rst (a1.tmod 1000) 4).toNat) W H) * (tH ((rst (a1.tmod 1000) 4).toNat) W H)) ((tW ((rst (a1.tmod 1000) 4).toNat) W H) * (tH ((rst (a1.tmod 1000) 4).toNat) W H)))])) (Ex.extract rfl rfl) (by decide) ?_
  refine GL.val (v := (.int .i64 0)) (Ex.extract rfl rfl) (by decide) ?_
  refine GL.step (Stp.alloc T.zr32 (by decide)) (fun bq34 _ => ?_)
  refine GL.step (Stp.storeL (i := 0) (L1 := [⟨bq34, [(.int .i64 (((tW ((rst (a1.tmod 1000) 4).toNat) W H : Nat) : Int))), (.int .i64 (((tH ((rst (a1.tmod 1000) 4).toNat) W H : Nat) : Int))), (.slice (some ⟨xq32, 0, none⟩) ((tW ((rst (a1.tmod 1000) 4).toNat) W H) * (tH ((rst (a1.tmod 1000) 4).toNat) W H)) ((tW ((rst (a1.tmod 1000) 4).toNat) W H) * (tH ((rst (a1.tmod 1000) 4).toNat) W H)))], 32, true⟩, ⟨xq32, (trn ((rst (a1.tmod 1000) 4).toNat) xs W H).map u32, 72, true⟩, ⟨bq31, [(.int .i64 (((H : Nat) : Int))), (.int .i64 (((W : Nat) : Int))), (.slice (some ⟨xq29, 0, none⟩) (H * W) (H * W))], 32, true⟩, ⟨xq29, (flT (trp xs W H) H W).map u32, 72, true⟩, ⟨bq28, [(.int .i64 (((tW 1 W H : Nat) : Int))), (.int .i64 (((tH 1 W H : Nat) : Int))), (.slice (some ⟨xq26, 0, none⟩) ((tW 1 W H) * (tH 1 W H)) ((tW 1 W H) * (tH 1 W H)))], 32, true⟩, ⟨xq26, (trn 1 xs W H).map u32, 72, true⟩, ⟨bq25, [(.int .i64 (((W : Nat) : Int))), (.int .i64 (((H : Nat) : Int))), (.slice (some ⟨xq23, 0, none⟩) (W * H) (W * H))], 32, true⟩, ⟨xq23, (trp (trp xs W H) H W).map u32, 72, true⟩, ⟨bq22, [(.int .i64 (((H : Nat) : Int))), (.int .i64 (((W : Nat) : Int))), (.slice (some ⟨xq20, 0, none⟩) (H * W) (H * W))], 32, true⟩, ⟨xq20, (trp xs W H).map u32, 72, true⟩, ⟨bq19, [(.int .i64 (((W : Nat) : Int))), (.int .i64 (((H : Nat) : Int))), (.slice (some ⟨xq17, 0, none⟩) (W * H) (W * H))], 32, true⟩, ⟨xq17, (flF (flF xs W H) W H).map u32, 72, true⟩, ⟨bq16, [(.int .i64 (((W : Nat) : Int))), (.int .i64 (((H : Nat) : Int))), (.slice (some ⟨xq14, 0, none⟩) (W * H) (W * H))], 32, true⟩, ⟨xq14, (flF xs W H).map u32, 72, true⟩, ⟨bq13, [(.int .i64 (((W : Nat) : Int))), (.int .i64 (((H : Nat) : Int))), (.slice (some ⟨xq11, 0, none⟩) (W * H) (W * H))], 32, true⟩, ⟨xq11, (flT (flT xs W H) W H).map u32, 72, true⟩, ⟨bq10, [(.int .i64 (((W : Nat) : Int))), (.int .i64 (((H : Nat) : Int))), (.slice (some ⟨xq8, 0, none⟩) (W * H) (W * H))], 32, true⟩, ⟨xq8, (flT xs W H).map u32, 72, true⟩, ⟨bq1, [(.int .i64 ((W : Int))), (.int .i64 ((H : Int))), (.slice (some ⟨b, o, none⟩) n cap)], 32, true⟩]) rfl rfl rfl T.sz32 rfl rfl rfl rfl) (fun _ _ => ?_)
  refine GL.val (v := (.int .i64 0)) (Ex.assign rfl) (by decide) ?_
  refine GL.nil ?_
  refine GE.thenN ?_
  refine GC.seq ?_
  refine GC.region ?_
  refine GL.val (v := (.agg #[(.int .i64 (((tW ((rst (a1.tmod 1000) 4).toNat) W H : Nat) : Int))), (.int .i64 (((tH ((rst (a1.tmod 1000) 4).toNat) W H : Nat) : Int))), (.slice (some ⟨xq32, 0, none⟩) ((tW ((rst (a1.tmod 1000) 4).toNat) W H) * (tH ((rst (a1.tmod 1000) 4).toNat) W H)) ((tW ((rst (a1.tmod 1000) 4).toNat) W H) * (tH ((rst (a1.tmod 1000) 4).toNat) W H)))])) (Ex.loadA rfl T.ag32 T.sz32 (i := 0) rfl (vs := [(.int .i64 (((tW ((rst (a1.tmod 1000) 4).toNat) W H : Nat) : Int))), (.int .i64 (((tH ((rst (a1.tmod 1000) 4).toNat) W H : Nat) : Int))), (.slice (some ⟨xq32, 0, none⟩) ((tW ((rst (a1.tmod 1000) 4).toNat) W H) * (tH ((rst (a1.tmod 1000) 4).toNat) W H)) ((tW ((rst (a1.tmod 1000) 4).toNat) W H) * (tH ((rst (a1.tmod 1000) 4).toNat) W H)))]) rfl rfl) (by decide) ?_
  refine GL.val (v := (.int .i64 (b1.tmod 1000))) (Ex.move rfl) (by decide) ?_
  refine GL.step (Stp.callR (σ := Nat) (p := fun rz => True) (v := fun rz => (.tuple #[(.agg #[(.int .i64 (((tW ((rst (b1.tmod 1000) 4).toNat) (tW ((rst (a1.tmod 1000) 4).toNat) W H) (tH ((rst (a1.tmod 1000) 4).toNat) W H) : Nat) : Int))), (.int .i64 (((tH ((rst (b1.tmod 1000) 4).toNat) (tW ((rst (a1.tmod 1000) 4).toNat) W H) (tH ((rst (a1.tmod 1000) 4).toNat) W H) : Nat) : Int))), (.slice (some ⟨rz, 0, none⟩) ((tW ((rst (b1.tmod 1000) 4).toNat) (tW ((rst (a1.tmod 1000) 4).toNat) W H) (tH ((rst (a1.tmod 1000) 4).toNat) W H)) * (tH ((rst (b1.tmod 1000) 4).toNat) (tW ((rst (a1.tmod 1000) 4).toNat) W H) (tH ((rst (a1.tmod 1000) 4).toNat) W H))) ((tW ((rst (b1.tmod 1000) 4).toNat) (tW ((rst (a1.tmod 1000) 4).toNat) W H) (tH ((rst (a1.tmod 1000) 4).toNat) W H)) * (tH ((rst (b1.tmod 1000) 4).toNat) (tW ((rst (a1.tmod 1000) 4).toNat) W H) (tH ((rst (a1.tmod 1000) 4).toNat) W H))))]), (.int .i64 0)])) (N := fun rz => [⟨rz, (trn ((rst (b1.tmod 1000) 4).toNat) (trn ((rst (a1.tmod 1000) 4).toNat) xs W H) (tW ((rst (a1.tmod 1000) 4).toNat) W H) (tH ((rst (a1.tmod 1000) 4).toNat) W H)).map u32, 72, true⟩]) (vs := [(.agg #[(.int .i64 (((tW ((rst (a1.tmod 1000) 4).toNat) W H : Nat) : Int))), (.int .i64 (((tH ((rst (a1.tmod 1000) 4).toNat) W H : Nat) : Int))), (.slice (some ⟨xq32, 0, none⟩) ((tW ((rst (a1.tmod 1000) 4).toNat) W H) * (tH ((rst (a1.tmod 1000) 4).toNat) W H)) ((tW ((rst (a1.tmod 1000) 4).toNat) W H) * (tH ((rst (a1.tmod 1000) 4).toNat) W H)))]), (.int .i64 (b1.tmod 1000))]) rfl rfl T.own33 (by decide) (fun wc hw => (turn_any (tW ((rst (a1.tmod 1000) 4).toNat) W H) (tH ((rst (a1.tmod 1000) 4).toNat) W H) ((tW ((rst (a1.tmod 1000) 4).toNat) W H) * (tH ((rst (a1.tmod 1000) 4).toNat) W H)) ((tW ((rst (a1.tmod 1000) 4).toNat) W H) * (tH ((rst (a1.tmod 1000) 4).toNat) W H)) xq32 0 (trn ((rst (a1.tmod 1000) 4).toNat) xs W H) (b1.tmod 1000) ((rst (b1.tmod 1000) 4).toNat) wc (show okP (tW ((rst (a1.tmod 1000) 4).toNat) W H) (tH ((rst (a1.tmod 1000) 4).toNat) W H) from (okP.turn hok ((rst (a1.tmod 1000) 4).toNat))) rfl (trn_len (by first | decide | exact (rst4 _).2)) (hw.rdOf (i := 1) rfl 0) (rst4 (b1.tmod 1000)).2 (rst4 (b1.tmod 1000)).1))) (fun xq35 hq36 => ?_)
  refine GL.val (v := (.tuple #[(.agg #[(.int .i64 (((tW ((rst (b1.tmod 1000) 4).toNat) (tW ((rst (a1.tmod 1000) 4).toNat) W H) (tH ((rst (a1.tmod 1000) 4).toNat) W H) : Nat) : Int))), (.int .i64 (((tH ((rst (b1.tmod 1000) 4).toNat) (tW ((rst (a1.tmod 1000) 4).toNat) W H) (tH ((rst (a1.tmod 1000) 4).toNat) W H) : Nat) : Int))), (.slice (some ⟨xq35, 0, none⟩) ((tW ((rst (b1.tmod 1000) 4).toNat) (tW ((rst (a1.tmod 1000) 4).toNat) W H) (tH ((rst (a1.tmod 1000) 4).toNat) W H)) * (tH ((rst (b1.tmod 1000) 4).toNat) (tW ((rst (a1.tmod 1000) 4).toNat) W H) (tH ((rst (a1.tmod 1000) 4).toNat) W H))) ((tW ((rst (b1.tmod 1000) 4).toNat) (tW ((rst (a1.tmod 1000) 4).toNat) W H) (tH ((rst (a1.tmod 1000) 4).toNat) W H)) * (tH ((rst (b1.tmod 1000) 4).toNat) (tW ((rst (a1.tmod 1000) 4).toNat) W H) (tH ((rst (a1.tmod 1000) 4).toNat) W H))))]), (.int .i64 0)])) (Ex.move rfl) (by decide) ?_
  refine GL.val (v := (.agg #[(.int .i64 (((tW ((rst (b1.tmod 1000) 4).toNat) (tW ((rst (a1.tmod 1000) 4).toNat) W H) (tH ((rst (a1.tmod 1000) 4).toNat) W H) : Nat) : Int))), (.int .i64 (((tH ((rst (b1.tmod 1000) 4).toNat) (tW ((rst (a1.tmod 1000) 4).toNat) W H) (tH ((rst (a1.tmod 1000) 4).toNat) W H) : Nat) : Int))), (.slice (some ⟨xq35, 0, none⟩) ((tW ((rst (b1.tmod 1000) 4).toNat) (tW ((rst (a1.tmod 1000) 4).toNat) W H) (tH ((rst (a1.tmod 1000) 4).toNat) W H)) * (tH ((rst (b1.tmod 1000) 4).toNat) (tW ((rst (a1.tmod 1000) 4).toNat) W H) (tH ((rst (a1.tmod 1000) 4).toNat) W H))) ((tW ((rst (b1.tmod 1000) 4).toNat) (tW ((rst (a1.tmod 1000) 4).toNat) W H) (tH ((rst (a1.tmod 1000) 4).toNat) W H)) * (tH ((rst (b1.tmod 1000) 4).toNat) (tW ((rst (a1.tmod 1000) 4).toNat) W H) (tH ((rst (a1.tmod 1000) 4).toNat) W H))))])) (Ex.extract rfl rfl) (by decide) ?_
  refine GL.val (v := (.int .i64 0)) (Ex.extract rfl rfl) (by decide) ?_
  refine GL.step (Stp.alloc T.zr32 (by decide)) (fun bq37 _ => ?_)
  refine GL.step (Stp.storeL (i := 0) (L1 := [⟨bq37, [(.int .i64 (((tW ((rst (b1.tmod 1000) 4).toNat) (tW ((rst (a1.tmod 1000) 4).toNat) W H) (tH ((rst (a1.tmod 1000) 4).toNat) W H) : Nat) : Int))), (.int .i64 (((tH ((rst (b1.tmod 1000) 4).toNat) (tW ((rst (a1.tmod 1000) 4).toNat) W H) (tH ((rst (a1.tmod 1000) 4).toNat) W H) : Nat) : Int))), (.slice (some ⟨xq35, 0, none⟩) ((tW ((rst (b1.tmod 1000) 4).toNat) (tW ((rst (a1.tmod 1000) 4).toNat) W H) (tH ((rst (a1.tmod 1000) 4).toNat) W H)) * (tH ((rst (b1.tmod 1000) 4).toNat) (tW ((rst (a1.tmod 1000) 4).toNat) W H) (tH ((rst (a1.tmod 1000) 4).toNat) W H))) ((tW ((rst (b1.tmod 1000) 4).toNat) (tW ((rst (a1.tmod 1000) 4).toNat) W H) (tH ((rst (a1.tmod 1000) 4).toNat) W H)) * (tH ((rst (b1.tmod 1000) 4).toNat) (tW ((rst (a1.tmod 1000) 4).toNat) W H) (tH ((rst (a1.tmod 1000) 4).toNat) W H))))], 32, true⟩, ⟨xq35, (trn ((rst (b1.tmod 1000) 4).toNat) (trn ((rst (a1.tmod 1000) 4).toNat) xs W H) (tW ((rst (a1.tmod 1000) 4).toNat) W H) (tH ((rst (a1.tmod 1000) 4).toNat) W H)).map u32, 72, true⟩, ⟨bq34, [(.int .i64 (((tW ((rst (a1.tmod 1000) 4).toNat) W H : Nat) : Int))), (.int .i64 (((tH ((rst (a1.tmod 1000) 4).toNat) W H : Nat) : Int))), (.slice (some ⟨xq32, 0, none⟩) ((tW ((rst (a1.tmod 1000) 4).toNat) W H) * (tH ((rst (a1.tmod 1000) 4).toNat) W H)) ((tW ((rst (a1.tmod 1000) 4).toNat) W H) * (tH ((rst (a1.tmod 1000) 4).toNat) W H)))], 32, true⟩, ⟨xq32, (trn ((rst (a1.tmod 1000) 4).toNat) xs W H).map u32, 72, true⟩, ⟨bq31, [(.int .i64 (((H : Nat) : Int))), (.int .i64 (((W : Nat) : Int))), (.slice (some ⟨xq29, 0, none⟩) (H * W) (H * W))], 32, true⟩, ⟨xq29, (flT (trp xs W H) H W).map u32, 72, true⟩, ⟨bq28, [(.int .i64 (((tW 1 W H : Nat) : Int))), (.int .i64 (((tH 1 W H : Nat) : Int))), (.slice (some ⟨xq26, 0, none⟩) ((tW 1 W H) * (tH 1 W H)) ((tW 1 W H) * (tH 1 W H)))], 32, true⟩, ⟨xq26, (trn 1 xs W H).map u32, 72, true⟩, ⟨bq25, [(.int .i64 (((W : Nat) : Int))), (.int .i64 (((H : Nat) : Int))), (.slice (some ⟨xq23, 0, none⟩) (W * H) (W * H))], 32, true⟩, ⟨xq23, (trp (trp xs W H) H W).map u32, 72, true⟩, ⟨bq22, [(.int .i64 (((H : Nat) : Int))), (.int .i64 (((W : Nat) : Int))), (.slice (some ⟨xq20, 0, none⟩) (H * W) (H * W))], 32, true⟩, ⟨xq20, (trp xs W H).map u32, 72, true⟩, ⟨bq19, [(.int .i64 (((W : Nat) : Int))), (.int .i64 (((H : Nat) : Int))), (.slice (some ⟨xq17, 0, none⟩) (W * H) (W * H))], 32, true⟩, ⟨xq17, (flF (flF xs W H) W H).map u32, 72, true⟩, ⟨bq16, [(.int .i64 (((W : Nat) : Int))), (.int .i64 (((H : Nat) : Int))), (.slice (some ⟨xq14, 0, none⟩) (W * H) (W * H))], 32, true⟩, ⟨xq14, (flF xs W H).map u32, 72, true⟩, ⟨bq13, [(.int .i64 (((W : Nat) : Int))), (.int .i64 (((H : Nat) : Int))), (.slice (some ⟨xq11, 0, none⟩) (W * H) (W * H))], 32, true⟩, ⟨xq11, (flT (flT xs W H) W H).map u32, 72, true⟩, ⟨bq10, [(.int .i64 (((W : Nat) : Int))), (.int .i64 (((H : Nat) : Int))), (.slice (some ⟨xq8, 0, none⟩) (W * H) (W * H))], 32, true⟩, ⟨xq8, (flT xs W H).map u32, 72, true⟩, ⟨bq1, [(.int .i64 ((W : Int))), (.int .i64 ((H : Int))), (.slice (some ⟨b, o, none⟩) n cap)], 32, true⟩]) rfl rfl rfl T.sz32 rfl rfl rfl rfl) (fun _ _ => ?_)
  refine GL.val (v := (.int .i64 0)) (Ex.assign rfl) (by decide) ?_
  refine GL.nil ?_
  refine GE.thenN ?_
  refine GC.seq ?_
  refine GC.region ?_
  refine GL.val (v := (.agg #[(.int .i64 ((W : Int))), (.int .i64 ((H : Int))), (.slice (some ⟨b, o, none⟩) n cap)])) (Ex.loadA rfl T.ag32 T.sz32 (i := 20) rfl (vs := [(.int .i64 ((W : Int))), (.int .i64 ((H : Int))), (.slice (some ⟨b, o, none⟩) n cap)]) rfl rfl) (by decide) ?_
  refine GL.val (v := (.int .i64 (a1.tmod 1000))) (Ex.move rfl) (by decide) ?_
  refine GL.val (v := (.int .i64 (b1.tmod 1000))) (Ex.move rfl) (by decide) ?_
  refine GL.val (v := (.int .i64 ((a1.tmod 1000) + (b1.tmod 1000)))) (Ex.add rfl rfl (Z := (a1.tmod 1000) + (b1.tmod 1000)) (w64 (by omega))) (by decide) ?_
  refine GL.step (Stp.callR (σ := Nat) (p := fun rz => True) (v := fun rz => (.tuple #[(.agg #[(.int .i64 (((tW ((rst ((a1.tmod 1000) + (b1.tmod 1000)) 4).toNat) W H : Nat) : Int))), (.int .i64 (((tH ((rst ((a1.tmod 1000) + (b1.tmod 1000)) 4).toNat) W H : Nat) : Int))), (.slice (some ⟨rz, 0, none⟩) ((tW ((rst ((a1.tmod 1000) + (b1.tmod 1000)) 4).toNat) W H) * (tH ((rst ((a1.tmod 1000) + (b1.tmod 1000)) 4).toNat) W H)) ((tW ((rst ((a1.tmod 1000) + (b1.tmod 1000)) 4).toNat) W H) * (tH ((rst ((a1.tmod 1000) + (b1.tmod 1000)) 4).toNat) W H)))]), (.int .i64 0)])) (N := fun rz => [⟨rz, (trn ((rst ((a1.tmod 1000) + (b1.tmod 1000)) 4).toNat) xs W H).map u32, 72, true⟩]) (vs := [(.agg #[(.int .i64 ((W : Int))), (.int .i64 ((H : Int))), (.slice (some ⟨b, o, none⟩) n cap)]), (.int .i64 ((a1.tmod 1000) + (b1.tmod 1000)))]) rfl rfl T.own33 (by decide) (fun wc hw => (turn_any W H n cap b o xs ((a1.tmod 1000) + (b1.tmod 1000)) ((rst ((a1.tmod 1000) + (b1.tmod 1000)) 4).toNat) wc hok hn hx (hw.rd hr (fun x => x)) (rst4 ((a1.tmod 1000) + (b1.tmod 1000))).2 (rst4 ((a1.tmod 1000) + (b1.tmod 1000))).1))) (fun xq38 hq39 => ?_)
  refine GL.val (v := (.tuple #[(.agg #[(.int .i64 (((tW ((rst ((a1.tmod 1000) + (b1.tmod 1000)) 4).toNat) W H : Nat) : Int))), (.int .i64 (((tH ((rst ((a1.tmod 1000) + (b1.tmod 1000)) 4).toNat) W H : Nat) : Int))), (.slice (some ⟨xq38, 0, none⟩) ((tW ((rst ((a1.tmod 1000) + (b1.tmod 1000)) 4).toNat) W H) * (tH ((rst ((a1.tmod 1000) + (b1.tmod 1000)) 4).toNat) W H)) ((tW ((rst ((a1.tmod 1000) + (b1.tmod 1000)) 4).toNat) W H) * (tH ((rst ((a1.tmod 1000) + (b1.tmod 1000)) 4).toNat) W H)))]), (.int .i64 0)])) (Ex.move rfl) (by decide) ?_
  refine GL.val (v := (.agg #[(.int .i64 (((tW ((rst ((a1.tmod 1000) + (b1.tmod 1000)) 4).toNat) W H : Nat) : Int))), (.int .i64 (((tH ((rst ((a1.tmod 1000) + (b1.tmod 1000)) 4).toNat) W H : Nat) : Int))), (.slice (some ⟨xq38, 0, none⟩) ((tW ((rst ((a1.tmod 1000) + (b1.tmod 1000)) 4).toNat) W H) * (tH ((rst ((a1.tmod 1000) + (b1.tmod 1000)) 4).toNat) W H)) ((tW ((rst ((a1.tmod 1000) + (b1.tmod 1000)) 4).toNat) W H) * (tH ((rst ((a1.tmod 1000) + (b1.tmod 1000)) 4).toNat) W H)))])) (Ex.extract rfl rfl) (by decide) ?_
  refine GL.val (v := (.int .i64 0)) (Ex.extract rfl rfl) (by decide) ?_
  refine GL.step (Stp.alloc T.zr32 (by decide)) (fun bq40 _ => ?_)
  refine GL.step (Stp.storeL (i := 0) (L1 := [⟨bq40, [(.int .i64 (((tW ((rst ((a1.tmod 1000) + (b1.tmod 1000)) 4).toNat) W H : Nat) : Int))), (.int .i64 (((tH ((rst ((a1.tmod 1000) + (b1.tmod 1000)) 4).toNat) W H : Nat) : Int))), (.slice (some ⟨xq38, 0, none⟩) ((tW ((rst ((a1.tmod 1000) + (b1.tmod 1000)) 4).toNat) W H) * (tH ((rst ((a1.tmod 1000) + (b1.tmod 1000)) 4).toNat) W H)) ((tW ((rst ((a1.tmod 1000) + (b1.tmod 1000)) 4).toNat) W H) * (tH ((rst ((a1.tmod 1000) + (b1.tmod 1000)) 4).toNat) W H)))], 32, true⟩, ⟨xq38, (trn ((rst ((a1.tmod 1000) + (b1.tmod 1000)) 4).toNat) xs W H).map u32, 72, true⟩, ⟨bq37, [(.int .i64 (((tW ((rst (b1.tmod 1000) 4).toNat) (tW ((rst (a1.tmod 1000) 4).toNat) W H) (tH ((rst (a1.tmod 1000) 4).toNat) W H) : Nat) : Int))), (.int .i64 (((tH ((rst (b1.tmod 1000) 4).toNat) (tW ((rst (a1.tmod 1000) 4).toNat) W H) (tH ((rst (a1.tmod 1000) 4).toNat) W H) : Nat) : Int))), (.slice (some ⟨xq35, 0, none⟩) ((tW ((rst (b1.tmod 1000) 4).toNat) (tW ((rst (a1.tmod 1000) 4).toNat) W H) (tH ((rst (a1.tmod 1000) 4).toNat) W H)) * (tH ((rst (b1.tmod 1000) 4).toNat) (tW ((rst (a1.tmod 1000) 4).toNat) W H) (tH ((rst (a1.tmod 1000) 4).toNat) W H))) ((tW ((rst (b1.tmod 1000) 4).toNat) (tW ((rst (a1.tmod 1000) 4).toNat) W H) (tH ((rst (a1.tmod 1000) 4).toNat) W H)) * (tH ((rst (b1.tmod 1000) 4).toNat) (tW ((rst (a1.tmod 1000) 4).toNat) W H) (tH ((rst (a1.tmod 1000) 4).toNat) W H))))], 32, true⟩, ⟨xq35, (trn ((rst (b1.tmod 1000) 4).toNat) (trn ((rst (a1.tmod 1000) 4).toNat) xs W H) (tW ((rst (a1.tmod 1000) 4).toNat) W H) (tH ((rst (a1.tmod 1000) 4).toNat) W H)).map u32, 72, true⟩, ⟨bq34, [(.int .i64 (((tW ((rst (a1.tmod 1000) 4).toNat) W H : Nat) : Int))), (.int .i64 (((tH ((rst (a1.tmod 1000) 4).toNat) W H : Nat) : Int))), (.slice (some ⟨xq32, 0, none⟩) ((tW ((rst (a1.tmod 1000) 4).toNat) W H) * (tH ((rst (a1.tmod 1000) 4).toNat) W H)) ((tW ((rst (a1.tmod 1000) 4).toNat) W H) * (tH ((rst (a1.tmod 1000) 4).toNat) W H)))], 32, true⟩, ⟨xq32, (trn ((rst (a1.tmod 1000) 4).toNat) xs W H).map u32, 72, true⟩, ⟨bq31, [(.int .i64 (((H : Nat) : Int))), (.int .i64 (((W : Nat) : Int))), (.slice (some ⟨xq29, 0, none⟩) (H * W) (H * W))], 32, true⟩, ⟨xq29, (flT (trp xs W H) H W).map u32, 72, true⟩, ⟨bq28, [(.int .i64 (((tW 1 W H : Nat) : Int))), (.int .i64 (((tH 1 W H : Nat) : Int))), (.slice (some ⟨xq26, 0, none⟩) ((tW 1 W H) * (tH 1 W H)) ((tW 1 W H) * (tH 1 W H)))], 32, true⟩, ⟨xq26, (trn 1 xs W H).map u32, 72, true⟩, ⟨bq25, [(.int .i64 (((W : Nat) : Int))), (.int .i64 (((H : Nat) : Int))), (.slice (some ⟨xq23, 0, none⟩) (W * H) (W * H))], 32, true⟩, ⟨xq23, (trp (trp xs W H) H W).map u32, 72, true⟩, ⟨bq22, [(.int .i64 (((H : Nat) : Int))), (.int .i64 (((W : Nat) : Int))), (.slice (some ⟨xq20, 0, none⟩) (H * W) (H * W))], 32, true⟩, ⟨xq20, (trp xs W H).map u32, 72, true⟩, ⟨bq19, [(.int .i64 (((W : Nat) : Int))), (.int .i64 (((H : Nat) : Int))), (.slice (some ⟨xq17, 0, none⟩) (W * H) (W * H))], 32, true⟩, ⟨xq17, (flF (flF xs W H) W H).map u32, 72, true⟩, ⟨bq16, [(.int .i64 (((W : Nat) : Int))), (.int .i64 (((H : Nat) : Int))), (.slice (some ⟨xq14, 0, none⟩) (W * H) (W * H))], 32, true⟩, ⟨xq14, (flF xs W H).map u32, 72, true⟩, ⟨bq13, [(.int .i64 (((W : Nat) : Int))), (.int .i64 (((H : Nat) : Int))), (.slice (some ⟨xq11, 0, none⟩) (W * H) (W * H))], 32, true⟩, ⟨xq11, (flT (flT xs W H) W H).map u32, 72, true⟩, ⟨bq10, [(.int .i64 (((W : Nat) : Int))), (.int .i64 (((H : Nat) : Int))), (.slice (some ⟨xq8, 0, none⟩) (W * H) (W * H))], 32, true⟩, ⟨xq8, (flT xs W H).map u32, 72, true⟩, ⟨bq1, [(.int .i64 ((W : Int))), (.int .i64 ((H : Int))), (.slice (some ⟨b, o, none⟩) n cap)], 32, true⟩]) rfl rfl rfl T.sz32 rfl rfl rfl rfl) (fun _ _ => ?_)
  refine GL.val (v := (.int .i64 0)) (Ex.assign rfl) (by decide) ?_
  refine GL.nil ?_
  refine GE.thenN ?_
  refine GC.seq ?_
  refine GC.region ?_
  refine GL.val (v := (.agg #[(.int .i64 ((W : Int))), (.int .i64 ((H : Int))), (.slice (some ⟨b, o, none⟩) n cap)])) (Ex.loadA rfl T.ag32 T.sz32 (i := 22) rfl (vs := [(.int .i64 ((W : Int))), (.int .i64 ((H : Int))), (.slice (some ⟨b, o, none⟩) n cap)]) rfl rfl) (by decide) ?_
  refine GL.val (v := (.int .i64 (a1.tmod 1000))) (Ex.move rfl) (by decide) ?_
  refine GL.val (v := (.int .i64 (4 * (a1.tmod 1000)))) (Ex.mul rfl rfl (Z := 4 * (a1.tmod 1000)) (w64 (by omega))) (by decide) ?_
  refine GL.step (Stp.callR (σ := Nat) (p := fun rz => True) (v := fun rz => (.tuple #[(.agg #[(.int .i64 (((tW ((rst (4 * (a1.tmod 1000)) 4).toNat) W H : Nat) : Int))), (.int .i64 (((tH ((rst (4 * (a1.tmod 1000)) 4).toNat) W H : Nat) : Int))), (.slice (some ⟨rz, 0, none⟩) ((tW ((rst (4 * (a1.tmod 1000)) 4).toNat) W H) * (tH ((rst (4 * (a1.tmod 1000)) 4).toNat) W H)) ((tW ((rst (4 * (a1.tmod 1000)) 4).toNat) W H) * (tH ((rst (4 * (a1.tmod 1000)) 4).toNat) W H)))]), (.int .i64 0)])) (N := fun rz => [⟨rz, (trn ((rst (4 * (a1.tmod 1000)) 4).toNat) xs W H).map u32, 72, true⟩]) (vs := [(.agg #[(.int .i64 ((W : Int))), (.int .i64 ((H : Int))), (.slice (some ⟨b, o, none⟩) n cap)]), (.int .i64 (4 * (a1.tmod 1000)))]) rfl rfl T.own33 (by decide) (fun wc hw => (turn_any W H n cap b o xs (4 * (a1.tmod 1000)) ((rst (4 * (a1.tmod 1000)) 4).toNat) wc hok hn hx (hw.rd hr (fun x => x)) (rst4 (4 * (a1.tmod 1000))).2 (rst4 (4 * (a1.tmod 1000))).1))) (fun xq41 hq42 => ?_)
  refine GL.val (v := (.tuple #[(.agg #[(.int .i64 (((tW ((rst (4 * (a1.tmod 1000)) 4).toNat) W H : Nat) : Int))), (.int .i64 (((tH ((rst (4 * (a1.tmod 1000)) 4).toNat) W H : Nat) : Int))), (.slice (some ⟨xq41, 0, none⟩) ((tW ((rst (4 * (a1.tmod 1000)) 4).toNat) W H) * (tH ((rst (4 * (a1.tmod 1000)) 4).toNat) W H)) ((tW ((rst (4 * (a1.tmod 1000)) 4).toNat) W H) * (tH ((rst (4 * (a1.tmod 1000)) 4).toNat) W H)))]), (.int .i64 0)])) (Ex.move rfl) (by decide) ?_
  refine GL.val (v := (.agg #[(.int .i64 (((tW ((rst (4 * (a1.tmod 1000)) 4).toNat) W H : Nat) : Int))), (.int .i64 (((tH ((rst (4 * (a1.tmod 1000)) 4).toNat) W H : Nat) : Int))), (.slice (some ⟨xq41, 0, none⟩) ((tW ((rst (4 * (a1.tmod 1000)) 4).toNat) W H) * (tH ((rst (4 * (a1.tmod 1000)) 4).toNat) W H)) ((tW ((rst (4 * (a1.tmod 1000)) 4).toNat) W H) * (tH ((rst (4 * (a1.tmod 1000)) 4).toNat) W H)))])) (Ex.extract rfl rfl) (by decide) ?_
  refine GL.val (v := (.int .i64 0)) (Ex.extract rfl rfl) (by decide) ?_
  refine GL.step (Stp.alloc T.zr32 (by decide)) (fun bq43 _ => ?_)
  refine GL.step (Stp.storeL (i := 0) (L1 := [⟨bq43, [(.int .i64 (((tW ((rst (4 * (a1.tmod 1000)) 4).toNat) W H : Nat) : Int))), (.int .i64 (((tH ((rst (4 * (a1.tmod 1000)) 4).toNat) W H : Nat) : Int))), (.slice (some ⟨xq41, 0, none⟩) ((tW ((rst (4 * (a1.tmod 1000)) 4).toNat) W H) * (tH ((rst (4 * (a1.tmod 1000)) 4).toNat) W H)) ((tW ((rst (4 * (a1.tmod 1000)) 4).toNat) W H) * (tH ((rst (4 * (a1.tmod 1000)) 4).toNat) W H)))], 32, true⟩, ⟨xq41, (trn ((rst (4 * (a1.tmod 1000)) 4).toNat) xs W H).map u32, 72, true⟩, ⟨bq40, [(.int .i64 (((tW ((rst ((a1.tmod 1000) + (b1.tmod 1000)) 4).toNat) W H : Nat) : Int))), (.int .i64 (((tH ((rst ((a1.tmod 1000) + (b1.tmod 1000)) 4).toNat) W H : Nat) : Int))), (.slice (some ⟨xq38, 0, none⟩) ((tW ((rst ((a1.tmod 1000) + (b1.tmod 1000)) 4).toNat) W H) * (tH ((rst ((a1.tmod 1000) + (b1.tmod 1000)) 4).toNat) W H)) ((tW ((rst ((a1.tmod 1000) + (b1.tmod 1000)) 4).toNat) W H) * (tH ((rst ((a1.tmod 1000) + (b1.tmod 1000)) 4).toNat) W H)))], 32, true⟩, ⟨xq38, (trn ((rst ((a1.tmod 1000) + (b1.tmod 1000)) 4).toNat) xs W H).map u32, 72, true⟩, ⟨bq37, [(.int .i64 (((tW ((rst (b1.tmod 1000) 4).toNat) (tW ((rst (a1.tmod 1000) 4).toNat) W H) (tH ((rst (a1.tmod 1000) 4).toNat) W H) : Nat) : Int))), (.int .i64 (((tH ((rst (b1.tmod 1000) 4).toNat) (tW ((rst (a1.tmod 1000) 4).toNat) W H) (tH ((rst (a1.tmod 1000) 4).toNat) W H) : Nat) : Int))), (.slice (some ⟨xq35, 0, none⟩) ((tW ((rst (b1.tmod 1000) 4).toNat) (tW ((rst (a1.tmod 1000) 4).toNat) W H) (tH ((rst (a1.tmod 1000) 4).toNat) W H)) * (tH ((rst (b1.tmod 1000) 4).toNat) (tW ((rst (a1.tmod 1000) 4).toNat) W H) (tH ((rst (a1.tmod 1000) 4).toNat) W H))) ((tW ((rst (b1.tmod 1000) 4).toNat) (tW ((rst (a1.tmod 1000) 4).toNat) W H) (tH ((rst (a1.tmod 1000) 4).toNat) W H)) * (tH ((rst (b1.tmod 1000) 4).toNat) (tW ((rst (a1.tmod 1000) 4).toNat) W H) (tH ((rst (a1.tmod 1000) 4).toNat) W H))))], 32, true⟩, ⟨xq35, (trn ((rst (b1.tmod 1000) 4).toNat) (trn ((rst (a1.tmod 1000) 4).toNat) xs W H) (tW ((rst (a1.tmod 1000) 4).toNat) W H) (tH ((rst (a1.tmod 1000) 4).toNat) W H)).map u32, 72, true⟩, ⟨bq34, [(.int .i64 (((tW ((rst (a1.tmod 1000) 4).toNat) W H : Nat) : Int))), (.int .i64 (((tH ((rst (a1.tmod 1000) 4).toNat) W H : Nat) : Int))), (.slice (some ⟨xq32, 0, none⟩) ((tW ((rst (a1.tmod 1000) 4).toNat) W H) * (tH ((rst (a1.tmod 1000) 4).toNat) W H)) ((tW ((rst (a1.tmod 1000) 4).toNat) W H) * (tH ((rst (a1.tmod 1000) 4).toNat) W H)))], 32, true⟩, ⟨xq32, (trn ((rst (a1.tmod 1000) 4).toNat) xs W H).map u32, 72, true⟩, ⟨bq31, [(.int .i64 (((H : Nat) : Int))), (.int .i64 (((W : Nat) : Int))), (.slice (some ⟨xq29, 0, none⟩) (H * W) (H * W))], 32, true⟩, ⟨xq29, (flT (trp xs W H) H W).map u32, 72, true⟩, ⟨bq28, [(.int .i64 (((tW 1 W H : Nat) : Int))), (.int .i64 (((tH 1 W H : Nat) : Int))), (.slice (some ⟨xq26, 0, none⟩) ((tW 1 W H) * (tH 1 W H)) ((tW 1 W H) * (tH 1 W H)))], 32, true⟩, ⟨xq26, (trn 1 xs W H).map u32, 72, true⟩, ⟨bq25, [(.int .i64 (((W : Nat) : Int))), (.int .i64 (((H : Nat) : Int))), (.slice (some ⟨xq23, 0, none⟩) (W * H) (W * H))], 32, true⟩, ⟨xq23, (trp (trp xs W H) H W).map u32, 72, true⟩, ⟨bq22, [(.int .i64 (((H : Nat) : Int))), (.int .i64 (((W : Nat) : Int))), (.slice (some ⟨xq20, 0, none⟩) (H * W) (H * W))], 32, true⟩, ⟨xq20, (trp xs W H).map u32, 72, true⟩, ⟨bq19, [(.int .i64 (((W : Nat) : Int))), (.int .i64 (((H : Nat) : Int))), (.slice (some ⟨xq17, 0, none⟩) (W * H) (W * H))], 32, true⟩, ⟨xq17, (flF (flF xs W H) W H).map u32, 72, true⟩, ⟨bq16, [(.int .i64 (((W : Nat) : Int))), (.int .i64 (((H : Nat) : Int))), (.slice (some ⟨xq14, 0, none⟩) (W * H) (W * H))], 32, true⟩, ⟨xq14, (flF xs W H).map u32, 72, true⟩, ⟨bq13, [(.int .i64 (((W : Nat) : Int))), (.int .i64 (((H : Nat) : Int))), (.slice (some ⟨xq11, 0, none⟩) (W * H) (W * H))], 32, true⟩, ⟨xq11, (flT (flT xs W H) W H).map u32, 72, true⟩, ⟨bq10, [(.int .i64 (((W : Nat) : Int))), (.int .i64 (((H : Nat) : Int))), (.slice (some ⟨xq8, 0, none⟩) (W * H) (W * H))], 32, true⟩, ⟨xq8, (flT xs W H).map u32, 72, true⟩, ⟨bq1, [(.int .i64 ((W : Int))), (.int .i64 ((H : Int))), (.slice (some ⟨b, o, none⟩) n cap)], 32, true⟩]) rfl rfl rfl T.sz32 rfl rfl rfl rfl) (fun _ _ => ?_)
  refine GL.val (v := (.int .i64 0)) (Ex.assign rfl) (by decide) ?_
  refine GL.nil ?_
  refine GE.thenN ?_
  refine GC.seq ?_
  refine GC.region ?_
  refine GL.val (v := (.agg #[(.int .i64 (((W : Nat) : Int))), (.int .i64 (((H : Nat) : Int))), (.slice (some ⟨xq8, 0, none⟩) (W * H) (W * H))])) (Ex.loadA rfl T.ag32 T.sz32 (i := 22) rfl (vs := [(.int .i64 (((W : Nat) : Int))), (.int .i64 (((H : Nat) : Int))), (.slice (some ⟨xq8, 0, none⟩) (W * H) (W * H))]) rfl rfl) (by decide) ?_
  refine GL.step (Stp.callR (σ := Nat) (p := fun rz => True) (v := fun rz => (.tuple #[(.agg #[(.int .i64 (((W : Nat) : Int))), (.int .i64 (((H : Nat) : Int))), (.slice (some ⟨rz, 0, none⟩) (W * H) (W * H))]), (.int .i64 0)])) (N := fun rz => [⟨rz, (flF (flT xs W H) W H).map u32, 72, true⟩]) (vs := [(.agg #[(.int .i64 (((W : Nat) : Int))), (.int .i64 (((H : Nat) : Int))), (.slice (some ⟨xq8, 0, none⟩) (W * H) (W * H))]), (.bool false)]) rfl rfl T.own29 (by decide) (fun wc hw => (flipF W H (W * H) (W * H) xq8 0 (flT xs W H)  wc (show okP W H from hok) rfl flT_len (hw.rdOf (i := 23) rfl 0) ))) (fun xq44 hq45 => ?_)
  refine GL.val (v := (.tuple #[(.agg #[(.int .i64 (((W : Nat) : Int))), (.int .i64 (((H : Nat) : Int))), (.slice (some ⟨xq44, 0, none⟩) (W * H) (W * H))]), (.int .i64 0)])) (Ex.move rfl) (by decide) ?_
  refine GL.val (v := (.agg #[(.int .i64 (((W : Nat) : Int))), (.int .i64 (((H : Nat) : Int))), (.slice (some ⟨xq44, 0, none⟩) (W * H) (W * H))])) (Ex.extract rfl rfl) (by decide) ?_
  refine GL.val (v := (.int .i64 0)) (Ex.extract rfl rfl) (by decide) ?_
  refine GL.step (Stp.alloc T.zr32 (by decide)) (fun bq46 _ => ?_)
  refine GL.step (Stp.storeL (i := 0) (L1 := [⟨bq46, [(.int .i64 (((W : Nat) : Int))), (.int .i64 (((H : Nat) : Int))), (.slice (some ⟨xq44, 0, none⟩) (W * H) (W * H))], 32, true⟩, ⟨xq44, (flF (flT xs W H) W H).map u32, 72, true⟩, ⟨bq43, [(.int .i64 (((tW ((rst (4 * (a1.tmod 1000)) 4).toNat) W H : Nat) : Int))), (.int .i64 (((tH ((rst (4 * (a1.tmod 1000)) 4).toNat) W H : Nat) : Int))), (.slice (some ⟨xq41, 0, none⟩) ((tW ((rst (4 * (a1.tmod 1000)) 4).toNat) W H) * (tH ((rst (4 * (a1.tmod 1000)) 4).toNat) W H)) ((tW ((rst (4 * (a1.tmod 1000)) 4).toNat) W H) * (tH ((rst (4 * (a1.tmod 1000)) 4).toNat) W H)))], 32, true⟩, ⟨xq41, (trn ((rst (4 * (a1.tmod 1000)) 4).toNat) xs W H).map u32, 72, true⟩, ⟨bq40, [(.int .i64 (((tW ((rst ((a1.tmod 1000) + (b1.tmod 1000)) 4).toNat) W H : Nat) : Int))), (.int .i64 (((tH ((rst ((a1.tmod 1000) + (b1.tmod 1000)) 4).toNat) W H : Nat) : Int))), (.slice (some ⟨xq38, 0, none⟩) ((tW ((rst ((a1.tmod 1000) + (b1.tmod 1000)) 4).toNat) W H) * (tH ((rst ((a1.tmod 1000) + (b1.tmod 1000)) 4).toNat) W H)) ((tW ((rst ((a1.tmod 1000) + (b1.tmod 1000)) 4).toNat) W H) * (tH ((rst ((a1.tmod 1000) + (b1.tmod 1000)) 4).toNat) W H)))], 32, true⟩, ⟨xq38, (trn ((rst ((a1.tmod 1000) + (b1.tmod 1000)) 4).toNat) xs W H).map u32, 72, true⟩, ⟨bq37, [(.int .i64 (((tW ((rst (b1.tmod 1000) 4).toNat) (tW ((rst (a1.tmod 1000) 4).toNat) W H) (tH ((rst (a1.tmod 1000) 4).toNat) W H) : Nat) : Int))), (.int .i64 (((tH ((rst (b1.tmod 1000) 4).toNat) (tW ((rst (a1.tmod 1000) 4).toNat) W H) (tH ((rst (a1.tmod 1000) 4).toNat) W H) : Nat) : Int))), (.slice (some ⟨xq35, 0, none⟩) ((tW ((rst (b1.tmod 1000) 4).toNat) (tW ((rst (a1.tmod 1000) 4).toNat) W H) (tH ((rst (a1.tmod 1000) 4).toNat) W H)) * (tH ((rst (b1.tmod 1000) 4).toNat) (tW ((rst (a1.tmod 1000) 4).toNat) W H) (tH ((rst (a1.tmod 1000) 4).toNat) W H))) ((tW ((rst (b1.tmod 1000) 4).toNat) (tW ((rst (a1.tmod 1000) 4).toNat) W H) (tH ((rst (a1.tmod 1000) 4).toNat) W H)) * (tH ((rst (b1.tmod 1000) 4).toNat) (tW ((rst (a1.tmod 1000) 4).toNat) W H) (tH ((rst (a1.tmod 1000) 4).toNat) W H))))], 32, true⟩, ⟨xq35, (trn ((rst (b1.tmod 1000) 4).toNat) (trn ((rst (a1.tmod 1000) 4).toNat) xs W H) (tW ((rst (a1.tmod 1000) 4).toNat) W H) (tH ((rst (a1.tmod 1000) 4).toNat) W H)).map u32, 72, true⟩, ⟨bq34, [(.int .i64 (((tW ((rst (a1.tmod 1000) 4).toNat) W H : Nat) : Int))), (.int .i64 (((tH ((rst (a1.tmod 1000) 4).toNat) W H : Nat) : Int))), (.slice (some ⟨xq32, 0, none⟩) ((tW ((rst (a1.tmod 1000) 4).toNat) W H) * (tH ((rst (a1.tmod 1000) 4).toNat) W H)) ((tW ((rst (a1.tmod 1000) 4).toNat) W H) * (tH ((rst (a1.tmod 1000) 4).toNat) W H)))], 32, true⟩, ⟨xq32, (trn ((rst (a1.tmod 1000) 4).toNat) xs W H).map u32, 72, true⟩, ⟨bq31, [(.int .i64 (((H : Nat) : Int))), (.int .i64 (((W : Nat) : Int))), (.slice (some ⟨xq29, 0, none⟩) (H * W) (H * W))], 32, true⟩, ⟨xq29, (flT (trp xs W H) H W).map u32, 72, true⟩, ⟨bq28, [(.int .i64 (((tW 1 W H : Nat) : Int))), (.int .i64 (((tH 1 W H : Nat) : Int))), (.slice (some ⟨xq26, 0, none⟩) ((tW 1 W H) * (tH 1 W H)) ((tW 1 W H) * (tH 1 W H)))], 32, true⟩, ⟨xq26, (trn 1 xs W H).map u32, 72, true⟩, ⟨bq25, [(.int .i64 (((W : Nat) : Int))), (.int .i64 (((H : Nat) : Int))), (.slice (some ⟨xq23, 0, none⟩) (W * H) (W * H))], 32, true⟩, ⟨xq23, (trp (trp xs W H) H W).map u32, 72, true⟩, ⟨bq22, [(.int .i64 (((H : Nat) : Int))), (.int .i64 (((W : Nat) : Int))), (.slice (some ⟨xq20, 0, none⟩) (H * W) (H * W))], 32, true⟩, ⟨xq20, (trp xs W H).map u32, 72, true⟩, ⟨bq19, [(.int .i64 (((W : Nat) : Int))), (.int .i64 (((H : Nat) : Int))), (.slice (some ⟨xq17, 0, none⟩) (W * H) (W * H))], 32, true⟩, ⟨xq17, (flF (flF xs W H) W H).map u32, 72, true⟩, ⟨bq16, [(.int .i64 (((W : Nat) : Int))), (.int .i64 (((H : Nat) : Int))), (.slice (some ⟨xq14, 0, none⟩) (W * H) (W * H))], 32, true⟩, ⟨xq14, (flF xs W H).map u32, 72, true⟩, ⟨bq13, [(.int .i64 (((W : Nat) : Int))), (.int .i64 (((H : Nat) : Int))), (.slice (some ⟨xq11, 0, none⟩) (W * H) (W * H))], 32, true⟩, ⟨xq11, (flT (flT xs W H) W H).map u32, 72, true⟩, ⟨bq10, [(.int .i64 (((W : Nat) : Int))), (.int .i64 (((H : Nat) : Int))), (.slice (some ⟨xq8, 0, none⟩) (W * H) (W * H))], 32, true⟩, ⟨xq8, (flT xs W H).map u32, 72, true⟩, ⟨bq1, [(.int .i64 ((W : Int))), (.int .i64 ((H : Int))), (.slice (some ⟨b, o, none⟩) n cap)], 32, true⟩]) rfl rfl rfl T.sz32 rfl rfl rfl rfl) (fun _ _ => ?_)
  refine GL.val (v := (.int .i64 0)) (Ex.assign rfl) (by decide) ?_
  refine GL.nil ?_
  refine GE.thenN ?_
  refine GC.seq ?_
  refine GC.region ?_
  refine GL.val (v := (.agg #[(.int .i64 ((W : Int))), (.int .i64 ((H : Int))), (.slice (some ⟨b, o, none⟩) n cap)])) (Ex.loadA rfl T.ag32 T.sz32 (i := 26) rfl (vs := [(.int .i64 ((W : Int))), (.int .i64 ((H : Int))), (.slice (some ⟨b, o, none⟩) n cap)]) rfl rfl) (by decide) ?_
  refine GL.step (Stp.callR (σ := Nat) (p := fun rz => True) (v := fun rz => (.tuple #[(.agg #[(.int .i64 (((tW 2 W H : Nat) : Int))), (.int .i64 (((tH 2 W H : Nat) : Int))), (.slice (some ⟨rz, 0, none⟩) ((tW 2 W H) * (tH 2 W H)) ((tW 2 W H) * (tH 2 W H)))]), (.int .i64 0)])) (N := fun rz => [⟨rz, (trn 2 xs W H).map u32, 72, true⟩]) (vs := [(.agg #[(.int .i64 ((W : Int))), (.int .i64 ((H : Int))), (.slice (some ⟨b, o, none⟩) n cap)]), (.int .i64 2)]) rfl rfl T.own33 (by decide) (fun wc hw => (turn_any W H n cap b o xs 2 2 wc hok hn hx (hw.rd hr (fun x => x)) (by decide) (by decide)))) (fun xq47 hq48 => ?_)
  refine GL.val (v := (.tuple #[(.agg #[(.int .i64 (((tW 2 W H : Nat) : Int))), (.int .i64 (((tH 2 W H : Nat) : Int))), (.slice (some ⟨xq47, 0, none⟩) ((tW 2 W H) * (tH 2 W H)) ((tW 2 W H) * (tH 2 W H)))]), (.int .i64 0)])) (Ex.move rfl) (by decide) ?_
  refine GL.val (v := (.agg #[(.int .i64 (((tW 2 W H : Nat) : Int))), (.int .i64 (((tH 2 W H : Nat) : Int))), (.slice (some ⟨xq47, 0, none⟩) ((tW 2 W H) * (tH 2 W H)) ((tW 2 W H) * (tH 2 W H)))])) (Ex.extract rfl rfl) (by decide) ?_
  refine GL.val (v := (.int .i64 0)) (Ex.extract rfl rfl) (by decide) ?_
  refine GL.step (Stp.alloc T.zr32 (by decide)) (fun bq49 _ => ?_)
  refine GL.step (Stp.storeL (i := 0) (L1 := [⟨bq49, [(.int .i64 (((tW 2 W H : Nat) : Int))), (.int .i64 (((tH 2 W H : Nat) : Int))), (.slice (some ⟨xq47, 0, none⟩) ((tW 2 W H) * (tH 2 W H)) ((tW 2 W H) * (tH 2 W H)))], 32, true⟩, ⟨xq47, (trn 2 xs W H).map u32, 72, true⟩, ⟨bq46, [(.int .i64 (((W : Nat) : Int))), (.int .i64 (((H : Nat) : Int))), (.slice (some ⟨xq44, 0, none⟩) (W * H) (W * H))], 32, true⟩, ⟨xq44, (flF (flT xs W H) W H).map u32, 72, true⟩, ⟨bq43, [(.int .i64 (((tW ((rst (4 * (a1.tmod 1000)) 4).toNat) W H : Nat) : Int))), (.int .i64 (((tH ((rst (4 * (a1.tmod 1000)) 4).toNat) W H : Nat) : Int))), (.slice (some ⟨xq41, 0, none⟩) ((tW ((rst (4 * (a1.tmod 1000)) 4).toNat) W H) * (tH ((rst (4 * (a1.tmod 1000)) 4).toNat) W H)) ((tW ((rst (4 * (a1.tmod 1000)) 4).toNat) W H) * (tH ((rst (4 * (a1.tmod 1000)) 4).toNat) W H)))], 32, true⟩, ⟨xq41, (trn ((rst (4 * (a1.tmod 1000)) 4).toNat) xs W H).map u32, 72, true⟩, ⟨bq40, [(.int .i64 (((tW ((rst ((a1.tmod 1000) + (b1.tmod 1000)) 4).toNat) W H : Nat) : Int))), (.int .i64 (((tH ((rst ((a1.tmod 1000) + (b1.tmod 1000)) 4).toNat) W H : Nat) : Int))), (.slice (some ⟨xq38, 0, none⟩) ((tW ((rst ((a1.tmod 1000) + (b1.tmod 1000)) 4).toNat) W H) * (tH ((rst ((a1.tmod 1000) + (b1.tmod 1000)) 4).toNat) W H)) ((tW ((rst ((a1.tmod 1000) + (b1.tmod 1000)) 4).toNat) W H) * (tH ((rst ((a1.tmod 1000) + (b1.tmod 1000)) 4).toNat) W H)))], 32, true⟩, ⟨xq38, (trn ((rst ((a1.tmod 1000) + (b1.tmod 1000)) 4).toNat) xs W H).map u32, 72, true⟩, ⟨bq37, [(.int .i64 (((tW ((rst (b1.tmod 1000) 4).toNat) (tW ((rst (a1.tmod 1000) 4).toNat) W H) (tH ((rst (a1.tmod 1000) 4).toNat) W H) : Nat) : Int))), (.int .i64 (((tH ((rst (b1.tmod 1000) 4).toNat) (tW ((rst (a1.tmod 1000) 4).toNat) W H) (tH ((rst (a1.tmod 1000) 4).toNat) W H) : Nat) : Int))), (.slice (some ⟨xq35, 0, none⟩) ((tW ((rst (b1.tmod 1000) 4).toNat) (tW ((rst (a1.tmod 1000) 4).toNat) W H) (tH ((rst (a1.tmod 1000) 4).toNat) W H)) * (tH ((rst (b1.tmod 1000) 4).toNat) (tW ((rst (a1.tmod 1000) 4).toNat) W H) (tH ((rst (a1.tmod 1000) 4).toNat) W H))) ((tW ((rst (b1.tmod 1000) 4).toNat) (tW ((rst (a1.tmod 1000) 4).toNat) W H) (tH ((rst (a1.tmod 1000) 4).toNat) W H)) * (tH ((rst (b1.tmod 1000) 4).toNat) (tW ((rst (a1.tmod 1000) 4).toNat) W H) (tH ((rst (a1.tmod 1000) 4).toNat) W H))))], 32, true⟩, ⟨xq35, (trn ((rst (b1.tmod 1000) 4).toNat) (trn ((rst (a1.tmod 1000) 4).toNat) xs W H) (tW ((rst (a1.tmod 1000) 4).toNat) W H) (tH ((rst (a1.tmod 1000) 4).toNat) W H)).map u32, 72, true⟩, ⟨bq34, [(.int .i64 (((tW ((rst (a1.tmod 1000) 4).toNat) W H : Nat) : Int))), (.int .i64 (((tH ((rst (a1.tmod 1000) 4).toNat) W H : Nat) : Int))), (.slice (some ⟨xq32, 0, none⟩) ((tW ((rst (a1.tmod 1000) 4).toNat) W H) * (tH ((rst (a1.tmod 1000) 4).toNat) W H)) ((tW ((rst (a1.tmod 1000) 4).toNat) W H) * (tH ((rst (a1.tmod 1000) 4).toNat) W H)))], 32, true⟩, ⟨xq32, (trn ((rst (a1.tmod 1000) 4).toNat) xs W H).map u32, 72, true⟩, ⟨bq31, [(.int .i64 (((H : Nat) : Int))), (.int .i64 (((W : Nat) : Int))), (.slice (some ⟨xq29, 0, none⟩) (H * W) (H * W))], 32, true⟩, ⟨xq29, (flT (trp xs W H) H W).map u32, 72, true⟩, ⟨bq28, [(.int .i64 (((tW 1 W H : Nat) : Int))), (.int .i64 (((tH 1 W H : Nat) : Int))), (.slice (some ⟨xq26, 0, none⟩) ((tW 1 W H) * (tH 1 W H)) ((tW 1 W H) * (tH 1 W H)))], 32, true⟩, ⟨xq26, (trn 1 xs W H).map u32, 72, true⟩, ⟨bq25, [(.int .i64 (((W : Nat) : Int))), (.int .i64 (((H : Nat) : Int))), (.slice (some ⟨xq23, 0, none⟩) (W * H) (W * H))], 32, true⟩, ⟨xq23, (trp (trp xs W H) H W).map u32, 72, true⟩, ⟨bq22, [(.int .i64 (((H : Nat) : Int))), (.int .i64 (((W : Nat) : Int))), (.slice (some ⟨xq20, 0, none⟩) (H * W) (H * W))], 32, true⟩, ⟨xq20, (trp xs W H).map u32, 72, true⟩, ⟨bq19, [(.int .i64 (((W : Nat) : Int))), (.int .i64 (((H : Nat) : Int))), (.slice (some ⟨xq17, 0, none⟩) (W * H) (W * H))], 32, true⟩, ⟨xq17, (flF (flF xs W H) W H).map u32, 72, true⟩, ⟨bq16, [(.int .i64 (((W : Nat) : Int))), (.int .i64 (((H : Nat) : Int))), (.slice (some ⟨xq14, 0, none⟩) (W * H) (W * H))], 32, true⟩, ⟨xq14, (flF xs W H).map u32, 72, true⟩, ⟨bq13, [(.int .i64 (((W : Nat) : Int))), (.int .i64 (((H : Nat) : Int))), (.slice (some ⟨xq11, 0, none⟩) (W * H) (W * H))], 32, true⟩, ⟨xq11, (flT (flT xs W H) W H).map u32, 72, true⟩, ⟨bq10, [(.int .i64 (((W : Nat) : Int))), (.int .i64 (((H : Nat) : Int))), (.slice (some ⟨xq8, 0, none⟩) (W * H) (W * H))], 32, true⟩, ⟨xq8, (flT xs W H).map u32, 72, true⟩, ⟨bq1, [(.int .i64 ((W : Int))), (.int .i64 ((H : Int))), (.slice (some ⟨b, o, none⟩) n cap)], 32, true⟩]) rfl rfl rfl T.sz32 rfl rfl rfl rfl) (fun _ _ => ?_)
  refine GL.val (v := (.int .i64 0)) (Ex.assign rfl) (by decide) ?_
  refine GL.nil ?_
  refine GE.thenN ?_
  refine GC.seq ?_
  refine GC.region ?_
  refine GL.val (v := (.agg #[(.int .i64 (((W : Nat) : Int))), (.int .i64 (((H : Nat) : Int))), (.slice (some ⟨xq11, 0, none⟩) (W * H) (W * H))])) (Ex.loadA rfl T.ag32 T.sz32 (i := 24) rfl (vs := [(.int .i64 (((W : Nat) : Int))), (.int .i64 (((H : Nat) : Int))), (.slice (some ⟨xq11, 0, none⟩) (W * H) (W * H))]) rfl rfl) (by decide) ?_
  refine GL.val (v := (.agg #[(.int .i64 ((W : Int))), (.int .i64 ((H : Int))), (.slice (some ⟨b, o, none⟩) n cap)])) (Ex.loadA rfl T.ag32 T.sz32 (i := 28) rfl (vs := [(.int .i64 ((W : Int))), (.int .i64 ((H : Int))), (.slice (some ⟨b, o, none⟩) n cap)]) rfl rfl) (by decide) ?_
  refine GL.step (Stp.callR (σ := Unit) (p := fun rz => True) (v := fun rz => (.bool true)) (N := fun rz => []) (vs := [(.agg #[(.int .i64 (((W : Nat) : Int))), (.int .i64 (((H : Nat) : Int))), (.slice (some ⟨xq11, 0, none⟩) (W * H) (W * H))]), (.agg #[(.int .i64 ((W : Int))), (.int .i64 ((H : Int))), (.slice (some ⟨b, o, none⟩) n cap)])]) rfl rfl T.own26 (by decide) (fun wc hw => (by have h := ref_eq (((W : Nat) : Int)) (((H : Nat) : Int)) ((W : Int)) ((H : Int)) xq11 0 (W * H) (W * H) b o n cap (flT (flT xs W H) W H) xs wc flT_len hx (hw.rdOf (i := 25) rfl 0) (hw.rd hr (fun x => x)) (by have h' := ((show okP W H from (show okP W H from hok))).2.2.2.2; omega); rw [show eqB (((W : Nat) : Int)) (((H : Nat) : Int)) (flT (flT xs W H) W H) ((W : Int)) ((H : Int)) xs = true from eqB_self rfl rfl (flT_two hx')] at h; exact h))) (fun xq50 hq51 => ?_)
  refine GL.val (v := (.bool true)) (Ex.move rfl) (by decide) ?_
  refine GL.stepG (tj := 128) rfl rfl (Ex.wp (v := (.agg #[(.int .i64 (((W : Nat) : Int))), (.int .i64 (((H : Nat) : Int))), (.slice (some ⟨xq17, 0, none⟩) (W * H) (W * H))])) (Ex.loadA rfl T.ag32 T.sz32 (i := 20) rfl (vs := [(.int .i64 (((W : Nat) : Int))), (.int .i64 (((H : Nat) : Int))), (.slice (some ⟨xq17, 0, none⟩) (W * H) (W * H))]) rfl rfl) (by decide)) (fun _ _ => ?_)
  refine GL.stepG (tj := 128) rfl rfl (Ex.wp (v := (.agg #[(.int .i64 ((W : Int))), (.int .i64 ((H : Int))), (.slice (some ⟨b, o, none⟩) n cap)])) (Ex.loadA rfl T.ag32 T.sz32 (i := 28) rfl (vs := [(.int .i64 ((W : Int))), (.int .i64 ((H : Int))), (.slice (some ⟨b, o, none⟩) n cap)]) rfl rfl) (by decide)) (fun _ _ => ?_)
  refine GL.stepG (tj := 128) rfl rfl (Stp.callR (σ := Unit) (p := fun rz => True) (v := fun rz => (.bool true)) (N := fun rz => []) (vs := [(.agg #[(.int .i64 (((W : Nat) : Int))), (.int .i64 (((H : Nat) : Int))), (.slice (some ⟨xq17, 0, none⟩) (W * H) (W * H))]), (.agg #[(.int .i64 ((W : Int))), (.int .i64 ((H : Int))), (.slice (some ⟨b, o, none⟩) n cap)])]) rfl rfl T.own26 (by decide) (fun wc hw => (by have h := ref_eq (((W : Nat) : Int)) (((H : Nat) : Int)) ((W : Int)) ((H : Int)) xq17 0 (W * H) (W * H) b o n cap (flF (flF xs W H) W H) xs wc flF_len hx (hw.rdOf (i := 21) rfl 0) (hw.rd hr (fun x => x)) (by have h' := ((show okP W H from (show okP W H from hok))).2.2.2.2; omega); rw [show eqB (((W : Nat) : Int)) (((H : Nat) : Int)) (flF (flF xs W H) W H) ((W : Int)) ((H : Int)) xs = true from eqB_self rfl rfl (flF_two hx')] at h; exact h))) (fun xq52 hq53 => ?_)
  refine GL.val (v := (.bool true)) (Ex.pickT rfl rfl) (by decide) ?_
  refine GL.val (v := (.bool true)) (Ex.move rfl) (by decide) ?_
  refine GL.stepG (tj := 133) rfl rfl (Ex.wp (v := (.agg #[(.int .i64 (((W : Nat) : Int))), (.int .i64 (((H : Nat) : Int))), (.slice (some ⟨xq23, 0, none⟩) (W * H) (W * H))])) (Ex.loadA rfl T.ag32 T.sz32 (i := 16) rfl (vs := [(.int .i64 (((W : Nat) : Int))), (.int .i64 (((H : Nat) : Int))), (.slice (some ⟨xq23, 0, none⟩) (W * H) (W * H))]) rfl rfl) (by decide)) (fun _ _ => ?_)
  refine GL.stepG (tj := 133) rfl rfl (Ex.wp (v := (.agg #[(.int .i64 ((W : Int))), (.int .i64 ((H : Int))), (.slice (some ⟨b, o, none⟩) n cap)])) (Ex.loadA rfl T.ag32 T.sz32 (i := 28) rfl (vs := [(.int .i64 ((W : Int))), (.int .i64 ((H : Int))), (.slice (some ⟨b, o, none⟩) n cap)]) rfl rfl) (by decide)) (fun _ _ => ?_)
  refine GL.stepG (tj := 133) rfl rfl (Stp.callR (σ := Unit) (p := fun rz => True) (v := fun rz => (.bool true)) (N := fun rz => []) (vs := [(.agg #[(.int .i64 (((W : Nat) : Int))), (.int .i64 (((H : Nat) : Int))), (.slice (some ⟨xq23, 0, none⟩) (W * H) (W * H))]), (.agg #[(.int .i64 ((W : Int))), (.int .i64 ((H : Int))), (.slice (some ⟨b, o, none⟩) n cap)])]) rfl rfl T.own26 (by decide) (fun wc hw => (by have h := ref_eq (((W : Nat) : Int)) (((H : Nat) : Int)) ((W : Int)) ((H : Int)) xq23 0 (W * H) (W * H) b o n cap (trp (trp xs W H) H W) xs wc trp_len hx (hw.rdOf (i := 17) rfl 0) (hw.rd hr (fun x => x)) (by have h' := ((show okP W H from (okP.swap (show okP H W from (okP.swap hok))))).2.2.2.2; omega); rw [show eqB (((W : Nat) : Int)) (((H : Nat) : Int)) (trp (trp xs W H) H W) ((W : Int)) ((H : Int)) xs = true from eqB_self rfl rfl (trp_two hx')] at h; exact h))) (fun xq54 hq55 => ?_)
  refine GL.val (v := (.bool true)) (Ex.pickT rfl rfl) (by decide) ?_
  refine GL.val (v := (.bool true)) (Ex.move rfl) (by decide) ?_
  refine GL.stepG (tj := 138) rfl rfl (Ex.wp (v := (.agg #[(.int .i64 (((tW 1 W H : Nat) : Int))), (.int .i64 (((tH 1 W H : Nat) : Int))), (.slice (some ⟨xq26, 0, none⟩) ((tW 1 W H) * (tH 1 W H)) ((tW 1 W H) * (tH 1 W H)))])) (Ex.loadA rfl T.ag32 T.sz32 (i := 14) rfl (vs := [(.int .i64 (((tW 1 W H : Nat) : Int))), (.int .i64 (((tH 1 W H : Nat) : Int))), (.slice (some ⟨xq26, 0, none⟩) ((tW 1 W H) * (tH 1 W H)) ((tW 1 W H) * (tH 1 W H)))]) rfl rfl) (by decide)) (fun _ _ => ?_)
  refine GL.stepG (tj := 138) rfl rfl (Ex.wp (v := (.agg #[(.int .i64 (((H : Nat) : Int))), (.int .i64 (((W : Nat) : Int))), (.slice (some ⟨xq29, 0, none⟩) (H * W) (H * W))])) (Ex.loadA rfl T.ag32 T.sz32 (i := 12) rfl (vs := [(.int .i64 (((H : Nat) : Int))), (.int .i64 (((W : Nat) : Int))), (.slice (some ⟨xq29, 0, none⟩) (H * W) (H * W))]) rfl rfl) (by decide)) (fun _ _ => ?_)
  refine GL.stepG (tj := 138) rfl rfl (Stp.callR (σ := Unit) (p := fun rz => True) (v := fun rz => (.bool true)) (N := fun rz => []) (vs := [(.agg #[(.int .i64 (((tW 1 W H : Nat) : Int))), (.int .i64 (((tH 1 W H : Nat) : Int))), (.slice (some ⟨xq26, 0, none⟩) ((tW 1 W H) * (tH 1 W H)) ((tW 1 W H) * (tH 1 W H)))]), (.agg #[(.int .i64 (((H : Nat) : Int))), (.int .i64 (((W : Nat) : Int))), (.slice (some ⟨xq29, 0, none⟩) (H * W) (H * W))])]) rfl rfl T.own26 (by decide) (fun wc hw => (by have h := ref_eq (((tW 1 W H : Nat) : Int)) (((tH 1 W H : Nat) : Int)) (((H : Nat) : Int)) (((W : Nat) : Int)) xq26 0 ((tW 1 W H) * (tH 1 W H)) ((tW 1 W H) * (tH 1 W H)) xq29 0 (H * W) (H * W) (trn 1 xs W H) (flT (trp xs W H) H W) wc (trn_len (by first | decide | exact (rst4 _).2)) flT_len (hw.rdOf (i := 15) rfl 0) (hw.rdOf (i := 13) rfl 0) (by have h' := ((show okP (tW 1 W H) (tH 1 W H) from (okP.turn hok 1))).2.2.2.2; omega); rw [show eqB (((tW 1 W H : Nat) : Int)) (((tH 1 W H : Nat) : Int)) (trn 1 xs W H) (((H : Nat) : Int)) (((W : Nat) : Int)) (flT (trp xs W H) H W) = true from eqB_self rfl rfl trn_one] at h; exact h))) (fun xq56 hq57 => ?_)
  refine GL.val (v := (.bool true)) (Ex.pickT rfl rfl) (by decide) ?_
  refine GL.val (v := (.bool true)) (Ex.move rfl) (by decide) ?_
  refine GL.stepG (tj := 143) rfl rfl (Ex.wp (v := (.agg #[(.int .i64 (((tW ((rst (b1.tmod 1000) 4).toNat) (tW ((rst (a1.tmod 1000) 4).toNat) W H) (tH ((rst (a1.tmod 1000) 4).toNat) W H) : Nat) : Int))), (.int .i64 (((tH ((rst (b1.tmod 1000) 4).toNat) (tW ((rst (a1.tmod 1000) 4).toNat) W H) (tH ((rst (a1.tmod 1000) 4).toNat) W H) : Nat) : Int))), (.slice (some ⟨xq35, 0, none⟩) ((tW ((rst (b1.tmod 1000) 4).toNat) (tW ((rst (a1.tmod 1000) 4).toNat) W H) (tH ((rst (a1.tmod 1000) 4).toNat) W H)) * (tH ((rst (b1.tmod 1000) 4).toNat) (tW ((rst (a1.tmod 1000) 4).toNat) W H) (tH ((rst (a1.tmod 1000) 4).toNat) W H))) ((tW ((rst (b1.tmod 1000) 4).toNat) (tW ((rst (a1.tmod 1000) 4).toNat) W H) (tH ((rst (a1.tmod 1000) 4).toNat) W H)) * (tH ((rst (b1.tmod 1000) 4).toNat) (tW ((rst (a1.tmod 1000) 4).toNat) W H) (tH ((rst (a1.tmod 1000) 4).toNat) W H))))])) (Ex.loadA rfl T.ag32 T.sz32 (i := 8) rfl (vs := [(.int .i64 (((tW ((rst (b1.tmod 1000) 4).toNat) (tW ((rst (a1.tmod 1000) 4).toNat) W H) (tH ((rst (a1.tmod 1000) 4).toNat) W H) : Nat) : Int))), (.int .i64 (((tH ((rst (b1.tmod 1000) 4).toNat) (tW ((rst (a1.tmod 1000) 4).toNat) W H) (tH ((rst (a1.tmod 1000) 4).toNat) W H) : Nat) : Int))), (.slice (some ⟨xq35, 0, none⟩) ((tW ((rst (b1.tmod 1000) 4).toNat) (tW ((rst (a1.tmod 1000) 4).toNat) W H) (tH ((rst (a1.tmod 1000) 4).toNat) W H)) * (tH ((rst (b1.tmod 1000) 4).toNat) (tW ((rst (a1.tmod 1000) 4).toNat) W H) (tH ((rst (a1.tmod 1000) 4).toNat) W H))) ((tW ((rst (b1.tmod 1000) 4).toNat) (tW ((rst (a1.tmod 1000) 4).toNat) W H) (tH ((rst (a1.tmod 1000) 4).toNat) W H)) * (tH ((rst (b1.tmod 1000) 4).toNat) (tW ((rst (a1.tmod 1000) 4).toNat) W H) (tH ((rst (a1.tmod 1000) 4).toNat) W H))))]) rfl rfl) (by decide)) (fun _ _ => ?_)
  refine GL.stepG (tj := 143) rfl rfl (Ex.wp (v := (.agg #[(.int .i64 (((tW ((rst ((a1.tmod 1000) + (b1.tmod 1000)) 4).toNat) W H : Nat) : Int))), (.int .i64 (((tH ((rst ((a1.tmod 1000) + (b1.tmod 1000)) 4).toNat) W H : Nat) : Int))), (.slice (some ⟨xq38, 0, none⟩) ((tW ((rst ((a1.tmod 1000) + (b1.tmod 1000)) 4).toNat) W H) * (tH ((rst ((a1.tmod 1000) + (b1.tmod 1000)) 4).toNat) W H)) ((tW ((rst ((a1.tmod 1000) + (b1.tmod 1000)) 4).toNat) W H) * (tH ((rst ((a1.tmod 1000) + (b1.tmod 1000)) 4).toNat) W H)))])) (Ex.loadA rfl T.ag32 T.sz32 (i := 6) rfl (vs := [(.int .i64 (((tW ((rst ((a1.tmod 1000) + (b1.tmod 1000)) 4).toNat) W H : Nat) : Int))), (.int .i64 (((tH ((rst ((a1.tmod 1000) + (b1.tmod 1000)) 4).toNat) W H : Nat) : Int))), (.slice (some ⟨xq38, 0, none⟩) ((tW ((rst ((a1.tmod 1000) + (b1.tmod 1000)) 4).toNat) W H) * (tH ((rst ((a1.tmod 1000) + (b1.tmod 1000)) 4).toNat) W H)) ((tW ((rst ((a1.tmod 1000) + (b1.tmod 1000)) 4).toNat) W H) * (tH ((rst ((a1.tmod 1000) + (b1.tmod 1000)) 4).toNat) W H)))]) rfl rfl) (by decide)) (fun _ _ => ?_)
  refine GL.stepG (tj := 143) rfl rfl (Stp.callR (σ := Unit) (p := fun rz => True) (v := fun rz => (.bool true)) (N := fun rz => []) (vs := [(.agg #[(.int .i64 (((tW ((rst (b1.tmod 1000) 4).toNat) (tW ((rst (a1.tmod 1000) 4).toNat) W H) (tH ((rst (a1.tmod 1000) 4).toNat) W H) : Nat) : Int))), (.int .i64 (((tH ((rst (b1.tmod 1000) 4).toNat) (tW ((rst (a1.tmod 1000) 4).toNat) W H) (tH ((rst (a1.tmod 1000) 4).toNat) W H) : Nat) : Int))), (.slice (some ⟨xq35, 0, none⟩) ((tW ((rst (b1.tmod 1000) 4).toNat) (tW ((rst (a1.tmod 1000) 4).toNat) W H) (tH ((rst (a1.tmod 1000) 4).toNat) W H)) * (tH ((rst (b1.tmod 1000) 4).toNat) (tW ((rst (a1.tmod 1000) 4).toNat) W H) (tH ((rst (a1.tmod 1000) 4).toNat) W H))) ((tW ((rst (b1.tmod 1000) 4).toNat) (tW ((rst (a1.tmod 1000) 4).toNat) W H) (tH ((rst (a1.tmod 1000) 4).toNat) W H)) * (tH ((rst (b1.tmod 1000) 4).toNat) (tW ((rst (a1.tmod 1000) 4).toNat) W H) (tH ((rst (a1.tmod 1000) 4).toNat) W H))))]), (.agg #[(.int .i64 (((tW ((rst ((a1.tmod 1000) + (b1.tmod 1000)) 4).toNat) W H : Nat) : Int))), (.int .i64 (((tH ((rst ((a1.tmod 1000) + (b1.tmod 1000)) 4).toNat) W H : Nat) : Int))), (.slice (some ⟨xq38, 0, none⟩) ((tW ((rst ((a1.tmod 1000) + (b1.tmod 1000)) 4).toNat) W H) * (tH ((rst ((a1.tmod 1000) + (b1.tmod 1000)) 4).toNat) W H)) ((tW ((rst ((a1.tmod 1000) + (b1.tmod 1000)) 4).toNat) W H) * (tH ((rst ((a1.tmod 1000) + (b1.tmod 1000)) 4).toNat) W H)))])]) rfl rfl T.own26 (by decide) (fun wc hw => (by have h := ref_eq (((tW ((rst (b1.tmod 1000) 4).toNat) (tW ((rst (a1.tmod 1000) 4).toNat) W H) (tH ((rst (a1.tmod 1000) 4).toNat) W H) : Nat) : Int)) (((tH ((rst (b1.tmod 1000) 4).toNat) (tW ((rst (a1.tmod 1000) 4).toNat) W H) (tH ((rst (a1.tmod 1000) 4).toNat) W H) : Nat) : Int)) (((tW ((rst ((a1.tmod 1000) + (b1.tmod 1000)) 4).toNat) W H : Nat) : Int)) (((tH ((rst ((a1.tmod 1000) + (b1.tmod 1000)) 4).toNat) W H : Nat) : Int)) xq35 0 ((tW ((rst (b1.tmod 1000) 4).toNat) (tW ((rst (a1.tmod 1000) 4).toNat) W H) (tH ((rst (a1.tmod 1000) 4).toNat) W H)) * (tH ((rst (b1.tmod 1000) 4).toNat) (tW ((rst (a1.tmod 1000) 4).toNat) W H) (tH ((rst (a1.tmod 1000) 4).toNat) W H))) ((tW ((rst (b1.tmod 1000) 4).toNat) (tW ((rst (a1.tmod 1000) 4).toNat) W H) (tH ((rst (a1.tmod 1000) 4).toNat) W H)) * (tH ((rst (b1.tmod 1000) 4).toNat) (tW ((rst (a1.tmod 1000) 4).toNat) W H) (tH ((rst (a1.tmod 1000) 4).toNat) W H))) xq38 0 ((tW ((rst ((a1.tmod 1000) + (b1.tmod 1000)) 4).toNat) W H) * (tH ((rst ((a1.tmod 1000) + (b1.tmod 1000)) 4).toNat) W H)) ((tW ((rst ((a1.tmod 1000) + (b1.tmod 1000)) 4).toNat) W H) * (tH ((rst ((a1.tmod 1000) + (b1.tmod 1000)) 4).toNat) W H)) (trn ((rst (b1.tmod 1000) 4).toNat) (trn ((rst (a1.tmod 1000) 4).toNat) xs W H) (tW ((rst (a1.tmod 1000) 4).toNat) W H) (tH ((rst (a1.tmod 1000) 4).toNat) W H)) (trn ((rst ((a1.tmod 1000) + (b1.tmod 1000)) 4).toNat) xs W H) wc (trn_len (by first | decide | exact (rst4 _).2)) (trn_len (by first | decide | exact (rst4 _).2)) (hw.rdOf (i := 9) rfl 0) (hw.rdOf (i := 7) rfl 0) (by have h' := ((show okP (tW ((rst (b1.tmod 1000) 4).toNat) (tW ((rst (a1.tmod 1000) 4).toNat) W H) (tH ((rst (a1.tmod 1000) 4).toNat) W H)) (tH ((rst (b1.tmod 1000) 4).toNat) (tW ((rst (a1.tmod 1000) 4).toNat) W H) (tH ((rst (a1.tmod 1000) 4).toNat) W H)) from (okP.turn (show okP (tW ((rst (a1.tmod 1000) 4).toNat) W H) (tH ((rst (a1.tmod 1000) 4).toNat) W H) from (okP.turn hok ((rst (a1.tmod 1000) 4).toNat))) ((rst (b1.tmod 1000) 4).toNat)))).2.2.2.2; omega); rw [show eqB (((tW ((rst (b1.tmod 1000) 4).toNat) (tW ((rst (a1.tmod 1000) 4).toNat) W H) (tH ((rst (a1.tmod 1000) 4).toNat) W H) : Nat) : Int)) (((tH ((rst (b1.tmod 1000) 4).toNat) (tW ((rst (a1.tmod 1000) 4).toNat) W H) (tH ((rst (a1.tmod 1000) 4).toNat) W H) : Nat) : Int)) (trn ((rst (b1.tmod 1000) 4).toNat) (trn ((rst (a1.tmod 1000) 4).toNat) xs W H) (tW ((rst (a1.tmod 1000) 4).toNat) W H) (tH ((rst (a1.tmod 1000) 4).toNat) W H)) (((tW ((rst ((a1.tmod 1000) + (b1.tmod 1000)) 4).toNat) W H : Nat) : Int)) (((tH ((rst ((a1.tmod 1000) + (b1.tmod 1000)) 4).toNat) W H : Nat) : Int)) (trn ((rst ((a1.tmod 1000) + (b1.tmod 1000)) 4).toNat) xs W H) = true from eqB_self (congrArg (fun z : Nat => (z : Int)) (by rw [rst_add]; exact (trn_trn (xs := xs) (rst4 _).2 (rst4 _).2).1)) (congrArg (fun z : Nat => (z : Int)) (by rw [rst_add]; exact (trn_trn (xs := xs) (rst4 _).2 (rst4 _).2).2.1)) (by rw [rst_add]; exact (trn_trn (xs := xs) (rst4 _).2 (rst4 _).2).2.2)] at h; exact h))) (fun xq58 hq59 => ?_)
  refine GL.val (v := (.bool true)) (Ex.pickT rfl rfl) (by decide) ?_
  refine GL.val (v := (.bool true)) (Ex.move rfl) (by decide) ?_
  refine GL.stepG (tj := 148) rfl rfl (Ex.wp (v := (.agg #[(.int .i64 (((tW ((rst (4 * (a1.tmod 1000)) 4).toNat) W H : Nat) : Int))), (.int .i64 (((tH ((rst (4 * (a1.tmod 1000)) 4).toNat) W H : Nat) : Int))), (.slice (some ⟨xq41, 0, none⟩) ((tW ((rst (4 * (a1.tmod 1000)) 4).toNat) W H) * (tH ((rst (4 * (a1.tmod 1000)) 4).toNat) W H)) ((tW ((rst (4 * (a1.tmod 1000)) 4).toNat) W H) * (tH ((rst (4 * (a1.tmod 1000)) 4).toNat) W H)))])) (Ex.loadA rfl T.ag32 T.sz32 (i := 4) rfl (vs := [(.int .i64 (((tW ((rst (4 * (a1.tmod 1000)) 4).toNat) W H : Nat) : Int))), (.int .i64 (((tH ((rst (4 * (a1.tmod 1000)) 4).toNat) W H : Nat) : Int))), (.slice (some ⟨xq41, 0, none⟩) ((tW ((rst (4 * (a1.tmod 1000)) 4).toNat) W H) * (tH ((rst (4 * (a1.tmod 1000)) 4).toNat) W H)) ((tW ((rst (4 * (a1.tmod 1000)) 4).toNat) W H) * (tH ((rst (4 * (a1.tmod 1000)) 4).toNat) W H)))]) rfl rfl) (by decide)) (fun _ _ => ?_)
  refine GL.stepG (tj := 148) rfl rfl (Ex.wp (v := (.agg #[(.int .i64 ((W : Int))), (.int .i64 ((H : Int))), (.slice (some ⟨b, o, none⟩) n cap)])) (Ex.loadA rfl T.ag32 T.sz32 (i := 28) rfl (vs := [(.int .i64 ((W : Int))), (.int .i64 ((H : Int))), (.slice (some ⟨b, o, none⟩) n cap)]) rfl rfl) (by decide)) (fun _ _ => ?_)
  refine GL.stepG (tj := 148) rfl rfl (Stp.callR (σ := Unit) (p := fun rz => True) (v := fun rz => (.bool true)) (N := fun rz => []) (vs := [(.agg #[(.int .i64 (((tW ((rst (4 * (a1.tmod 1000)) 4).toNat) W H : Nat) : Int))), (.int .i64 (((tH ((rst (4 * (a1.tmod 1000)) 4).toNat) W H : Nat) : Int))), (.slice (some ⟨xq41, 0, none⟩) ((tW ((rst (4 * (a1.tmod 1000)) 4).toNat) W H) * (tH ((rst (4 * (a1.tmod 1000)) 4).toNat) W H)) ((tW ((rst (4 * (a1.tmod 1000)) 4).toNat) W H) * (tH ((rst (4 * (a1.tmod 1000)) 4).toNat) W H)))]), (.agg #[(.int .i64 ((W : Int))), (.int .i64 ((H : Int))), (.slice (some ⟨b, o, none⟩) n cap)])]) rfl rfl T.own26 (by decide) (fun wc hw => (by have h := ref_eq (((tW ((rst (4 * (a1.tmod 1000)) 4).toNat) W H : Nat) : Int)) (((tH ((rst (4 * (a1.tmod 1000)) 4).toNat) W H : Nat) : Int)) ((W : Int)) ((H : Int)) xq41 0 ((tW ((rst (4 * (a1.tmod 1000)) 4).toNat) W H) * (tH ((rst (4 * (a1.tmod 1000)) 4).toNat) W H)) ((tW ((rst (4 * (a1.tmod 1000)) 4).toNat) W H) * (tH ((rst (4 * (a1.tmod 1000)) 4).toNat) W H)) b o n cap (trn ((rst (4 * (a1.tmod 1000)) 4).toNat) xs W H) xs wc (trn_len (by first | decide | exact (rst4 _).2)) hx (hw.rdOf (i := 5) rfl 0) (hw.rd hr (fun x => x)) (by have h' := ((show okP (tW ((rst (4 * (a1.tmod 1000)) 4).toNat) W H) (tH ((rst (4 * (a1.tmod 1000)) 4).toNat) W H) from (okP.turn hok ((rst (4 * (a1.tmod 1000)) 4).toNat)))).2.2.2.2; omega); rw [show eqB (((tW ((rst (4 * (a1.tmod 1000)) 4).toNat) W H : Nat) : Int)) (((tH ((rst (4 * (a1.tmod 1000)) 4).toNat) W H : Nat) : Int)) (trn ((rst (4 * (a1.tmod 1000)) 4).toNat) xs W H) ((W : Int)) ((H : Int)) xs = true from eqB_self (congrArg (fun z : Nat => (z : Int)) (by rw [rst_four]; rfl)) (congrArg (fun z : Nat => (z : Int)) (by rw [rst_four]; rfl)) (by rw [rst_four]; exact trn_zero hx')] at h; exact h))) (fun xq60 hq61 => ?_)
  refine GL.val (v := (.bool true)) (Ex.pickT rfl rfl) (by decide) ?_
  refine GL.val (v := (.bool true)) (Ex.move rfl) (by decide) ?_
  refine GL.stepG (tj := 153) rfl rfl (Ex.wp (v := (.agg #[(.int .i64 (((W : Nat) : Int))), (.int .i64 (((H : Nat) : Int))), (.slice (some ⟨xq44, 0, none⟩) (W * H) (W * H))])) (Ex.loadA rfl T.ag32 T.sz32 (i := 2) rfl (vs := [(.int .i64 (((W : Nat) : Int))), (.int .i64 (((H : Nat) : Int))), (.slice (some ⟨xq44, 0, none⟩) (W * H) (W * H))]) rfl rfl) (by decide)) (fun _ _ => ?_)
  refine GL.stepG (tj := 153) rfl rfl (Ex.wp (v := (.agg #[(.int .i64 (((tW 2 W H : Nat) : Int))), (.int .i64 (((tH 2 W H : Nat) : Int))), (.slice (some ⟨xq47, 0, none⟩) ((tW 2 W H) * (tH 2 W H)) ((tW 2 W H) * (tH 2 W H)))])) (Ex.loadA rfl T.ag32 T.sz32 (i := 0) rfl (vs := [(.int .i64 (((tW 2 W H : Nat) : Int))), (.int .i64 (((tH 2 W H : Nat) : Int))), (.slice (some ⟨xq47, 0, none⟩) ((tW 2 W H) * (tH 2 W H)) ((tW 2 W H) * (tH 2 W H)))]) rfl rfl) (by decide)) (fun _ _ => ?_)
  refine GL.stepG (tj := 153) rfl rfl (Stp.callR (σ := Unit) (p := fun rz => True) (v := fun rz => (.bool true)) (N := fun rz => []) (vs := [(.agg #[(.int .i64 (((W : Nat) : Int))), (.int .i64 (((H : Nat) : Int))), (.slice (some ⟨xq44, 0, none⟩) (W * H) (W * H))]), (.agg #[(.int .i64 (((tW 2 W H : Nat) : Int))), (.int .i64 (((tH 2 W H : Nat) : Int))), (.slice (some ⟨xq47, 0, none⟩) ((tW 2 W H) * (tH 2 W H)) ((tW 2 W H) * (tH 2 W H)))])]) rfl rfl T.own26 (by decide) (fun wc hw => (by have h := ref_eq (((W : Nat) : Int)) (((H : Nat) : Int)) (((tW 2 W H : Nat) : Int)) (((tH 2 W H : Nat) : Int)) xq44 0 (W * H) (W * H) xq47 0 ((tW 2 W H) * (tH 2 W H)) ((tW 2 W H) * (tH 2 W H)) (flF (flT xs W H) W H) (trn 2 xs W H) wc flF_len (trn_len (by first | decide | exact (rst4 _).2)) (hw.rdOf (i := 3) rfl 0) (hw.rdOf (i := 1) rfl 0) (by have h' := ((show okP W H from (show okP W H from hok))).2.2.2.2; omega); rw [show eqB (((W : Nat) : Int)) (((H : Nat) : Int)) (flF (flT xs W H) W H) (((tW 2 W H : Nat) : Int)) (((tH 2 W H : Nat) : Int)) (trn 2 xs W H) = true from eqB_self rfl rfl trn_half] at h; exact h))) (fun xq62 hq63 => ?_)
  refine GL.val (v := (.bool true)) (Ex.pickT rfl rfl) (by decide) ?_
  refine GL.val (v := (.bool true)) (Ex.assign rfl) (by decide) ?_
  refine GL.nil ?_
  refine GE.thenN ?_
  refine GC.ret ?_
  refine GC.ret1 rfl (Rv.tmp rfl) (fun wN HN => ?_)
  exact HN.ret () trivial rfl (List.nil_sublist _) rfl

set_option maxRecDepth 100000 in
set_option maxHeartbeats 1000000 in
theorem turns_bad (W H : Int) (ad : Option Addr) (n cap : Nat) (a1 b1 : Int) (w : World) (hc : chk W H n ≠ 0) :
    Calls Try.prog 9 #[(.agg #[(.int .i64 W), (.int .i64 H), (.slice ad n cap)]), (.int .i64 a1), (.int .i64 b1)] w (Ret w (fun _ : Unit => True) (fun _ => .bool true) (fun _ => [])) := by
  refine enter (M := None) (L := []) (n := 158) (l := [(0, (.agg #[(.int .i64 W), (.int .i64 H), (.slice ad n cap)])), (1, (.int .i64 a1)), (2, (.int .i64 b1))]) Try.func9 rfl rfl (Args.cons rfl (Args.cons rfl (Args.cons rfl (Args.nil _)))) (Hp.start _ _) ?_
  refine GC.seq ?_
  refine GC.region ?_
  refine GL.step (Stp.box (cs := [(.int .i64 W), (.int .i64 H), (.slice ad n cap)]) rfl rfl (by decide)) (fun bq1 _ => ?_)
  refine GL.val (v := (.bool false)) (Ex.assign rfl) (by decide) ?_
  refine GL.nil ?_
  refine GE.thenN ?_
  refine GC.seq ?_
  refine GC.seq ?_
  refine GC.region ?_
  refine GL.step (Stp.callR (σ := Unit) (p := fun rz => True) (v := fun rz => (.bool true)) (N := fun rz => []) (vs := []) rfl rfl T.own13 (by decide) (fun wc hw => known wc)) (fun xq2 hq3 => ?_)
  refine GL.val (v := (.bool false)) (Ex.cast (Ex.not rfl) rfl) (by decide) ?_
  refine GL.nil ?_
  refine GE.thenN ?_
  refine GC.cond rfl (fun hq4 => by cases hq4) (fun _ => ?_)
  refine GC.skip ?_
  refine GE.thenN ?_
  refine GC.seq ?_
  refine GC.seq ?_
  refine GC.region ?_
  refine GL.val (v := (.agg #[(.int .i64 W), (.int .i64 H), (.slice ad n cap)])) (Ex.loadA rfl T.ag32 T.sz32 (i := 0) rfl (vs := [(.int .i64 W), (.int .i64 H), (.slice ad n cap)]) rfl rfl) (by decide) ?_
  refine GL.step (Stp.callR (σ := Unit) (p := fun rz => True) (v := fun rz => (.int .i64 (chk W H n))) (N := fun rz => []) (vs := [(.agg #[(.int .i64 W), (.int .i64 H), (.slice ad n cap)])]) rfl rfl T.own35 (by decide) (fun wc hw => ref_check W H ad n cap wc)) (fun xq5 hq6 => ?_)
  refine GL.val (v := (.bool (decide ((chk W H n) ≠ 0)))) (Ex.neq rfl rfl) (by decide) ?_
  refine GL.nil ?_
  refine GE.thenN ?_
  refine GC.cond rfl (fun _ => ?_) (fun hq7 => by exfalso; have hq7 := of_decide_eq_false hq7; exact hc (by first | assumption | (apply Classical.byContradiction; assumption) | simp_all))
  refine GC.seq ?_
  refine GC.region ?_
  refine GL.val (v := (.agg #[(.int .i64 W), (.int .i64 H), (.slice ad n cap)])) (Ex.loadA rfl T.ag32 T.sz32 (i := 0) rfl (vs := [(.int .i64 W), (.int .i64 H), (.slice ad n cap)]) rfl rfl) (by decide) ?_
  refine GL.step (Stp.callR (σ := Unit) (p := fun rz => True) (v := fun rz => (.int .i64 (chk W H n))) (N := fun rz => []) (vs := [(.agg #[(.int .i64 W), (.int .i64 H), (.slice ad n cap)])]) rfl rfl T.own36 (by decide) (fun wc hw => check W H ad n cap wc)) (fun xq8 hq9 => ?_)
  refine GL.step (Stp.callR (σ := Unit) (p := fun rz => True) (v := fun rz => (.int .i64 (chk W H n))) (N := fun rz => []) (vs := [(.int .i64 (chk W H n))]) rfl rfl T.own16 (by decide) (fun wc hw => num (chk W H n) wc)) (fun xq10 hq11 => ?_)
  refine GL.val (v := (.bool (decide ((chk W H n) ≠ 0)))) (Ex.neq rfl rfl) (by decide) ?_
  refine GL.val (v := (.bool (decide ((chk W H n) ≠ 0)))) (Ex.assign rfl) (by decide) ?_
  refine GL.nil ?_
  refine GE.thenN ?_
  refine GC.ret ?_
  refine GE.thenR ?_
  refine GC.ret1 rfl (Rv.tmp rfl) (fun wN HN => ?_)
  exact HN.ret () trivial (congrArg Value.bool (by first | rfl | exact decide_eq_true hc)) (List.nil_sublist _) rfl

theorem lawTurns (W H : Int) (ad : Option Addr) (n cap : Nat) (a1 b1 : Int) (xs : List Int) (w : World) (hl : Lst w ad n xs) :
    Calls Try.prog 9 #[.agg #[.int .i64 W, .int .i64 H, .slice ad n cap], .int .i64 a1, .int .i64 b1] w (Ret w (fun _ : Unit => True) (fun _ => .bool true) (fun _ => [])) := by
  by_cases hc : chk W H n = 0
  · obtain ⟨w', h', rfl, rfl, hok, hn⟩ := chk_zero hc
    obtain ⟨h1, h2, h3, h4⟩ := hl
    rcases h4 with h4 | ⟨b, o, rfl, hr⟩
    · exfalso; have h5 := Nat.mul_pos (show 0 < w' from hok.1) (show 0 < h' from hok.2.1); omega
    · exact turns_ok w' h' n cap b o a1 b1 xs w hok hn h1 hr
  · exact turns_bad W H ad n cap a1 b1 w hc

theorem crop_I (W H n cap b o : Nat) (X0 Y0 X1 Y1 : Int) (xs : List Int) (w : World) (hok : okP W H) (hn : n = W * H) (hx : xs.length = n) (hr : Rd w b o (xs.map u32)) (hR : 0 ≤ X0 ∧ X0 < X1 ∧ X1 ≤ W ∧ 0 ≤ Y0 ∧ Y0 < Y1 ∧ Y1 ≤ H) :
    Calls Try.prog 24 #[.agg #[.int .i64 (W : Int), .int .i64 (H : Int), .slice (some ⟨b, o, none⟩) n cap], .agg #[.int .i64 X0, .int .i64 Y0, .int .i64 X1, .int .i64 Y1]] w (Ret w (fun _ : Nat => True) (fun r => .tuple #[.agg #[.int .i64 ((X1.toNat - X0.toNat : Nat) : Int), .int .i64 ((Y1.toNat - Y0.toNat : Nat) : Int), .slice (some ⟨r, 0, none⟩) ((X1.toNat - X0.toNat) * (Y1.toNat - Y0.toNat)) ((X1.toNat - X0.toNat) * (Y1.toNat - Y0.toNat))], .int .i64 0]) (fun r => [⟨r, (crp xs W X0.toNat Y0.toNat (X1.toNat - X0.toNat) (Y1.toNat - Y0.toNat)).map u32, 72, true⟩])) := by
  obtain ⟨h1, h2, h3, h4, h5, h6⟩ := hR
  obtain ⟨x0, rfl⟩ := Int.eq_ofNat_of_zero_le h1
  obtain ⟨y0, rfl⟩ := Int.eq_ofNat_of_zero_le h4
  obtain ⟨x1, rfl⟩ := Int.eq_ofNat_of_zero_le (show 0 ≤ X1 by omega)
  obtain ⟨y1, rfl⟩ := Int.eq_ofNat_of_zero_le (show 0 ≤ Y1 by omega)
  exact crop_in W H n cap b o x0 y0 x1 y1 xs w hok hn hx hr (by omega) (by omega) (by omega) (by omega)

theorem extend_I (W H n cap b o : Nat) (k l t r u : Int) (xs : List Int) (w : World) (hok : okP W H) (hn : n = W * H) (hx : xs.length = n) (hr : Rd w b o (xs.map u32)) (hk : 1 ≤ k ∧ k ≤ 3) (h0 : 0 ≤ l ∧ 0 ≤ t ∧ 0 ≤ r ∧ 0 ≤ u) (h1 : l ≤ 1024 ∧ t ≤ 1024 ∧ r ≤ 1024 ∧ u ≤ 1024) (hok2 : okP (l.toNat + W + r.toNat) (t.toNat + H + u.toNat)) :
    Calls Try.prog 19 #[.agg #[.int .i64 (W : Int), .int .i64 (H : Int), .slice (some ⟨b, o, none⟩) n cap], .int .i64 k, .int .i64 l, .int .i64 t, .int .i64 r, .int .i64 u] w (Ret w (fun _ : Nat => True) (fun z => .tuple #[.agg #[.int .i64 ((l.toNat + W + r.toNat : Nat) : Int), .int .i64 ((t.toNat + H + u.toNat : Nat) : Int), .slice (some ⟨z, 0, none⟩) ((l.toNat + W + r.toNat) * (t.toNat + H + u.toNat)) ((l.toNat + W + r.toNat) * (t.toNat + H + u.toNat))], .int .i64 0]) (fun z => [⟨z, (extd xs W H l.toNat t.toNat r.toNat u.toNat k).map u32, 72, true⟩])) := by
  obtain ⟨h2, h3, h4, h5⟩ := h0
  obtain ⟨l, rfl⟩ := Int.eq_ofNat_of_zero_le h2
  obtain ⟨t, rfl⟩ := Int.eq_ofNat_of_zero_le h3
  obtain ⟨r, rfl⟩ := Int.eq_ofNat_of_zero_le h4
  obtain ⟨u, rfl⟩ := Int.eq_ofNat_of_zero_le h5
  exact extend W H n cap b o l t r u xs k w hok hn hx hr hk (by omega) hok2

set_option maxRecDepth 100000 in
set_option maxHeartbeats 1000000 in
theorem pieces_ok (W H n cap b o X0 Y0 X1 Y1 : Nat) (s0 t0 s1 t1 kd lf tp : Int) (xs : List Int) (w : World) (hok : okP W H) (hn : n = W * H) (hx : xs.length = n) (hr : Rd w b o (xs.map u32)) (hX0 : X0 < X1) (hX1 : X1 ≤ W) (hY0 : Y0 < Y1) (hY1 : Y1 ≤ H) :
    Calls Try.prog 6 #[(.agg #[(.int .i64 ((W : Int))), (.int .i64 ((H : Int))), (.slice (some ⟨b, o, none⟩) n cap)]), (.agg #[(.int .i64 ((X0 : Int))), (.int .i64 ((Y0 : Int))), (.int .i64 ((X1 : Int))), (.int .i64 ((Y1 : Int)))]), (.agg #[(.int .i64 s0), (.int .i64 t0), (.int .i64 s1), (.int .i64 t1)]), (.int .i64 kd), (.int .i64 lf), (.int .i64 tp)] w (Ret w (fun _ : Unit => True) (fun _ => .bool true) (fun _ => [])) := by
  refine enter (M := None) (L := []) (n := 127) (l := [(0, (.agg #[(.int .i64 ((W : Int))), (.int .i64 ((H : Int))), (.slice (some ⟨b, o, none⟩) n cap)])), (1, (.agg #[(.int .i64 ((X0 : Int))), (.int .i64 ((Y0 : Int))), (.int .i64 ((X1 : Int))), (.int .i64 ((Y1 : Int)))])), (2, (.agg #[(.int .i64 s0), (.int .i64 t0), (.int .i64 s1), (.int .i64 t1)])), (3, (.int .i64 kd)), (4, (.int .i64 lf)), (5, (.int .i64 tp))]) Try.func6 rfl rfl (Args.cons rfl (Args.cons rfl (Args.cons rfl (Args.cons rfl (Args.cons rfl (Args.cons rfl (Args.nil _))))))) (Hp.start _ _) ?_
  refine GC.seq ?_
  have hx' : xs.length = W * H := by rw [hx, hn]
  have hc0 : chk W H n = 0 := by rw [hn]; exact chk_ok hok
  have hW := hok.1
  have hH := hok.2.1
  have hW2 := hok.2.2.1
  have hH2 := hok.2.2.2.1
  refine GC.region ?_
  refine GL.step (Stp.box (cs := [(.int .i64 ((W : Int))), (.int .i64 ((H : Int))), (.slice (some ⟨b, o, none⟩) n cap)]) rfl rfl (by decide)) (fun bq1 _ => ?_)
  refine GL.step (Stp.box (cs := [(.int .i64 ((X0 : Int))), (.int .i64 ((Y0 : Int))), (.int .i64 ((X1 : Int))), (.int .i64 ((Y1 : Int)))]) rfl rfl (by decide)) (fun bq2 _ => ?_)
  refine GL.step (Stp.box (cs := [(.int .i64 s0), (.int .i64 t0), (.int .i64 s1), (.int .i64 t1)]) rfl rfl (by decide)) (fun bq3 _ => ?_)
  refine GL.val (v := (.bool false)) (Ex.assign rfl) (by decide) ?_
  refine GL.nil ?_
  refine GE.thenN ?_
  refine GC.seq ?_
  refine GC.seq ?_
  refine GC.region ?_
  refine GL.step (Stp.callR (σ := Unit) (p := fun rz => True) (v := fun rz => (.bool true)) (N := fun rz => []) (vs := []) rfl rfl T.own13 (by decide) (fun wc hw => known wc)) (fun xq4 hq5 => ?_)
  refine GL.val (v := (.bool false)) (Ex.cast (Ex.not rfl) rfl) (by decide) ?_
  refine GL.nil ?_
  refine GE.thenN ?_
  refine GC.cond rfl (fun hq6 => by cases hq6) (fun _ => ?_)
  refine GC.skip ?_
  refine GE.thenN ?_
  refine GC.seq ?_
  refine GC.region ?_
  refine GL.val (v := (.agg #[(.int .i64 ((W : Int))), (.int .i64 ((H : Int))), (.slice (some ⟨b, o, none⟩) n cap)])) (Ex.loadA rfl T.ag32 T.sz32 (i := 2) rfl (vs := [(.int .i64 ((W : Int))), (.int .i64 ((H : Int))), (.slice (some ⟨b, o, none⟩) n cap)]) rfl rfl) (by decide) ?_
  refine GL.val (v := (.agg #[(.int .i64 ((X0 : Int))), (.int .i64 ((Y0 : Int))), (.int .i64 ((X1 : Int))), (.int .i64 ((Y1 : Int)))])) (Ex.loadA rfl T.ag54 T.sz54 (i := 1) rfl (vs := [(.int .i64 ((X0 : Int))), (.int .i64 ((Y0 : Int))), (.int .i64 ((X1 : Int))), (.int .i64 ((Y1 : Int)))]) rfl rfl) (by decide) ?_
  refine GL.step (Stp.callR (σ := Nat) (p := fun rz => True) (v := fun rz => (.tuple #[(.agg #[(.int .i64 (((X1 - X0 : Nat) : Int))), (.int .i64 (((Y1 - Y0 : Nat) : Int))), (.slice (some ⟨rz, 0, none⟩) ((X1 - X0) * (Y1 - Y0)) ((X1 - X0) * (Y1 - Y0)))]), (.int .i64 0)])) (N := fun rz => [⟨rz, (crp xs W X0 Y0 (X1 - X0) (Y1 - Y0)).map u32, 72, true⟩]) (vs := [(.agg #[(.int .i64 ((W : Int))), (.int .i64 ((H : Int))), (.slice (some ⟨b, o, none⟩) n cap)]), (.agg #[(.int .i64 ((X0 : Int))), (.int .i64 ((Y0 : Int))), (.int .i64 ((X1 : Int))), (.int .i64 ((Y1 : Int)))])]) rfl rfl T.own24 (by decide) (fun wc hw => (crop_in W H n cap b o X0 Y0 X1 Y1 xs wc hok hn hx (hw.rd hr (fun x => x)) hX0 hX1 hY0 hY1))) (fun xq7 hq8 => ?_)
  refine GL.val (v := (.tuple #[(.agg #[(.int .i64 (((X1 - X0 : Nat) : Int))), (.int .i64 (((Y1 - Y0 : Nat) : Int))), (.slice (some ⟨xq7, 0, none⟩) ((X1 - X0) * (Y1 - Y0)) ((X1 - X0) * (Y1 - Y0)))]), (.int .i64 0)])) (Ex.move rfl) (by decide) ?_
  refine GL.val (v := (.agg #[(.int .i64 (((X1 - X0 : Nat) : Int))), (.int .i64 (((Y1 - Y0 : Nat) : Int))), (.slice (some ⟨xq7, 0, none⟩) ((X1 - X0) * (Y1 - Y0)) ((X1 - X0) * (Y1 - Y0)))])) (Ex.extract rfl rfl) (by decide) ?_
  refine GL.val (v := (.int .i64 0)) (Ex.extract rfl rfl) (by decide) ?_
  refine GL.step (Stp.alloc T.zr32 (by decide)) (fun bq9 _ => ?_)
  refine GL.step (Stp.storeL (i := 0) (L1 := [⟨bq9, [(.int .i64 (((X1 - X0 : Nat) : Int))), (.int .i64 (((Y1 - Y0 : Nat) : Int))), (.slice (some ⟨xq7, 0, none⟩) ((X1 - X0) * (Y1 - Y0)) ((X1 - X0) * (Y1 - Y0)))], 32, true⟩, ⟨xq7, (crp xs W X0 Y0 (X1 - X0) (Y1 - Y0)).map u32, 72, true⟩, ⟨bq3, [(.int .i64 s0), (.int .i64 t0), (.int .i64 s1), (.int .i64 t1)], 54, true⟩, ⟨bq2, [(.int .i64 ((X0 : Int))), (.int .i64 ((Y0 : Int))), (.int .i64 ((X1 : Int))), (.int .i64 ((Y1 : Int)))], 54, true⟩, ⟨bq1, [(.int .i64 ((W : Int))), (.int .i64 ((H : Int))), (.slice (some ⟨b, o, none⟩) n cap)], 32, true⟩]) rfl rfl rfl T.sz32 rfl rfl rfl rfl) (fun _ _ => ?_)
  refine GL.val (v := (.int .i64 0)) (Ex.assign rfl) (by decide) ?_
  refine GL.nil ?_
  refine GE.thenN ?_
  refine GC.seq ?_
  refine GC.seq ?_
  refine GC.region ?_
  refine GL.val (v := (.int .i64 0)) (Ex.move rfl) (by decide) ?_
  refine GL.step (Stp.callR (σ := Unit) (p := fun rz => True) (v := fun rz => (.int .i64 0)) (N := fun rz => []) (vs := [(.int .i64 0)]) rfl rfl T.own16 (by decide) (fun wc hw => num 0 wc)) (fun xq10 hq11 => ?_)
  refine GL.val (v := (.bool false)) (Ex.cast (Ex.neq rfl rfl) rfl) (by decide) ?_
  refine GL.nil ?_
  refine GE.thenN ?_
  refine GC.cond rfl (fun hq12 => by cases hq12) (fun _ => ?_)
  refine GC.skip ?_
  refine GE.thenN ?_
  refine GC.seq ?_
  refine GC.region ?_
  refine GL.val (v := (.agg #[(.int .i64 ((W : Int))), (.int .i64 ((H : Int))), (.slice (some ⟨b, o, none⟩) n cap)])) (Ex.loadA rfl T.ag32 T.sz32 (i := 4) rfl (vs := [(.int .i64 ((W : Int))), (.int .i64 ((H : Int))), (.slice (some ⟨b, o, none⟩) n cap)]) rfl rfl) (by decide) ?_
  refine GL.val (v := (.agg #[(.int .i64 (((X1 - X0 : Nat) : Int))), (.int .i64 (((Y1 - Y0 : Nat) : Int))), (.slice (some ⟨xq7, 0, none⟩) ((X1 - X0) * (Y1 - Y0)) ((X1 - X0) * (Y1 - Y0)))])) (Ex.loadA rfl T.ag32 T.sz32 (i := 0) rfl (vs := [(.int .i64 (((X1 - X0 : Nat) : Int))), (.int .i64 (((Y1 - Y0 : Nat) : Int))), (.slice (some ⟨xq7, 0, none⟩) ((X1 - X0) * (Y1 - Y0)) ((X1 - X0) * (Y1 - Y0)))]) rfl rfl) (by decide) ?_
  refine GL.val (v := (.pointer (some ⟨bq2, 0, none⟩))) (Ex.cast (Ex.fieldAddr rfl Try.underlying54 rfl T.sz3 (by decide)) rfl) (by decide) ?_
  refine GL.val (v := (.int .i64 ((X0 : Int)))) (Ex.load rfl T.ag3 (i := 3) rfl rfl) (by decide) ?_
  refine GL.val (v := (.pointer (some ⟨bq2, 1, none⟩))) (Ex.cast (Ex.fieldAddr rfl Try.underlying54 rfl T.sz3 (by decide)) rfl) (by decide) ?_
  refine GL.val (v := (.int .i64 ((Y0 : Int)))) (Ex.load rfl T.ag3 (i := 3) rfl rfl) (by decide) ?_
  refine GL.step (Stp.callR (σ := Nat) (p := fun rz => True) (v := fun rz => (.tuple #[(.agg #[(.int .i64 (((W : Nat) : Int))), (.int .i64 (((H : Nat) : Int))), (.slice (some ⟨rz, 0, none⟩) (W * H) (W * H))]), (.int .i64 0)])) (N := fun rz => [⟨rz, (pstd xs (crp xs W X0 Y0 (X1 - X0) (Y1 - Y0)) W H (X1 - X0) (Y1 - Y0) ((X0 : Int)) ((Y0 : Int))).map u32, 72, true⟩]) (vs := [(.agg #[(.int .i64 ((W : Int))), (.int .i64 ((H : Int))), (.slice (some ⟨b, o, none⟩) n cap)]), (.agg #[(.int .i64 (((X1 - X0 : Nat) : Int))), (.int .i64 (((Y1 - Y0 : Nat) : Int))), (.slice (some ⟨xq7, 0, none⟩) ((X1 - X0) * (Y1 - Y0)) ((X1 - X0) * (Y1 - Y0)))]), (.int .i64 ((X0 : Int))), (.int .i64 ((Y0 : Int)))]) rfl rfl T.own25 (by decide) (fun wc hw => paste W H n cap b o (X1 - X0) (Y1 - Y0) ((X1 - X0) * (Y1 - Y0)) ((X1 - X0) * (Y1 - Y0)) xq7 0 xs (crp xs W X0 Y0 (X1 - X0) (Y1 - Y0)) ((X0 : Int)) ((Y0 : Int)) wc hok hn hx (hw.rd hr (fun x => x)) (show okP (X1 - X0) (Y1 - Y0) from (okP.part hok (by omega) (by omega) (by omega) (by omega))) rfl crp_len (hw.rdOf (i := 1) rfl 0) (by omega) (by omega))) (fun xq13 hq14 => ?_)
  refine GL.val (v := (.tuple #[(.agg #[(.int .i64 (((W : Nat) : Int))), (.int .i64 (((H : Nat) : Int))), (.slice (some ⟨xq13, 0, none⟩) (W * H) (W * H))]), (.int .i64 0)])) (Ex.move rfl) (by decide) ?_
  refine GL.val (v := (.agg #[(.int .i64 (((W : Nat) : Int))), (.int .i64 (((H : Nat) : Int))), (.slice (some ⟨xq13, 0, none⟩) (W * H) (W * H))])) (Ex.extract rfl rfl) (by decide) ?_
  refine GL.val (v := (.int .i64 0)) (Ex.extract rfl rfl) (by decide) ?_
  refine GL.step (Stp.alloc T.zr32 (by decide)) (fun bq15 _ => ?_)
  refine GL.step (Stp.storeL (i := 0) (L1 := [⟨bq15, [(.int .i64 (((W : Nat) : Int))), (.int .i64 (((H : Nat) : Int))), (.slice (some ⟨xq13, 0, none⟩) (W * H) (W * H))], 32, true⟩, ⟨xq13, (pstd xs (crp xs W X0 Y0 (X1 - X0) (Y1 - Y0)) W H (X1 - X0) (Y1 - Y0) ((X0 : Int)) ((Y0 : Int))).map u32, 72, true⟩, ⟨bq9, [(.int .i64 (((X1 - X0 : Nat) : Int))), (.int .i64 (((Y1 - Y0 : Nat) : Int))), (.slice (some ⟨xq7, 0, none⟩) ((X1 - X0) * (Y1 - Y0)) ((X1 - X0) * (Y1 - Y0)))], 32, true⟩, ⟨xq7, (crp xs W X0 Y0 (X1 - X0) (Y1 - Y0)).map u32, 72, true⟩, ⟨bq3, [(.int .i64 s0), (.int .i64 t0), (.int .i64 s1), (.int .i64 t1)], 54, true⟩, ⟨bq2, [(.int .i64 ((X0 : Int))), (.int .i64 ((Y0 : Int))), (.int .i64 ((X1 : Int))), (.int .i64 ((Y1 : Int)))], 54, true⟩, ⟨bq1, [(.int .i64 ((W : Int))), (.int .i64 ((H : Int))), (.slice (some ⟨b, o, none⟩) n cap)], 32, true⟩]) rfl rfl rfl T.sz32 rfl rfl rfl rfl) (fun _ _ => ?_)
  refine GL.val (v := (.int .i64 0)) (Ex.assign rfl) (by decide) ?_
  refine GL.nil ?_
  refine GE.thenN ?_
  refine GC.seq ?_
  refine GC.seq ?_
  refine GC.region ?_
  refine GL.val (v := (.agg #[(.int .i64 (((W : Nat) : Int))), (.int .i64 (((H : Nat) : Int))), (.slice (some ⟨xq13, 0, none⟩) (W * H) (W * H))])) (Ex.loadA rfl T.ag32 T.sz32 (i := 0) rfl (vs := [(.int .i64 (((W : Nat) : Int))), (.int .i64 (((H : Nat) : Int))), (.slice (some ⟨xq13, 0, none⟩) (W * H) (W * H))]) rfl rfl) (by decide) ?_
  refine GL.val (v := (.agg #[(.int .i64 ((W : Int))), (.int .i64 ((H : Int))), (.slice (some ⟨b, o, none⟩) n cap)])) (Ex.loadA rfl T.ag32 T.sz32 (i := 6) rfl (vs := [(.int .i64 ((W : Int))), (.int .i64 ((H : Int))), (.slice (some ⟨b, o, none⟩) n cap)]) rfl rfl) (by decide) ?_
  refine GL.step (Stp.callR (σ := Unit) (p := fun rz => True) (v := fun rz => (.bool true)) (N := fun rz => []) (vs := [(.agg #[(.int .i64 (((W : Nat) : Int))), (.int .i64 (((H : Nat) : Int))), (.slice (some ⟨xq13, 0, none⟩) (W * H) (W * H))]), (.agg #[(.int .i64 ((W : Int))), (.int .i64 ((H : Int))), (.slice (some ⟨b, o, none⟩) n cap)])]) rfl rfl T.own26 (by decide) (fun wc hw => (by have h := ref_eq (((W : Nat) : Int)) (((H : Nat) : Int)) ((W : Int)) ((H : Int)) xq13 0 (W * H) (W * H) b o n cap (pstd xs (crp xs W X0 Y0 (X1 - X0) (Y1 - Y0)) W H (X1 - X0) (Y1 - Y0) ((X0 : Int)) ((Y0 : Int))) xs wc (tab_len _ _ _) hx (hw.rdOf (i := 1) rfl 0) (hw.rd hr (fun x => x)) (by have h' := (hok).2.2.2.2; omega); rw [show eqB (((W : Nat) : Int)) (((H : Nat) : Int)) (pstd xs (crp xs W X0 Y0 (X1 - X0) (Y1 - Y0)) W H (X1 - X0) (Y1 - Y0) ((X0 : Int)) ((Y0 : Int))) ((W : Int)) ((H : Int)) xs = true from eqB_self rfl rfl (pst_back hx' (by omega) (by omega) rfl rfl)] at h; exact h))) (fun xq16 hq17 => ?_)
  refine GL.val (v := (.bool false)) (Ex.cast (Ex.not rfl) rfl) (by decide) ?_
  refine GL.nil ?_
  refine GE.thenN ?_
  refine GC.cond rfl (fun hq18 => by cases hq18) (fun _ => ?_)
  refine GC.skip ?_
  refine GE.thenN ?_
  refine GC.seq ?_
  by_cases s : 0 ≤ s0 ∧ s0 < s1 ∧ s1 ≤ ((X1 - X0 : Nat) : Int) ∧ 0 ≤ t0 ∧ t0 < t1 ∧ t1 ≤ ((Y1 - Y0 : Nat) : Int)
  · refine GC.region ?_
    refine GL.val (v := (.agg #[(.int .i64 (((X1 - X0 : Nat) : Int))), (.int .i64 (((Y1 - Y0 : Nat) : Int))), (.slice (some ⟨xq7, 0, none⟩) ((X1 - X0) * (Y1 - Y0)) ((X1 - X0) * (Y1 - Y0)))])) (Ex.loadA rfl T.ag32 T.sz32 (i := 2) rfl (vs := [(.int .i64 (((X1 - X0 : Nat) : Int))), (.int .i64 (((Y1 - Y0 : Nat) : Int))), (.slice (some ⟨xq7, 0, none⟩) ((X1 - X0) * (Y1 - Y0)) ((X1 - X0) * (Y1 - Y0)))]) rfl rfl) (by decide) ?_
    refine GL.val (v := (.agg #[(.int .i64 s0), (.int .i64 t0), (.int .i64 s1), (.int .i64 t1)])) (Ex.loadA rfl T.ag54 T.sz54 (i := 4) rfl (vs := [(.int .i64 s0), (.int .i64 t0), (.int .i64 s1), (.int .i64 t1)]) rfl rfl) (by decide) ?_
    refine GL.step (Stp.callR (σ := Nat) (p := fun rz => True) (v := fun rz => (.tuple #[(.agg #[(.int .i64 ((((s1).toNat - (s0).toNat : Nat) : Int))), (.int .i64 ((((t1).toNat - (t0).toNat : Nat) : Int))), (.slice (some ⟨rz, 0, none⟩) (((s1).toNat - (s0).toNat) * ((t1).toNat - (t0).toNat)) (((s1).toNat - (s0).toNat) * ((t1).toNat - (t0).toNat)))]), (.int .i64 0)])) (N := fun rz => [⟨rz, (crp (crp xs W X0 Y0 (X1 - X0) (Y1 - Y0)) (X1 - X0) (s0).toNat (t0).toNat ((s1).toNat - (s0).toNat) ((t1).toNat - (t0).toNat)).map u32, 72, true⟩]) (vs := [(.agg #[(.int .i64 (((X1 - X0 : Nat) : Int))), (.int .i64 (((Y1 - Y0 : Nat) : Int))), (.slice (some ⟨xq7, 0, none⟩) ((X1 - X0) * (Y1 - Y0)) ((X1 - X0) * (Y1 - Y0)))]), (.agg #[(.int .i64 s0), (.int .i64 t0), (.int .i64 s1), (.int .i64 t1)])]) rfl rfl T.own24 (by decide) (fun wc hw => (crop_I (X1 - X0) (Y1 - Y0) ((X1 - X0) * (Y1 - Y0)) ((X1 - X0) * (Y1 - Y0)) xq7 0 s0 t0 s1 t1 (crp xs W X0 Y0 (X1 - X0) (Y1 - Y0)) wc (show okP (X1 - X0) (Y1 - Y0) from (okP.part hok (by omega) (by omega) (by omega) (by omega))) rfl crp_len (hw.rdOf (i := 3) rfl 0) s))) (fun xq19 hq20 => ?_)
    refine GL.val (v := (.tuple #[(.agg #[(.int .i64 ((((s1).toNat - (s0).toNat : Nat) : Int))), (.int .i64 ((((t1).toNat - (t0).toNat : Nat) : Int))), (.slice (some ⟨xq19, 0, none⟩) (((s1).toNat - (s0).toNat) * ((t1).toNat - (t0).toNat)) (((s1).toNat - (s0).toNat) * ((t1).toNat - (t0).toNat)))]), (.int .i64 0)])) (Ex.move rfl) (by decide) ?_
    refine GL.val (v := (.agg #[(.int .i64 ((((s1).toNat - (s0).toNat : Nat) : Int))), (.int .i64 ((((t1).toNat - (t0).toNat : Nat) : Int))), (.slice (some ⟨xq19, 0, none⟩) (((s1).toNat - (s0).toNat) * ((t1).toNat - (t0).toNat)) (((s1).toNat - (s0).toNat) * ((t1).toNat - (t0).toNat)))])) (Ex.extract rfl rfl) (by decide) ?_
    refine GL.val (v := (.int .i64 0)) (Ex.extract rfl rfl) (by decide) ?_
    refine GL.step (Stp.alloc T.zr32 (by decide)) (fun bq21 _ => ?_)
    refine GL.step (Stp.storeL (i := 0) (L1 := [⟨bq21, [(.int .i64 ((((s1).toNat - (s0).toNat : Nat) : Int))), (.int .i64 ((((t1).toNat - (t0).toNat : Nat) : Int))), (.slice (some ⟨xq19, 0, none⟩) (((s1).toNat - (s0).toNat) * ((t1).toNat - (t0).toNat)) (((s1).toNat - (s0).toNat) * ((t1).toNat - (t0).toNat)))], 32, true⟩, ⟨xq19, (crp (crp xs W X0 Y0 (X1 - X0) (Y1 - Y0)) (X1 - X0) (s0).toNat (t0).toNat ((s1).toNat - (s0).toNat) ((t1).toNat - (t0).toNat)).map u32, 72, true⟩, ⟨bq15, [(.int .i64 (((W : Nat) : Int))), (.int .i64 (((H : Nat) : Int))), (.slice (some ⟨xq13, 0, none⟩) (W * H) (W * H))], 32, true⟩, ⟨xq13, (pstd xs (crp xs W X0 Y0 (X1 - X0) (Y1 - Y0)) W H (X1 - X0) (Y1 - Y0) ((X0 : Int)) ((Y0 : Int))).map u32, 72, true⟩, ⟨bq9, [(.int .i64 (((X1 - X0 : Nat) : Int))), (.int .i64 (((Y1 - Y0 : Nat) : Int))), (.slice (some ⟨xq7, 0, none⟩) ((X1 - X0) * (Y1 - Y0)) ((X1 - X0) * (Y1 - Y0)))], 32, true⟩, ⟨xq7, (crp xs W X0 Y0 (X1 - X0) (Y1 - Y0)).map u32, 72, true⟩, ⟨bq3, [(.int .i64 s0), (.int .i64 t0), (.int .i64 s1), (.int .i64 t1)], 54, true⟩, ⟨bq2, [(.int .i64 ((X0 : Int))), (.int .i64 ((Y0 : Int))), (.int .i64 ((X1 : Int))), (.int .i64 ((Y1 : Int)))], 54, true⟩, ⟨bq1, [(.int .i64 ((W : Int))), (.int .i64 ((H : Int))), (.slice (some ⟨b, o, none⟩) n cap)], 32, true⟩]) rfl rfl rfl T.sz32 rfl rfl rfl rfl) (fun _ _ => ?_)
    refine GL.val (v := (.int .i64 0)) (Ex.assign rfl) (by decide) ?_
    refine GL.nil ?_
    refine GE.thenN ?_
    refine GC.seq ?_
    refine GC.seq ?_
    refine GC.region ?_
    refine GL.val (v := (.int .i64 0)) (Ex.move rfl) (by decide) ?_
    refine GL.step (Stp.callR (σ := Unit) (p := fun rz => True) (v := fun rz => (.int .i64 0)) (N := fun rz => []) (vs := [(.int .i64 0)]) rfl rfl T.own16 (by decide) (fun wc hw => num 0 wc)) (fun xq22 hq23 => ?_)
    refine GL.val (v := (.bool true)) (Ex.cast (Ex.eql rfl rfl) rfl) (by decide) ?_
    refine GL.nil ?_
    refine GE.thenN ?_
    refine GC.cond rfl (fun _ => ?_) (fun hq24 => by cases hq24)
    refine GC.seq ?_
    refine GC.region ?_
    refine GL.val (v := (.agg #[(.int .i64 ((W : Int))), (.int .i64 ((H : Int))), (.slice (some ⟨b, o, none⟩) n cap)])) (Ex.loadA rfl T.ag32 T.sz32 (i := 8) rfl (vs := [(.int .i64 ((W : Int))), (.int .i64 ((H : Int))), (.slice (some ⟨b, o, none⟩) n cap)]) rfl rfl) (by decide) ?_
    refine GL.val (v := (.pointer (some ⟨bq2, 0, none⟩))) (Ex.cast (Ex.fieldAddr rfl Try.underlying54 rfl T.sz3 (by decide)) rfl) (by decide) ?_
    refine GL.val (v := (.int .i64 ((X0 : Int)))) (Ex.load rfl T.ag3 (i := 7) rfl rfl) (by decide) ?_
    refine GL.val (v := (.pointer (some ⟨bq3, 0, none⟩))) (Ex.cast (Ex.fieldAddr rfl Try.underlying54 rfl T.sz3 (by decide)) rfl) (by decide) ?_
    refine GL.val (v := (.int .i64 s0)) (Ex.load rfl T.ag3 (i := 6) rfl rfl) (by decide) ?_
    refine GL.val (v := (.int .i64 (((X0 : Int)) + s0))) (Ex.add rfl rfl (Z := ((X0 : Int)) + s0) (w64 (by omega))) (by decide) ?_
    refine GL.val (v := (.pointer (some ⟨bq2, 1, none⟩))) (Ex.cast (Ex.fieldAddr rfl Try.underlying54 rfl T.sz3 (by decide)) rfl) (by decide) ?_
    refine GL.val (v := (.int .i64 ((Y0 : Int)))) (Ex.load rfl T.ag3 (i := 7) rfl rfl) (by decide) ?_
    refine GL.val (v := (.pointer (some ⟨bq3, 1, none⟩))) (Ex.cast (Ex.fieldAddr rfl Try.underlying54 rfl T.sz3 (by decide)) rfl) (by decide) ?_
    refine GL.val (v := (.int .i64 t0)) (Ex.load rfl T.ag3 (i := 6) rfl rfl) (by decide) ?_
    refine GL.val (v := (.int .i64 (((Y0 : Int)) + t0))) (Ex.add rfl rfl (Z := ((Y0 : Int)) + t0) (w64 (by omega))) (by decide) ?_
    refine GL.val (v := (.pointer (some ⟨bq2, 0, none⟩))) (Ex.cast (Ex.fieldAddr rfl Try.underlying54 rfl T.sz3 (by decide)) rfl) (by decide) ?_
    refine GL.val (v := (.int .i64 ((X0 : Int)))) (Ex.load rfl T.ag3 (i := 7) rfl rfl) (by decide) ?_
    refine GL.val (v := (.pointer (some ⟨bq3, 2, none⟩))) (Ex.cast (Ex.fieldAddr rfl Try.underlying54 rfl T.sz3 (by decide)) rfl) (by decide) ?_
    refine GL.val (v := (.int .i64 s1)) (Ex.load rfl T.ag3 (i := 6) rfl rfl) (by decide) ?_
    refine GL.val (v := (.int .i64 (((X0 : Int)) + s1))) (Ex.add rfl rfl (Z := ((X0 : Int)) + s1) (w64 (by omega))) (by decide) ?_
    refine GL.val (v := (.pointer (some ⟨bq2, 1, none⟩))) (Ex.cast (Ex.fieldAddr rfl Try.underlying54 rfl T.sz3 (by decide)) rfl) (by decide) ?_
    refine GL.val (v := (.int .i64 ((Y0 : Int)))) (Ex.load rfl T.ag3 (i := 7) rfl rfl) (by decide) ?_
    refine GL.val (v := (.pointer (some ⟨bq3, 3, none⟩))) (Ex.cast (Ex.fieldAddr rfl Try.underlying54 rfl T.sz3 (by decide)) rfl) (by decide) ?_
    refine GL.val (v := (.int .i64 t1)) (Ex.load rfl T.ag3 (i := 6) rfl rfl) (by decide) ?_
    refine GL.val (v := (.int .i64 (((Y0 : Int)) + t1))) (Ex.add rfl rfl (Z := ((Y0 : Int)) + t1) (w64 (by omega))) (by decide) ?_
    refine GL.val (v := (.agg #[(.int .i64 (((X0 : Int)) + s0)), (.int .i64 (((Y0 : Int)) + t0)), (.int .i64 (((X0 : Int)) + s1)), (.int .i64 (((Y0 : Int)) + t1))])) (Ex.build (vs := [(0, (.int .i64 (((X0 : Int)) + s0))), (1, (.int .i64 (((Y0 : Int)) + t0))), (2, (.int .i64 (((X0 : Int)) + s1))), (3, (.int .i64 (((Y0 : Int)) + t1)))]) rfl (by first | rfl | kernel_rfl)) (by decide) ?_
    refine GL.step (Stp.callR (σ := Nat) (p := fun rz => True) (v := fun rz => (.tuple #[(.agg #[(.int .i64 ((((((X0 : Int)) + s1).toNat - (((X0 : Int)) + s0).toNat : Nat) : Int))), (.int .i64 ((((((Y0 : Int)) + t1).toNat - (((Y0 : Int)) + t0).toNat : Nat) : Int))), (.slice (some ⟨rz, 0, none⟩) (((((X0 : Int)) + s1).toNat - (((X0 : Int)) + s0).toNat) * ((((Y0 : Int)) + t1).toNat - (((Y0 : Int)) + t0).toNat)) (((((X0 : Int)) + s1).toNat - (((X0 : Int)) + s0).toNat) * ((((Y0 : Int)) + t1).toNat - (((Y0 : Int)) + t0).toNat)))]), (.int .i64 0)])) (N := fun rz => [⟨rz, (crp xs W (((X0 : Int)) + s0).toNat (((Y0 : Int)) + t0).toNat ((((X0 : Int)) + s1).toNat - (((X0 : Int)) + s0).toNat) ((((Y0 : Int)) + t1).toNat - (((Y0 : Int)) + t0).toNat)).map u32, 72, true⟩]) (vs := [(.agg #[(.int .i64 ((W : Int))), (.int .i64 ((H : Int))), (.slice (some ⟨b, o, none⟩) n cap)]), (.agg #[(.int .i64 (((X0 : Int)) + s0)), (.int .i64 (((Y0 : Int)) + t0)), (.int .i64 (((X0 : Int)) + s1)), (.int .i64 (((Y0 : Int)) + t1))])]) rfl rfl T.own24 (by decide) (fun wc hw => (crop_I W H n cap b o (((X0 : Int)) + s0) (((Y0 : Int)) + t0) (((X0 : Int)) + s1) (((Y0 : Int)) + t1) xs wc hok hn hx (hw.rd hr (fun x => x)) (by omega)))) (fun xq25 hq26 => ?_)
    refine GL.val (v := (.tuple #[(.agg #[(.int .i64 ((((((X0 : Int)) + s1).toNat - (((X0 : Int)) + s0).toNat : Nat) : Int))), (.int .i64 ((((((Y0 : Int)) + t1).toNat - (((Y0 : Int)) + t0).toNat : Nat) : Int))), (.slice (some ⟨xq25, 0, none⟩) (((((X0 : Int)) + s1).toNat - (((X0 : Int)) + s0).toNat) * ((((Y0 : Int)) + t1).toNat - (((Y0 : Int)) + t0).toNat)) (((((X0 : Int)) + s1).toNat - (((X0 : Int)) + s0).toNat) * ((((Y0 : Int)) + t1).toNat - (((Y0 : Int)) + t0).toNat)))]), (.int .i64 0)])) (Ex.move rfl) (by decide) ?_
    refine GL.val (v := (.agg #[(.int .i64 ((((((X0 : Int)) + s1).toNat - (((X0 : Int)) + s0).toNat : Nat) : Int))), (.int .i64 ((((((Y0 : Int)) + t1).toNat - (((Y0 : Int)) + t0).toNat : Nat) : Int))), (.slice (some ⟨xq25, 0, none⟩) (((((X0 : Int)) + s1).toNat - (((X0 : Int)) + s0).toNat) * ((((Y0 : Int)) + t1).toNat - (((Y0 : Int)) + t0).toNat)) (((((X0 : Int)) + s1).toNat - (((X0 : Int)) + s0).toNat) * ((((Y0 : Int)) + t1).toNat - (((Y0 : Int)) + t0).toNat)))])) (Ex.extract rfl rfl) (by decide) ?_
    refine GL.val (v := (.int .i64 0)) (Ex.extract rfl rfl) (by decide) ?_
    refine GL.step (Stp.alloc T.zr32 (by decide)) (fun bq27 _ => ?_)
    refine GL.step (Stp.storeL (i := 0) (L1 := [⟨bq27, [(.int .i64 ((((((X0 : Int)) + s1).toNat - (((X0 : Int)) + s0).toNat : Nat) : Int))), (.int .i64 ((((((Y0 : Int)) + t1).toNat - (((Y0 : Int)) + t0).toNat : Nat) : Int))), (.slice (some ⟨xq25, 0, none⟩) (((((X0 : Int)) + s1).toNat - (((X0 : Int)) + s0).toNat) * ((((Y0 : Int)) + t1).toNat - (((Y0 : Int)) + t0).toNat)) (((((X0 : Int)) + s1).toNat - (((X0 : Int)) + s0).toNat) * ((((Y0 : Int)) + t1).toNat - (((Y0 : Int)) + t0).toNat)))], 32, true⟩, ⟨xq25, (crp xs W (((X0 : Int)) + s0).toNat (((Y0 : Int)) + t0).toNat ((((X0 : Int)) + s1).toNat - (((X0 : Int)) + s0).toNat) ((((Y0 : Int)) + t1).toNat - (((Y0 : Int)) + t0).toNat)).map u32, 72, true⟩, ⟨bq21, [(.int .i64 ((((s1).toNat - (s0).toNat : Nat) : Int))), (.int .i64 ((((t1).toNat - (t0).toNat : Nat) : Int))), (.slice (some ⟨xq19, 0, none⟩) (((s1).toNat - (s0).toNat) * ((t1).toNat - (t0).toNat)) (((s1).toNat - (s0).toNat) * ((t1).toNat - (t0).toNat)))], 32, true⟩, ⟨xq19, (crp (crp xs W X0 Y0 (X1 - X0) (Y1 - Y0)) (X1 - X0) (s0).toNat (t0).toNat ((s1).toNat - (s0).toNat) ((t1).toNat - (t0).toNat)).map u32, 72, true⟩, ⟨bq15, [(.int .i64 (((W : Nat) : Int))), (.int .i64 (((H : Nat) : Int))), (.slice (some ⟨xq13, 0, none⟩) (W * H) (W * H))], 32, true⟩, ⟨xq13, (pstd xs (crp xs W X0 Y0 (X1 - X0) (Y1 - Y0)) W H (X1 - X0) (Y1 - Y0) ((X0 : Int)) ((Y0 : Int))).map u32, 72, true⟩, ⟨bq9, [(.int .i64 (((X1 - X0 : Nat) : Int))), (.int .i64 (((Y1 - Y0 : Nat) : Int))), (.slice (some ⟨xq7, 0, none⟩) ((X1 - X0) * (Y1 - Y0)) ((X1 - X0) * (Y1 - Y0)))], 32, true⟩, ⟨xq7, (crp xs W X0 Y0 (X1 - X0) (Y1 - Y0)).map u32, 72, true⟩, ⟨bq3, [(.int .i64 s0), (.int .i64 t0), (.int .i64 s1), (.int .i64 t1)], 54, true⟩, ⟨bq2, [(.int .i64 ((X0 : Int))), (.int .i64 ((Y0 : Int))), (.int .i64 ((X1 : Int))), (.int .i64 ((Y1 : Int)))], 54, true⟩, ⟨bq1, [(.int .i64 ((W : Int))), (.int .i64 ((H : Int))), (.slice (some ⟨b, o, none⟩) n cap)], 32, true⟩]) rfl rfl rfl T.sz32 rfl rfl rfl rfl) (fun _ _ => ?_)
    refine GL.val (v := (.int .i64 0)) (Ex.assign rfl) (by decide) ?_
    refine GL.nil ?_
    refine GE.thenN ?_
    refine GC.seq ?_
    refine GC.region ?_
    refine GL.val (v := (.agg #[(.int .i64 ((((((X0 : Int)) + s1).toNat - (((X0 : Int)) + s0).toNat : Nat) : Int))), (.int .i64 ((((((Y0 : Int)) + t1).toNat - (((Y0 : Int)) + t0).toNat : Nat) : Int))), (.slice (some ⟨xq25, 0, none⟩) (((((X0 : Int)) + s1).toNat - (((X0 : Int)) + s0).toNat) * ((((Y0 : Int)) + t1).toNat - (((Y0 : Int)) + t0).toNat)) (((((X0 : Int)) + s1).toNat - (((X0 : Int)) + s0).toNat) * ((((Y0 : Int)) + t1).toNat - (((Y0 : Int)) + t0).toNat)))])) (Ex.loadA rfl T.ag32 T.sz32 (i := 0) rfl (vs := [(.int .i64 ((((((X0 : Int)) + s1).toNat - (((X0 : Int)) + s0).toNat : Nat) : Int))), (.int .i64 ((((((Y0 : Int)) + t1).toNat - (((Y0 : Int)) + t0).toNat : Nat) : Int))), (.slice (some ⟨xq25, 0, none⟩) (((((X0 : Int)) + s1).toNat - (((X0 : Int)) + s0).toNat) * ((((Y0 : Int)) + t1).toNat - (((Y0 : Int)) + t0).toNat)) (((((X0 : Int)) + s1).toNat - (((X0 : Int)) + s0).toNat) * ((((Y0 : Int)) + t1).toNat - (((Y0 : Int)) + t0).toNat)))]) rfl rfl) (by decide) ?_
    refine GL.val (v := (.agg #[(.int .i64 ((((s1).toNat - (s0).toNat : Nat) : Int))), (.int .i64 ((((t1).toNat - (t0).toNat : Nat) : Int))), (.slice (some ⟨xq19, 0, none⟩) (((s1).toNat - (s0).toNat) * ((t1).toNat - (t0).toNat)) (((s1).toNat - (s0).toNat) * ((t1).toNat - (t0).toNat)))])) (Ex.loadA rfl T.ag32 T.sz32 (i := 2) rfl (vs := [(.int .i64 ((((s1).toNat - (s0).toNat : Nat) : Int))), (.int .i64 ((((t1).toNat - (t0).toNat : Nat) : Int))), (.slice (some ⟨xq19, 0, none⟩) (((s1).toNat - (s0).toNat) * ((t1).toNat - (t0).toNat)) (((s1).toNat - (s0).toNat) * ((t1).toNat - (t0).toNat)))]) rfl rfl) (by decide) ?_
    refine GL.step (Stp.callR (σ := Unit) (p := fun rz => True) (v := fun rz => (.bool true)) (N := fun rz => []) (vs := [(.agg #[(.int .i64 ((((((X0 : Int)) + s1).toNat - (((X0 : Int)) + s0).toNat : Nat) : Int))), (.int .i64 ((((((Y0 : Int)) + t1).toNat - (((Y0 : Int)) + t0).toNat : Nat) : Int))), (.slice (some ⟨xq25, 0, none⟩) (((((X0 : Int)) + s1).toNat - (((X0 : Int)) + s0).toNat) * ((((Y0 : Int)) + t1).toNat - (((Y0 : Int)) + t0).toNat)) (((((X0 : Int)) + s1).toNat - (((X0 : Int)) + s0).toNat) * ((((Y0 : Int)) + t1).toNat - (((Y0 : Int)) + t0).toNat)))]), (.agg #[(.int .i64 ((((s1).toNat - (s0).toNat : Nat) : Int))), (.int .i64 ((((t1).toNat - (t0).toNat : Nat) : Int))), (.slice (some ⟨xq19, 0, none⟩) (((s1).toNat - (s0).toNat) * ((t1).toNat - (t0).toNat)) (((s1).toNat - (s0).toNat) * ((t1).toNat - (t0).toNat)))])]) rfl rfl T.own26 (by decide) (fun wc hw => (by have h := ref_eq ((((((X0 : Int)) + s1).toNat - (((X0 : Int)) + s0).toNat : Nat) : Int)) ((((((Y0 : Int)) + t1).toNat - (((Y0 : Int)) + t0).toNat : Nat) : Int)) ((((s1).toNat - (s0).toNat : Nat) : Int)) ((((t1).toNat - (t0).toNat : Nat) : Int)) xq25 0 (((((X0 : Int)) + s1).toNat - (((X0 : Int)) + s0).toNat) * ((((Y0 : Int)) + t1).toNat - (((Y0 : Int)) + t0).toNat)) (((((X0 : Int)) + s1).toNat - (((X0 : Int)) + s0).toNat) * ((((Y0 : Int)) + t1).toNat - (((Y0 : Int)) + t0).toNat)) xq19 0 (((s1).toNat - (s0).toNat) * ((t1).toNat - (t0).toNat)) (((s1).toNat - (s0).toNat) * ((t1).toNat - (t0).toNat)) (crp xs W (((X0 : Int)) + s0).toNat (((Y0 : Int)) + t0).toNat ((((X0 : Int)) + s1).toNat - (((X0 : Int)) + s0).toNat) ((((Y0 : Int)) + t1).toNat - (((Y0 : Int)) + t0).toNat)) (crp (crp xs W X0 Y0 (X1 - X0) (Y1 - Y0)) (X1 - X0) (s0).toNat (t0).toNat ((s1).toNat - (s0).toNat) ((t1).toNat - (t0).toNat)) wc crp_len crp_len (hw.rdOf (i := 1) rfl 0) (hw.rdOf (i := 3) rfl 0) (by have h' := ((show okP ((((X0 : Int)) + s1).toNat - (((X0 : Int)) + s0).toNat) ((((Y0 : Int)) + t1).toNat - (((Y0 : Int)) + t0).toNat) from (okP.part hok (by omega) (by omega) (by omega) (by omega)))).2.2.2.2; omega); rw [show eqB ((((((X0 : Int)) + s1).toNat - (((X0 : Int)) + s0).toNat : Nat) : Int)) ((((((Y0 : Int)) + t1).toNat - (((Y0 : Int)) + t0).toNat : Nat) : Int)) (crp xs W (((X0 : Int)) + s0).toNat (((Y0 : Int)) + t0).toNat ((((X0 : Int)) + s1).toNat - (((X0 : Int)) + s0).toNat) ((((Y0 : Int)) + t1).toNat - (((Y0 : Int)) + t0).toNat)) ((((s1).toNat - (s0).toNat : Nat) : Int)) ((((t1).toNat - (t0).toNat : Nat) : Int)) (crp (crp xs W X0 Y0 (X1 - X0) (Y1 - Y0)) (X1 - X0) (s0).toNat (t0).toNat ((s1).toNat - (s0).toNat) ((t1).toNat - (t0).toNat)) = true from eqB_self (by omega) (by omega) (by rw [crp_crp (by omega) (by omega)]; congr 1 <;> omega)] at h; exact h))) (fun xq28 hq29 => ?_)
    refine GL.val (v := (.bool false)) (Ex.cast (Ex.not rfl) rfl) (by decide) ?_
    refine GL.nil ?_
    refine GE.thenN ?_
    refine GC.cond rfl (fun hq30 => by cases hq30) (fun _ => ?_)
    refine GC.skip ?_
    refine GE.thenN ?_
    refine GC.seq ?_
    by_cases e1 : (bord kd 1 0).2 = 0
    · by_cases e2 : 0 ≤ lf ∧ 0 ≤ tp
      · by_cases e3 : lf ≤ 1024 ∧ tp ≤ 1024 ∧ sizeB (lf + W + 1) (tp + H + 2) = true
        · have hok3 : okP (lf.toNat + W + 1) (tp.toNat + H + 2) := okP_of (by rw [show ((lf.toNat + W + 1 : Nat) : Int) = lf + W + 1 by omega, show ((tp.toNat + H + 2 : Nat) : Int) = tp + H + 2 by omega]; exact e3.2.2)
          refine GC.region ?_
          refine GL.val (v := (.agg #[(.int .i64 ((W : Int))), (.int .i64 ((H : Int))), (.slice (some ⟨b, o, none⟩) n cap)])) (Ex.loadA rfl T.ag32 T.sz32 (i := 10) rfl (vs := [(.int .i64 ((W : Int))), (.int .i64 ((H : Int))), (.slice (some ⟨b, o, none⟩) n cap)]) rfl rfl) (by decide) ?_
          refine GL.val (v := (.int .i64 kd)) (Ex.move rfl) (by decide) ?_
          refine GL.val (v := (.int .i64 lf)) (Ex.move rfl) (by decide) ?_
          refine GL.val (v := (.int .i64 tp)) (Ex.move rfl) (by decide) ?_
          refine GL.step (Stp.callR (σ := Nat) (p := fun rz => True) (v := fun rz => (.tuple #[(.agg #[(.int .i64 ((((lf).toNat + W + 1 : Nat) : Int))), (.int .i64 ((((tp).toNat + H + 2 : Nat) : Int))), (.slice (some ⟨rz, 0, none⟩) (((lf).toNat + W + 1) * ((tp).toNat + H + 2)) (((lf).toNat + W + 1) * ((tp).toNat + H + 2)))]), (.int .i64 0)])) (N := fun rz => [⟨rz, (extd xs W H (lf).toNat (tp).toNat 1 2 kd).map u32, 72, true⟩]) (vs := [(.agg #[(.int .i64 ((W : Int))), (.int .i64 ((H : Int))), (.slice (some ⟨b, o, none⟩) n cap)]), (.int .i64 kd), (.int .i64 lf), (.int .i64 tp), (.int .i64 1), (.int .i64 2)]) rfl rfl T.own19 (by decide) (fun wc hw => (extend_I W H n cap b o kd lf tp 1 2 xs wc hok hn hx (hw.rd hr (fun x => x)) (bord_kind e1) ⟨e2.1, e2.2, by decide, by decide⟩ ⟨e3.1, e3.2.1, by decide, by decide⟩ hok3))) (fun xq31 hq32 => ?_)
          refine GL.val (v := (.tuple #[(.agg #[(.int .i64 ((((lf).toNat + W + 1 : Nat) : Int))), (.int .i64 ((((tp).toNat + H + 2 : Nat) : Int))), (.slice (some ⟨xq31, 0, none⟩) (((lf).toNat + W + 1) * ((tp).toNat + H + 2)) (((lf).toNat + W + 1) * ((tp).toNat + H + 2)))]), (.int .i64 0)])) (Ex.move rfl) (by decide) ?_
          refine GL.val (v := (.agg #[(.int .i64 ((((lf).toNat + W + 1 : Nat) : Int))), (.int .i64 ((((tp).toNat + H + 2 : Nat) : Int))), (.slice (some ⟨xq31, 0, none⟩) (((lf).toNat + W + 1) * ((tp).toNat + H + 2)) (((lf).toNat + W + 1) * ((tp).toNat + H + 2)))])) (Ex.extract rfl rfl) (by decide) ?_
          refine GL.val (v := (.int .i64 0)) (Ex.extract rfl rfl) (by decide) ?_
          refine GL.step (Stp.alloc T.zr32 (by decide)) (fun bq33 _ => ?_)
          refine GL.step (Stp.storeL (i := 0) (L1 := [⟨bq33, [(.int .i64 ((((lf).toNat + W + 1 : Nat) : Int))), (.int .i64 ((((tp).toNat + H + 2 : Nat) : Int))), (.slice (some ⟨xq31, 0, none⟩) (((lf).toNat + W + 1) * ((tp).toNat + H + 2)) (((lf).toNat + W + 1) * ((tp).toNat + H + 2)))], 32, true⟩, ⟨xq31, (extd xs W H (lf).toNat (tp).toNat 1 2 kd).map u32, 72, true⟩, ⟨bq27, [(.int .i64 ((((((X0 : Int)) + s1).toNat - (((X0 : Int)) + s0).toNat : Nat) : Int))), (.int .i64 ((((((Y0 : Int)) + t1).toNat - (((Y0 : Int)) + t0).toNat : Nat) : Int))), (.slice (some ⟨xq25, 0, none⟩) (((((X0 : Int)) + s1).toNat - (((X0 : Int)) + s0).toNat) * ((((Y0 : Int)) + t1).toNat - (((Y0 : Int)) + t0).toNat)) (((((X0 : Int)) + s1).toNat - (((X0 : Int)) + s0).toNat) * ((((Y0 : Int)) + t1).toNat - (((Y0 : Int)) + t0).toNat)))], 32, true⟩, ⟨xq25, (crp xs W (((X0 : Int)) + s0).toNat (((Y0 : Int)) + t0).toNat ((((X0 : Int)) + s1).toNat - (((X0 : Int)) + s0).toNat) ((((Y0 : Int)) + t1).toNat - (((Y0 : Int)) + t0).toNat)).map u32, 72, true⟩, ⟨bq21, [(.int .i64 ((((s1).toNat - (s0).toNat : Nat) : Int))), (.int .i64 ((((t1).toNat - (t0).toNat : Nat) : Int))), (.slice (some ⟨xq19, 0, none⟩) (((s1).toNat - (s0).toNat) * ((t1).toNat - (t0).toNat)) (((s1).toNat - (s0).toNat) * ((t1).toNat - (t0).toNat)))], 32, true⟩, ⟨xq19, (crp (crp xs W X0 Y0 (X1 - X0) (Y1 - Y0)) (X1 - X0) (s0).toNat (t0).toNat ((s1).toNat - (s0).toNat) ((t1).toNat - (t0).toNat)).map u32, 72, true⟩, ⟨bq15, [(.int .i64 (((W : Nat) : Int))), (.int .i64 (((H : Nat) : Int))), (.slice (some ⟨xq13, 0, none⟩) (W * H) (W * H))], 32, true⟩, ⟨xq13, (pstd xs (crp xs W X0 Y0 (X1 - X0) (Y1 - Y0)) W H (X1 - X0) (Y1 - Y0) ((X0 : Int)) ((Y0 : Int))).map u32, 72, true⟩, ⟨bq9, [(.int .i64 (((X1 - X0 : Nat) : Int))), (.int .i64 (((Y1 - Y0 : Nat) : Int))), (.slice (some ⟨xq7, 0, none⟩) ((X1 - X0) * (Y1 - Y0)) ((X1 - X0) * (Y1 - Y0)))], 32, true⟩, ⟨xq7, (crp xs W X0 Y0 (X1 - X0) (Y1 - Y0)).map u32, 72, true⟩, ⟨bq3, [(.int .i64 s0), (.int .i64 t0), (.int .i64 s1), (.int .i64 t1)], 54, true⟩, ⟨bq2, [(.int .i64 ((X0 : Int))), (.int .i64 ((Y0 : Int))), (.int .i64 ((X1 : Int))), (.int .i64 ((Y1 : Int)))], 54, true⟩, ⟨bq1, [(.int .i64 ((W : Int))), (.int .i64 ((H : Int))), (.slice (some ⟨b, o, none⟩) n cap)], 32, true⟩]) rfl rfl rfl T.sz32 rfl rfl rfl rfl) (fun _ _ => ?_)
          refine GL.val (v := (.int .i64 0)) (Ex.assign rfl) (by decide) ?_
          refine GL.nil ?_
          refine GE.thenN ?_
          refine GC.seq ?_
          refine GC.seq ?_
          refine GC.region ?_
          refine GL.val (v := (.int .i64 0)) (Ex.move rfl) (by decide) ?_
          refine GL.step (Stp.callR (σ := Unit) (p := fun rz => True) (v := fun rz => (.int .i64 0)) (N := fun rz => []) (vs := [(.int .i64 0)]) rfl rfl T.own16 (by decide) (fun wc hw => num 0 wc)) (fun xq34 hq35 => ?_)
          refine GL.val (v := (.bool false)) (Ex.cast (Ex.neq rfl rfl) rfl) (by decide) ?_
          refine GL.nil ?_
          refine GE.thenN ?_
          refine GC.cond rfl (fun hq36 => by cases hq36) (fun _ => ?_)
          refine GC.skip ?_
          refine GE.thenN ?_
          refine GC.seq ?_
          refine GC.region ?_
          refine GL.val (v := (.agg #[(.int .i64 ((((lf).toNat + W + 1 : Nat) : Int))), (.int .i64 ((((tp).toNat + H + 2 : Nat) : Int))), (.slice (some ⟨xq31, 0, none⟩) (((lf).toNat + W + 1) * ((tp).toNat + H + 2)) (((lf).toNat + W + 1) * ((tp).toNat + H + 2)))])) (Ex.loadA rfl T.ag32 T.sz32 (i := 0) rfl (vs := [(.int .i64 ((((lf).toNat + W + 1 : Nat) : Int))), (.int .i64 ((((tp).toNat + H + 2 : Nat) : Int))), (.slice (some ⟨xq31, 0, none⟩) (((lf).toNat + W + 1) * ((tp).toNat + H + 2)) (((lf).toNat + W + 1) * ((tp).toNat + H + 2)))]) rfl rfl) (by decide) ?_
          refine GL.val (v := (.int .i64 lf)) (Ex.move rfl) (by decide) ?_
          refine GL.val (v := (.int .i64 tp)) (Ex.move rfl) (by decide) ?_
          refine GL.val (v := (.int .i64 lf)) (Ex.move rfl) (by decide) ?_
          refine GL.val (v := (.pointer (some ⟨bq1, 0, none⟩))) (Ex.cast (Ex.fieldAddr rfl Try.underlying32 rfl T.sz3 (by decide)) rfl) (by decide) ?_
          refine GL.val (v := (.int .i64 ((W : Int)))) (Ex.load rfl T.ag3 (i := 12) rfl rfl) (by decide) ?_
          refine GL.val (v := (.int .i64 (lf + ((W : Int))))) (Ex.add rfl rfl (Z := lf + ((W : Int))) (w64 (by omega))) (by decide) ?_
          refine GL.val (v := (.int .i64 tp)) (Ex.move rfl) (by decide) ?_
          refine GL.val (v := (.pointer (some ⟨bq1, 1, none⟩))) (Ex.cast (Ex.fieldAddr rfl Try.underlying32 rfl T.sz3 (by decide)) rfl) (by decide) ?_
          refine GL.val (v := (.int .i64 ((H : Int)))) (Ex.load rfl T.ag3 (i := 12) rfl rfl) (by decide) ?_
          refine GL.val (v := (.int .i64 (tp + ((H : Int))))) (Ex.add rfl rfl (Z := tp + ((H : Int))) (w64 (by omega))) (by decide) ?_
          refine GL.val (v := (.agg #[(.int .i64 lf), (.int .i64 tp), (.int .i64 (lf + ((W : Int)))), (.int .i64 (tp + ((H : Int))))])) (Ex.build (vs := [(0, (.int .i64 lf)), (1, (.int .i64 tp)), (2, (.int .i64 (lf + ((W : Int))))), (3, (.int .i64 (tp + ((H : Int)))))]) rfl (by first | rfl | kernel_rfl)) (by decide) ?_
          refine GL.step (Stp.callR (σ := Nat) (p := fun rz => True) (v := fun rz => (.tuple #[(.agg #[(.int .i64 ((((lf + ((W : Int))).toNat - (lf).toNat : Nat) : Int))), (.int .i64 ((((tp + ((H : Int))).toNat - (tp).toNat : Nat) : Int))), (.slice (some ⟨rz, 0, none⟩) (((lf + ((W : Int))).toNat - (lf).toNat) * ((tp + ((H : Int))).toNat - (tp).toNat)) (((lf + ((W : Int))).toNat - (lf).toNat) * ((tp + ((H : Int))).toNat - (tp).toNat)))]), (.int .i64 0)])) (N := fun rz => [⟨rz, (crp (extd xs W H (lf).toNat (tp).toNat 1 2 kd) ((lf).toNat + W + 1) (lf).toNat (tp).toNat ((lf + ((W : Int))).toNat - (lf).toNat) ((tp + ((H : Int))).toNat - (tp).toNat)).map u32, 72, true⟩]) (vs := [(.agg #[(.int .i64 ((((lf).toNat + W + 1 : Nat) : Int))), (.int .i64 ((((tp).toNat + H + 2 : Nat) : Int))), (.slice (some ⟨xq31, 0, none⟩) (((lf).toNat + W + 1) * ((tp).toNat + H + 2)) (((lf).toNat + W + 1) * ((tp).toNat + H + 2)))]), (.agg #[(.int .i64 lf), (.int .i64 tp), (.int .i64 (lf + ((W : Int)))), (.int .i64 (tp + ((H : Int))))])]) rfl rfl T.own24 (by decide) (fun wc hw => (crop_I ((lf).toNat + W + 1) ((tp).toNat + H + 2) (((lf).toNat + W + 1) * ((tp).toNat + H + 2)) (((lf).toNat + W + 1) * ((tp).toNat + H + 2)) xq31 0 lf tp (lf + ((W : Int))) (tp + ((H : Int))) (extd xs W H (lf).toNat (tp).toNat 1 2 kd) wc (show okP ((lf).toNat + W + 1) ((tp).toNat + H + 2) from hok3) rfl (tab_len _ _ _) (hw.rdOf (i := 1) rfl 0) (by omega)))) (fun xq37 hq38 => ?_)
          refine GL.val (v := (.tuple #[(.agg #[(.int .i64 ((((lf + ((W : Int))).toNat - (lf).toNat : Nat) : Int))), (.int .i64 ((((tp + ((H : Int))).toNat - (tp).toNat : Nat) : Int))), (.slice (some ⟨xq37, 0, none⟩) (((lf + ((W : Int))).toNat - (lf).toNat) * ((tp + ((H : Int))).toNat - (tp).toNat)) (((lf + ((W : Int))).toNat - (lf).toNat) * ((tp + ((H : Int))).toNat - (tp).toNat)))]), (.int .i64 0)])) (Ex.move rfl) (by decide) ?_
          refine GL.val (v := (.agg #[(.int .i64 ((((lf + ((W : Int))).toNat - (lf).toNat : Nat) : Int))), (.int .i64 ((((tp + ((H : Int))).toNat - (tp).toNat : Nat) : Int))), (.slice (some ⟨xq37, 0, none⟩) (((lf + ((W : Int))).toNat - (lf).toNat) * ((tp + ((H : Int))).toNat - (tp).toNat)) (((lf + ((W : Int))).toNat - (lf).toNat) * ((tp + ((H : Int))).toNat - (tp).toNat)))])) (Ex.extract rfl rfl) (by decide) ?_
          refine GL.val (v := (.int .i64 0)) (Ex.extract rfl rfl) (by decide) ?_
          refine GL.step (Stp.alloc T.zr32 (by decide)) (fun bq39 _ => ?_)
          refine GL.step (Stp.storeL (i := 0) (L1 := [⟨bq39, [(.int .i64 ((((lf + ((W : Int))).toNat - (lf).toNat : Nat) : Int))), (.int .i64 ((((tp + ((H : Int))).toNat - (tp).toNat : Nat) : Int))), (.slice (some ⟨xq37, 0, none⟩) (((lf + ((W : Int))).toNat - (lf).toNat) * ((tp + ((H : Int))).toNat - (tp).toNat)) (((lf + ((W : Int))).toNat - (lf).toNat) * ((tp + ((H : Int))).toNat - (tp).toNat)))], 32, true⟩, ⟨xq37, (crp (extd xs W H (lf).toNat (tp).toNat 1 2 kd) ((lf).toNat + W + 1) (lf).toNat (tp).toNat ((lf + ((W : Int))).toNat - (lf).toNat) ((tp + ((H : Int))).toNat - (tp).toNat)).map u32, 72, true⟩, ⟨bq33, [(.int .i64 ((((lf).toNat + W + 1 : Nat) : Int))), (.int .i64 ((((tp).toNat + H + 2 : Nat) : Int))), (.slice (some ⟨xq31, 0, none⟩) (((lf).toNat + W + 1) * ((tp).toNat + H + 2)) (((lf).toNat + W + 1) * ((tp).toNat + H + 2)))], 32, true⟩, ⟨xq31, (extd xs W H (lf).toNat (tp).toNat 1 2 kd).map u32, 72, true⟩, ⟨bq27, [(.int .i64 ((((((X0 : Int)) + s1).toNat - (((X0 : Int)) + s0).toNat : Nat) : Int))), (.int .i64 ((((((Y0 : Int)) + t1).toNat - (((Y0 : Int)) + t0).toNat : Nat) : Int))), (.slice (some ⟨xq25, 0, none⟩) (((((X0 : Int)) + s1).toNat - (((X0 : Int)) + s0).toNat) * ((((Y0 : Int)) + t1).toNat - (((Y0 : Int)) + t0).toNat)) (((((X0 : Int)) + s1).toNat - (((X0 : Int)) + s0).toNat) * ((((Y0 : Int)) + t1).toNat - (((Y0 : Int)) + t0).toNat)))], 32, true⟩, ⟨xq25, (crp xs W (((X0 : Int)) + s0).toNat (((Y0 : Int)) + t0).toNat ((((X0 : Int)) + s1).toNat - (((X0 : Int)) + s0).toNat) ((((Y0 : Int)) + t1).toNat - (((Y0 : Int)) + t0).toNat)).map u32, 72, true⟩, ⟨bq21, [(.int .i64 ((((s1).toNat - (s0).toNat : Nat) : Int))), (.int .i64 ((((t1).toNat - (t0).toNat : Nat) : Int))), (.slice (some ⟨xq19, 0, none⟩) (((s1).toNat - (s0).toNat) * ((t1).toNat - (t0).toNat)) (((s1).toNat - (s0).toNat) * ((t1).toNat - (t0).toNat)))], 32, true⟩, ⟨xq19, (crp (crp xs W X0 Y0 (X1 - X0) (Y1 - Y0)) (X1 - X0) (s0).toNat (t0).toNat ((s1).toNat - (s0).toNat) ((t1).toNat - (t0).toNat)).map u32, 72, true⟩, ⟨bq15, [(.int .i64 (((W : Nat) : Int))), (.int .i64 (((H : Nat) : Int))), (.slice (some ⟨xq13, 0, none⟩) (W * H) (W * H))], 32, true⟩, ⟨xq13, (pstd xs (crp xs W X0 Y0 (X1 - X0) (Y1 - Y0)) W H (X1 - X0) (Y1 - Y0) ((X0 : Int)) ((Y0 : Int))).map u32, 72, true⟩, ⟨bq9, [(.int .i64 (((X1 - X0 : Nat) : Int))), (.int .i64 (((Y1 - Y0 : Nat) : Int))), (.slice (some ⟨xq7, 0, none⟩) ((X1 - X0) * (Y1 - Y0)) ((X1 - X0) * (Y1 - Y0)))], 32, true⟩, ⟨xq7, (crp xs W X0 Y0 (X1 - X0) (Y1 - Y0)).map u32, 72, true⟩, ⟨bq3, [(.int .i64 s0), (.int .i64 t0), (.int .i64 s1), (.int .i64 t1)], 54, true⟩, ⟨bq2, [(.int .i64 ((X0 : Int))), (.int .i64 ((Y0 : Int))), (.int .i64 ((X1 : Int))), (.int .i64 ((Y1 : Int)))], 54, true⟩, ⟨bq1, [(.int .i64 ((W : Int))), (.int .i64 ((H : Int))), (.slice (some ⟨b, o, none⟩) n cap)], 32, true⟩]) rfl rfl rfl T.sz32 rfl rfl rfl rfl) (fun _ _ => ?_)
          refine GL.val (v := (.int .i64 0)) (Ex.assign rfl) (by decide) ?_
          refine GL.nil ?_
          refine GE.thenN ?_
          refine GC.seq ?_
          refine GC.region ?_
          refine GL.val (v := (.agg #[(.int .i64 ((((lf + ((W : Int))).toNat - (lf).toNat : Nat) : Int))), (.int .i64 ((((tp + ((H : Int))).toNat - (tp).toNat : Nat) : Int))), (.slice (some ⟨xq37, 0, none⟩) (((lf + ((W : Int))).toNat - (lf).toNat) * ((tp + ((H : Int))).toNat - (tp).toNat)) (((lf + ((W : Int))).toNat - (lf).toNat) * ((tp + ((H : Int))).toNat - (tp).toNat)))])) (Ex.loadA rfl T.ag32 T.sz32 (i := 0) rfl (vs := [(.int .i64 ((((lf + ((W : Int))).toNat - (lf).toNat : Nat) : Int))), (.int .i64 ((((tp + ((H : Int))).toNat - (tp).toNat : Nat) : Int))), (.slice (some ⟨xq37, 0, none⟩) (((lf + ((W : Int))).toNat - (lf).toNat) * ((tp + ((H : Int))).toNat - (tp).toNat)) (((lf + ((W : Int))).toNat - (lf).toNat) * ((tp + ((H : Int))).toNat - (tp).toNat)))]) rfl rfl) (by decide) ?_
          refine GL.val (v := (.agg #[(.int .i64 ((W : Int))), (.int .i64 ((H : Int))), (.slice (some ⟨b, o, none⟩) n cap)])) (Ex.loadA rfl T.ag32 T.sz32 (i := 14) rfl (vs := [(.int .i64 ((W : Int))), (.int .i64 ((H : Int))), (.slice (some ⟨b, o, none⟩) n cap)]) rfl rfl) (by decide) ?_
          refine GL.step (Stp.callR (σ := Unit) (p := fun rz => True) (v := fun rz => (.bool true)) (N := fun rz => []) (vs := [(.agg #[(.int .i64 ((((lf + ((W : Int))).toNat - (lf).toNat : Nat) : Int))), (.int .i64 ((((tp + ((H : Int))).toNat - (tp).toNat : Nat) : Int))), (.slice (some ⟨xq37, 0, none⟩) (((lf + ((W : Int))).toNat - (lf).toNat) * ((tp + ((H : Int))).toNat - (tp).toNat)) (((lf + ((W : Int))).toNat - (lf).toNat) * ((tp + ((H : Int))).toNat - (tp).toNat)))]), (.agg #[(.int .i64 ((W : Int))), (.int .i64 ((H : Int))), (.slice (some ⟨b, o, none⟩) n cap)])]) rfl rfl T.own26 (by decide) (fun wc hw => (by have h := ref_eq ((((lf + ((W : Int))).toNat - (lf).toNat : Nat) : Int)) ((((tp + ((H : Int))).toNat - (tp).toNat : Nat) : Int)) ((W : Int)) ((H : Int)) xq37 0 (((lf + ((W : Int))).toNat - (lf).toNat) * ((tp + ((H : Int))).toNat - (tp).toNat)) (((lf + ((W : Int))).toNat - (lf).toNat) * ((tp + ((H : Int))).toNat - (tp).toNat)) b o n cap (crp (extd xs W H (lf).toNat (tp).toNat 1 2 kd) ((lf).toNat + W + 1) (lf).toNat (tp).toNat ((lf + ((W : Int))).toNat - (lf).toNat) ((tp + ((H : Int))).toNat - (tp).toNat)) xs wc crp_len hx (hw.rdOf (i := 1) rfl 0) (hw.rd hr (fun x => x)) (by have h' := ((show okP ((lf + ((W : Int))).toNat - (lf).toNat) ((tp + ((H : Int))).toNat - (tp).toNat) from (okP.part (show okP ((lf).toNat + W + 1) ((tp).toNat + H + 2) from hok3) (by omega) (by omega) (by omega) (by omega)))).2.2.2.2; omega); rw [show eqB ((((lf + ((W : Int))).toNat - (lf).toNat : Nat) : Int)) ((((tp + ((H : Int))).toNat - (tp).toNat : Nat) : Int)) (crp (extd xs W H (lf).toNat (tp).toNat 1 2 kd) ((lf).toNat + W + 1) (lf).toNat (tp).toNat ((lf + ((W : Int))).toNat - (lf).toNat) ((tp + ((H : Int))).toNat - (tp).toNat)) ((W : Int)) ((H : Int)) xs = true from eqB_self (by omega) (by omega) (by rw [show (lf + (W : Int)).toNat - lf.toNat = W by omega, show (tp + (H : Int)).toNat - tp.toNat = H by omega]; exact extd_mid hok hx' (bord_kind e1))] at h; exact h))) (fun xq40 hq41 => ?_)
          refine GL.val (v := (.bool true)) (Ex.assign rfl) (by decide) ?_
          refine GL.nil ?_
          refine GE.thenN ?_
          refine GC.ret ?_
          refine GC.ret1 rfl (Rv.tmp rfl) (fun wN HN => ?_)
          exact HN.ret () trivial rfl (List.nil_sublist _) rfl
        · refine GC.region ?_
          refine GL.val (v := (.agg #[(.int .i64 ((W : Int))), (.int .i64 ((H : Int))), (.slice (some ⟨b, o, none⟩) n cap)])) (Ex.loadA rfl T.ag32 T.sz32 (i := 10) rfl (vs := [(.int .i64 ((W : Int))), (.int .i64 ((H : Int))), (.slice (some ⟨b, o, none⟩) n cap)]) rfl rfl) (by decide) ?_
          refine GL.val (v := (.int .i64 kd)) (Ex.move rfl) (by decide) ?_
          refine GL.val (v := (.int .i64 lf)) (Ex.move rfl) (by decide) ?_
          refine GL.val (v := (.int .i64 tp)) (Ex.move rfl) (by decide) ?_
          refine GL.step (Stp.callR (σ := Unit) (p := fun rz => True) (v := fun rz => (.tuple #[(.agg #[(.int .i64 0), (.int .i64 0), (.slice none 0 0)]), (.int .i64 50)])) (N := fun rz => []) (vs := [(.agg #[(.int .i64 ((W : Int))), (.int .i64 ((H : Int))), (.slice (some ⟨b, o, none⟩) n cap)]), (.int .i64 kd), (.int .i64 lf), (.int .i64 tp), (.int .i64 1), (.int .i64 2)]) rfl rfl T.own19 (by decide) (fun wc hw => extend_big W H (some ⟨b, o, none⟩) n cap kd lf tp 1 2 wc (by omega) (by omega) hc0 e1 ⟨e2.1, e2.2, by decide, by decide⟩ (fun h => by have := fun hs => e3 ⟨h.1, h.2.1, hs⟩; simpa using this))) (fun xq42 hq43 => ?_)
          refine GL.val (v := (.tuple #[(.agg #[(.int .i64 0), (.int .i64 0), (.slice none 0 0)]), (.int .i64 50)])) (Ex.move rfl) (by decide) ?_
          refine GL.val (v := (.agg #[(.int .i64 0), (.int .i64 0), (.slice none 0 0)])) (Ex.extract rfl rfl) (by decide) ?_
          refine GL.val (v := (.int .i64 50)) (Ex.extract rfl rfl) (by decide) ?_
          refine GL.step (Stp.alloc T.zr32 (by decide)) (fun bq44 _ => ?_)
          refine GL.step (Stp.storeL (i := 0) (L1 := [⟨bq44, [(.int .i64 0), (.int .i64 0), (.slice none 0 0)], 32, true⟩, ⟨bq27, [(.int .i64 ((((((X0 : Int)) + s1).toNat - (((X0 : Int)) + s0).toNat : Nat) : Int))), (.int .i64 ((((((Y0 : Int)) + t1).toNat - (((Y0 : Int)) + t0).toNat : Nat) : Int))), (.slice (some ⟨xq25, 0, none⟩) (((((X0 : Int)) + s1).toNat - (((X0 : Int)) + s0).toNat) * ((((Y0 : Int)) + t1).toNat - (((Y0 : Int)) + t0).toNat)) (((((X0 : Int)) + s1).toNat - (((X0 : Int)) + s0).toNat) * ((((Y0 : Int)) + t1).toNat - (((Y0 : Int)) + t0).toNat)))], 32, true⟩, ⟨xq25, (crp xs W (((X0 : Int)) + s0).toNat (((Y0 : Int)) + t0).toNat ((((X0 : Int)) + s1).toNat - (((X0 : Int)) + s0).toNat) ((((Y0 : Int)) + t1).toNat - (((Y0 : Int)) + t0).toNat)).map u32, 72, true⟩, ⟨bq21, [(.int .i64 ((((s1).toNat - (s0).toNat : Nat) : Int))), (.int .i64 ((((t1).toNat - (t0).toNat : Nat) : Int))), (.slice (some ⟨xq19, 0, none⟩) (((s1).toNat - (s0).toNat) * ((t1).toNat - (t0).toNat)) (((s1).toNat - (s0).toNat) * ((t1).toNat - (t0).toNat)))], 32, true⟩, ⟨xq19, (crp (crp xs W X0 Y0 (X1 - X0) (Y1 - Y0)) (X1 - X0) (s0).toNat (t0).toNat ((s1).toNat - (s0).toNat) ((t1).toNat - (t0).toNat)).map u32, 72, true⟩, ⟨bq15, [(.int .i64 (((W : Nat) : Int))), (.int .i64 (((H : Nat) : Int))), (.slice (some ⟨xq13, 0, none⟩) (W * H) (W * H))], 32, true⟩, ⟨xq13, (pstd xs (crp xs W X0 Y0 (X1 - X0) (Y1 - Y0)) W H (X1 - X0) (Y1 - Y0) ((X0 : Int)) ((Y0 : Int))).map u32, 72, true⟩, ⟨bq9, [(.int .i64 (((X1 - X0 : Nat) : Int))), (.int .i64 (((Y1 - Y0 : Nat) : Int))), (.slice (some ⟨xq7, 0, none⟩) ((X1 - X0) * (Y1 - Y0)) ((X1 - X0) * (Y1 - Y0)))], 32, true⟩, ⟨xq7, (crp xs W X0 Y0 (X1 - X0) (Y1 - Y0)).map u32, 72, true⟩, ⟨bq3, [(.int .i64 s0), (.int .i64 t0), (.int .i64 s1), (.int .i64 t1)], 54, true⟩, ⟨bq2, [(.int .i64 ((X0 : Int))), (.int .i64 ((Y0 : Int))), (.int .i64 ((X1 : Int))), (.int .i64 ((Y1 : Int)))], 54, true⟩, ⟨bq1, [(.int .i64 ((W : Int))), (.int .i64 ((H : Int))), (.slice (some ⟨b, o, none⟩) n cap)], 32, true⟩]) rfl rfl rfl T.sz32 rfl rfl rfl rfl) (fun _ _ => ?_)
          refine GL.val (v := (.int .i64 50)) (Ex.assign rfl) (by decide) ?_
          refine GL.nil ?_
          refine GE.thenN ?_
          refine GC.seq ?_
          refine GC.seq ?_
          refine GC.region ?_
          refine GL.val (v := (.int .i64 50)) (Ex.move rfl) (by decide) ?_
          refine GL.step (Stp.callR (σ := Unit) (p := fun rz => True) (v := fun rz => (.int .i64 50)) (N := fun rz => []) (vs := [(.int .i64 50)]) rfl rfl T.own16 (by decide) (fun wc hw => num 50 wc)) (fun xq45 hq46 => ?_)
          refine GL.val (v := (.bool true)) (Ex.cast (Ex.neq rfl rfl) rfl) (by decide) ?_
          refine GL.nil ?_
          refine GE.thenN ?_
          refine GC.cond rfl (fun _ => ?_) (fun hq47 => by cases hq47)
          refine GC.seq ?_
          refine GC.region ?_
          refine GL.val (v := (.pointer (some ⟨bq44, 2, none⟩))) (Ex.cast (Ex.fieldAddr rfl Try.underlying32 rfl T.sz30 (by decide)) rfl) (by decide) ?_
          refine GL.val (v := (.slice none 0 0)) (Ex.load rfl T.ag30 (i := 0) rfl rfl) (by decide) ?_
          refine GL.val (v := (.int .i64 0)) (Ex.len rfl Try.underlying30) (by decide) ?_
          refine GL.val (v := (.bool true)) (Ex.cast (Ex.eql rfl rfl) rfl) (by decide) ?_
          refine GL.val (v := (.bool true)) (Ex.assign rfl) (by decide) ?_
          refine GL.nil ?_
          refine GE.thenN ?_
          refine GC.ret ?_
          refine GE.thenR ?_
          refine GC.ret1 rfl (Rv.tmp rfl) (fun wN HN => ?_)
          exact HN.ret () trivial rfl (List.nil_sublist _) rfl
      · refine GC.region ?_
        refine GL.val (v := (.agg #[(.int .i64 ((W : Int))), (.int .i64 ((H : Int))), (.slice (some ⟨b, o, none⟩) n cap)])) (Ex.loadA rfl T.ag32 T.sz32 (i := 10) rfl (vs := [(.int .i64 ((W : Int))), (.int .i64 ((H : Int))), (.slice (some ⟨b, o, none⟩) n cap)]) rfl rfl) (by decide) ?_
        refine GL.val (v := (.int .i64 kd)) (Ex.move rfl) (by decide) ?_
        refine GL.val (v := (.int .i64 lf)) (Ex.move rfl) (by decide) ?_
        refine GL.val (v := (.int .i64 tp)) (Ex.move rfl) (by decide) ?_
        refine GL.step (Stp.callR (σ := Unit) (p := fun rz => True) (v := fun rz => (.tuple #[(.agg #[(.int .i64 0), (.int .i64 0), (.slice none 0 0)]), (.int .i64 52)])) (N := fun rz => []) (vs := [(.agg #[(.int .i64 ((W : Int))), (.int .i64 ((H : Int))), (.slice (some ⟨b, o, none⟩) n cap)]), (.int .i64 kd), (.int .i64 lf), (.int .i64 tp), (.int .i64 1), (.int .i64 2)]) rfl rfl T.own19 (by decide) (fun wc hw => extend_neg W H (some ⟨b, o, none⟩) n cap kd lf tp 1 2 wc hc0 e1 (by omega))) (fun xq48 hq49 => ?_)
        refine GL.val (v := (.tuple #[(.agg #[(.int .i64 0), (.int .i64 0), (.slice none 0 0)]), (.int .i64 52)])) (Ex.move rfl) (by decide) ?_
        refine GL.val (v := (.agg #[(.int .i64 0), (.int .i64 0), (.slice none 0 0)])) (Ex.extract rfl rfl) (by decide) ?_
        refine GL.val (v := (.int .i64 52)) (Ex.extract rfl rfl) (by decide) ?_
        refine GL.step (Stp.alloc T.zr32 (by decide)) (fun bq50 _ => ?_)
        refine GL.step (Stp.storeL (i := 0) (L1 := [⟨bq50, [(.int .i64 0), (.int .i64 0), (.slice none 0 0)], 32, true⟩, ⟨bq27, [(.int .i64 ((((((X0 : Int)) + s1).toNat - (((X0 : Int)) + s0).toNat : Nat) : Int))), (.int .i64 ((((((Y0 : Int)) + t1).toNat - (((Y0 : Int)) + t0).toNat : Nat) : Int))), (.slice (some ⟨xq25, 0, none⟩) (((((X0 : Int)) + s1).toNat - (((X0 : Int)) + s0).toNat) * ((((Y0 : Int)) + t1).toNat - (((Y0 : Int)) + t0).toNat)) (((((X0 : Int)) + s1).toNat - (((X0 : Int)) + s0).toNat) * ((((Y0 : Int)) + t1).toNat - (((Y0 : Int)) + t0).toNat)))], 32, true⟩, ⟨xq25, (crp xs W (((X0 : Int)) + s0).toNat (((Y0 : Int)) + t0).toNat ((((X0 : Int)) + s1).toNat - (((X0 : Int)) + s0).toNat) ((((Y0 : Int)) + t1).toNat - (((Y0 : Int)) + t0).toNat)).map u32, 72, true⟩, ⟨bq21, [(.int .i64 ((((s1).toNat - (s0).toNat : Nat) : Int))), (.int .i64 ((((t1).toNat - (t0).toNat : Nat) : Int))), (.slice (some ⟨xq19, 0, none⟩) (((s1).toNat - (s0).toNat) * ((t1).toNat - (t0).toNat)) (((s1).toNat - (s0).toNat) * ((t1).toNat - (t0).toNat)))], 32, true⟩, ⟨xq19, (crp (crp xs W X0 Y0 (X1 - X0) (Y1 - Y0)) (X1 - X0) (s0).toNat (t0).toNat ((s1).toNat - (s0).toNat) ((t1).toNat - (t0).toNat)).map u32, 72, true⟩, ⟨bq15, [(.int .i64 (((W : Nat) : Int))), (.int .i64 (((H : Nat) : Int))), (.slice (some ⟨xq13, 0, none⟩) (W * H) (W * H))], 32, true⟩, ⟨xq13, (pstd xs (crp xs W X0 Y0 (X1 - X0) (Y1 - Y0)) W H (X1 - X0) (Y1 - Y0) ((X0 : Int)) ((Y0 : Int))).map u32, 72, true⟩, ⟨bq9, [(.int .i64 (((X1 - X0 : Nat) : Int))), (.int .i64 (((Y1 - Y0 : Nat) : Int))), (.slice (some ⟨xq7, 0, none⟩) ((X1 - X0) * (Y1 - Y0)) ((X1 - X0) * (Y1 - Y0)))], 32, true⟩, ⟨xq7, (crp xs W X0 Y0 (X1 - X0) (Y1 - Y0)).map u32, 72, true⟩, ⟨bq3, [(.int .i64 s0), (.int .i64 t0), (.int .i64 s1), (.int .i64 t1)], 54, true⟩, ⟨bq2, [(.int .i64 ((X0 : Int))), (.int .i64 ((Y0 : Int))), (.int .i64 ((X1 : Int))), (.int .i64 ((Y1 : Int)))], 54, true⟩, ⟨bq1, [(.int .i64 ((W : Int))), (.int .i64 ((H : Int))), (.slice (some ⟨b, o, none⟩) n cap)], 32, true⟩]) rfl rfl rfl T.sz32 rfl rfl rfl rfl) (fun _ _ => ?_)
        refine GL.val (v := (.int .i64 52)) (Ex.assign rfl) (by decide) ?_
        refine GL.nil ?_
        refine GE.thenN ?_
        refine GC.seq ?_
        refine GC.seq ?_
        refine GC.region ?_
        refine GL.val (v := (.int .i64 52)) (Ex.move rfl) (by decide) ?_
        refine GL.step (Stp.callR (σ := Unit) (p := fun rz => True) (v := fun rz => (.int .i64 52)) (N := fun rz => []) (vs := [(.int .i64 52)]) rfl rfl T.own16 (by decide) (fun wc hw => num 52 wc)) (fun xq51 hq52 => ?_)
        refine GL.val (v := (.bool true)) (Ex.cast (Ex.neq rfl rfl) rfl) (by decide) ?_
        refine GL.nil ?_
        refine GE.thenN ?_
        refine GC.cond rfl (fun _ => ?_) (fun hq53 => by cases hq53)
        refine GC.seq ?_
        refine GC.region ?_
        refine GL.val (v := (.pointer (some ⟨bq50, 2, none⟩))) (Ex.cast (Ex.fieldAddr rfl Try.underlying32 rfl T.sz30 (by decide)) rfl) (by decide) ?_
        refine GL.val (v := (.slice none 0 0)) (Ex.load rfl T.ag30 (i := 0) rfl rfl) (by decide) ?_
        refine GL.val (v := (.int .i64 0)) (Ex.len rfl Try.underlying30) (by decide) ?_
        refine GL.val (v := (.bool true)) (Ex.cast (Ex.eql rfl rfl) rfl) (by decide) ?_
        refine GL.val (v := (.bool true)) (Ex.assign rfl) (by decide) ?_
        refine GL.nil ?_
        refine GE.thenN ?_
        refine GC.ret ?_
        refine GE.thenR ?_
        refine GC.ret1 rfl (Rv.tmp rfl) (fun wN HN => ?_)
        exact HN.ret () trivial rfl (List.nil_sublist _) rfl
    · refine GC.region ?_
      refine GL.val (v := (.agg #[(.int .i64 ((W : Int))), (.int .i64 ((H : Int))), (.slice (some ⟨b, o, none⟩) n cap)])) (Ex.loadA rfl T.ag32 T.sz32 (i := 10) rfl (vs := [(.int .i64 ((W : Int))), (.int .i64 ((H : Int))), (.slice (some ⟨b, o, none⟩) n cap)]) rfl rfl) (by decide) ?_
      refine GL.val (v := (.int .i64 kd)) (Ex.move rfl) (by decide) ?_
      refine GL.val (v := (.int .i64 lf)) (Ex.move rfl) (by decide) ?_
      refine GL.val (v := (.int .i64 tp)) (Ex.move rfl) (by decide) ?_
      refine GL.step (Stp.callR (σ := Unit) (p := fun rz => True) (v := fun rz => (.tuple #[(.agg #[(.int .i64 0), (.int .i64 0), (.slice none 0 0)]), (.int .i64 ((bord kd 1 0).2))])) (N := fun rz => []) (vs := [(.agg #[(.int .i64 ((W : Int))), (.int .i64 ((H : Int))), (.slice (some ⟨b, o, none⟩) n cap)]), (.int .i64 kd), (.int .i64 lf), (.int .i64 tp), (.int .i64 1), (.int .i64 2)]) rfl rfl T.own19 (by decide) (fun wc hw => extend_k W H (some ⟨b, o, none⟩) n cap kd lf tp 1 2 wc hc0 e1)) (fun xq54 hq55 => ?_)
      refine GL.val (v := (.tuple #[(.agg #[(.int .i64 0), (.int .i64 0), (.slice none 0 0)]), (.int .i64 ((bord kd 1 0).2))])) (Ex.move rfl) (by decide) ?_
      refine GL.val (v := (.agg #[(.int .i64 0), (.int .i64 0), (.slice none 0 0)])) (Ex.extract rfl rfl) (by decide) ?_
      refine GL.val (v := (.int .i64 ((bord kd 1 0).2))) (Ex.extract rfl rfl) (by decide) ?_
      refine GL.step (Stp.alloc T.zr32 (by decide)) (fun bq56 _ => ?_)
      refine GL.step (Stp.storeL (i := 0) (L1 := [⟨bq56, [(.int .i64 0), (.int .i64 0), (.slice none 0 0)], 32, true⟩, ⟨bq27, [(.int .i64 ((((((X0 : Int)) + s1).toNat - (((X0 : Int)) + s0).toNat : Nat) : Int))), (.int .i64 ((((((Y0 : Int)) + t1).toNat - (((Y0 : Int)) + t0).toNat : Nat) : Int))), (.slice (some ⟨xq25, 0, none⟩) (((((X0 : Int)) + s1).toNat - (((X0 : Int)) + s0).toNat) * ((((Y0 : Int)) + t1).toNat - (((Y0 : Int)) + t0).toNat)) (((((X0 : Int)) + s1).toNat - (((X0 : Int)) + s0).toNat) * ((((Y0 : Int)) + t1).toNat - (((Y0 : Int)) + t0).toNat)))], 32, true⟩, ⟨xq25, (crp xs W (((X0 : Int)) + s0).toNat (((Y0 : Int)) + t0).toNat ((((X0 : Int)) + s1).toNat - (((X0 : Int)) + s0).toNat) ((((Y0 : Int)) + t1).toNat - (((Y0 : Int)) + t0).toNat)).map u32, 72, true⟩, ⟨bq21, [(.int .i64 ((((s1).toNat - (s0).toNat : Nat) : Int))), (.int .i64 ((((t1).toNat - (t0).toNat : Nat) : Int))), (.slice (some ⟨xq19, 0, none⟩) (((s1).toNat - (s0).toNat) * ((t1).toNat - (t0).toNat)) (((s1).toNat - (s0).toNat) * ((t1).toNat - (t0).toNat)))], 32, true⟩, ⟨xq19, (crp (crp xs W X0 Y0 (X1 - X0) (Y1 - Y0)) (X1 - X0) (s0).toNat (t0).toNat ((s1).toNat - (s0).toNat) ((t1).toNat - (t0).toNat)).map u32, 72, true⟩, ⟨bq15, [(.int .i64 (((W : Nat) : Int))), (.int .i64 (((H : Nat) : Int))), (.slice (some ⟨xq13, 0, none⟩) (W * H) (W * H))], 32, true⟩, ⟨xq13, (pstd xs (crp xs W X0 Y0 (X1 - X0) (Y1 - Y0)) W H (X1 - X0) (Y1 - Y0) ((X0 : Int)) ((Y0 : Int))).map u32, 72, true⟩, ⟨bq9, [(.int .i64 (((X1 - X0 : Nat) : Int))), (.int .i64 (((Y1 - Y0 : Nat) : Int))), (.slice (some ⟨xq7, 0, none⟩) ((X1 - X0) * (Y1 - Y0)) ((X1 - X0) * (Y1 - Y0)))], 32, true⟩, ⟨xq7, (crp xs W X0 Y0 (X1 - X0) (Y1 - Y0)).map u32, 72, true⟩, ⟨bq3, [(.int .i64 s0), (.int .i64 t0), (.int .i64 s1), (.int .i64 t1)], 54, true⟩, ⟨bq2, [(.int .i64 ((X0 : Int))), (.int .i64 ((Y0 : Int))), (.int .i64 ((X1 : Int))), (.int .i64 ((Y1 : Int)))], 54, true⟩, ⟨bq1, [(.int .i64 ((W : Int))), (.int .i64 ((H : Int))), (.slice (some ⟨b, o, none⟩) n cap)], 32, true⟩]) rfl rfl rfl T.sz32 rfl rfl rfl rfl) (fun _ _ => ?_)
      refine GL.val (v := (.int .i64 ((bord kd 1 0).2))) (Ex.assign rfl) (by decide) ?_
      refine GL.nil ?_
      refine GE.thenN ?_
      refine GC.seq ?_
      refine GC.seq ?_
      refine GC.region ?_
      refine GL.val (v := (.int .i64 ((bord kd 1 0).2))) (Ex.move rfl) (by decide) ?_
      refine GL.step (Stp.callR (σ := Unit) (p := fun rz => True) (v := fun rz => (.int .i64 ((bord kd 1 0).2))) (N := fun rz => []) (vs := [(.int .i64 ((bord kd 1 0).2))]) rfl rfl T.own16 (by decide) (fun wc hw => num ((bord kd 1 0).2) wc)) (fun xq57 hq58 => ?_)
      refine GL.val (v := (.bool true)) (Ex.cast (Ex.neq rfl rfl) (congrArg Value.bool (decide_eq_true (by exact e1)))) (by decide) ?_
      refine GL.nil ?_
      refine GE.thenN ?_
      refine GC.cond rfl (fun _ => ?_) (fun hq59 => by cases hq59)
      refine GC.seq ?_
      refine GC.region ?_
      refine GL.val (v := (.pointer (some ⟨bq56, 2, none⟩))) (Ex.cast (Ex.fieldAddr rfl Try.underlying32 rfl T.sz30 (by decide)) rfl) (by decide) ?_
      refine GL.val (v := (.slice none 0 0)) (Ex.load rfl T.ag30 (i := 0) rfl rfl) (by decide) ?_
      refine GL.val (v := (.int .i64 0)) (Ex.len rfl Try.underlying30) (by decide) ?_
      refine GL.val (v := (.bool true)) (Ex.cast (Ex.eql rfl rfl) rfl) (by decide) ?_
      refine GL.val (v := (.bool true)) (Ex.assign rfl) (by decide) ?_
      refine GL.nil ?_
      refine GE.thenN ?_
      refine GC.ret ?_
      refine GE.thenR ?_
      refine GC.ret1 rfl (Rv.tmp rfl) (fun wN HN => ?_)
      exact HN.ret () trivial rfl (List.nil_sublist _) rfl
  · refine GC.region ?_
    refine GL.val (v := (.agg #[(.int .i64 (((X1 - X0 : Nat) : Int))), (.int .i64 (((Y1 - Y0 : Nat) : Int))), (.slice (some ⟨xq7, 0, none⟩) ((X1 - X0) * (Y1 - Y0)) ((X1 - X0) * (Y1 - Y0)))])) (Ex.loadA rfl T.ag32 T.sz32 (i := 2) rfl (vs := [(.int .i64 (((X1 - X0 : Nat) : Int))), (.int .i64 (((Y1 - Y0 : Nat) : Int))), (.slice (some ⟨xq7, 0, none⟩) ((X1 - X0) * (Y1 - Y0)) ((X1 - X0) * (Y1 - Y0)))]) rfl rfl) (by decide) ?_
    refine GL.val (v := (.agg #[(.int .i64 s0), (.int .i64 t0), (.int .i64 s1), (.int .i64 t1)])) (Ex.loadA rfl T.ag54 T.sz54 (i := 4) rfl (vs := [(.int .i64 s0), (.int .i64 t0), (.int .i64 s1), (.int .i64 t1)]) rfl rfl) (by decide) ?_
    refine GL.step (Stp.callR (σ := Unit) (p := fun rz => True) (v := fun rz => (.tuple #[(.agg #[(.int .i64 0), (.int .i64 0), (.slice none 0 0)]), (.int .i64 52)])) (N := fun rz => []) (vs := [(.agg #[(.int .i64 (((X1 - X0 : Nat) : Int))), (.int .i64 (((Y1 - Y0 : Nat) : Int))), (.slice (some ⟨xq7, 0, none⟩) ((X1 - X0) * (Y1 - Y0)) ((X1 - X0) * (Y1 - Y0)))]), (.agg #[(.int .i64 s0), (.int .i64 t0), (.int .i64 s1), (.int .i64 t1)])]) rfl rfl T.own24 (by decide) (fun wc hw => crop_out (X1 - X0) (Y1 - Y0) ((X1 - X0) * (Y1 - Y0)) ((X1 - X0) * (Y1 - Y0)) (some ⟨xq7, 0, none⟩) s0 t0 s1 t1 wc (show okP (X1 - X0) (Y1 - Y0) from (okP.part hok (by omega) (by omega) (by omega) (by omega))) rfl s)) (fun xq60 hq61 => ?_)
    refine GL.val (v := (.tuple #[(.agg #[(.int .i64 0), (.int .i64 0), (.slice none 0 0)]), (.int .i64 52)])) (Ex.move rfl) (by decide) ?_
    refine GL.val (v := (.agg #[(.int .i64 0), (.int .i64 0), (.slice none 0 0)])) (Ex.extract rfl rfl) (by decide) ?_
    refine GL.val (v := (.int .i64 52)) (Ex.extract rfl rfl) (by decide) ?_
    refine GL.step (Stp.alloc T.zr32 (by decide)) (fun bq62 _ => ?_)
    refine GL.step (Stp.storeL (i := 0) (L1 := [⟨bq62, [(.int .i64 0), (.int .i64 0), (.slice none 0 0)], 32, true⟩, ⟨bq15, [(.int .i64 (((W : Nat) : Int))), (.int .i64 (((H : Nat) : Int))), (.slice (some ⟨xq13, 0, none⟩) (W * H) (W * H))], 32, true⟩, ⟨xq13, (pstd xs (crp xs W X0 Y0 (X1 - X0) (Y1 - Y0)) W H (X1 - X0) (Y1 - Y0) ((X0 : Int)) ((Y0 : Int))).map u32, 72, true⟩, ⟨bq9, [(.int .i64 (((X1 - X0 : Nat) : Int))), (.int .i64 (((Y1 - Y0 : Nat) : Int))), (.slice (some ⟨xq7, 0, none⟩) ((X1 - X0) * (Y1 - Y0)) ((X1 - X0) * (Y1 - Y0)))], 32, true⟩, ⟨xq7, (crp xs W X0 Y0 (X1 - X0) (Y1 - Y0)).map u32, 72, true⟩, ⟨bq3, [(.int .i64 s0), (.int .i64 t0), (.int .i64 s1), (.int .i64 t1)], 54, true⟩, ⟨bq2, [(.int .i64 ((X0 : Int))), (.int .i64 ((Y0 : Int))), (.int .i64 ((X1 : Int))), (.int .i64 ((Y1 : Int)))], 54, true⟩, ⟨bq1, [(.int .i64 ((W : Int))), (.int .i64 ((H : Int))), (.slice (some ⟨b, o, none⟩) n cap)], 32, true⟩]) rfl rfl rfl T.sz32 rfl rfl rfl rfl) (fun _ _ => ?_)
    refine GL.val (v := (.int .i64 52)) (Ex.assign rfl) (by decide) ?_
    refine GL.nil ?_
    refine GE.thenN ?_
    refine GC.seq ?_
    refine GC.seq ?_
    refine GC.region ?_
    refine GL.val (v := (.int .i64 52)) (Ex.move rfl) (by decide) ?_
    refine GL.step (Stp.callR (σ := Unit) (p := fun rz => True) (v := fun rz => (.int .i64 52)) (N := fun rz => []) (vs := [(.int .i64 52)]) rfl rfl T.own16 (by decide) (fun wc hw => num 52 wc)) (fun xq63 hq64 => ?_)
    refine GL.val (v := (.bool false)) (Ex.cast (Ex.eql rfl rfl) rfl) (by decide) ?_
    refine GL.nil ?_
    refine GE.thenN ?_
    refine GC.cond rfl (fun hq65 => by cases hq65) (fun _ => ?_)
    refine GC.skip ?_
    refine GE.thenN ?_
    refine GC.seq ?_
    by_cases e1 : (bord kd 1 0).2 = 0
    · by_cases e2 : 0 ≤ lf ∧ 0 ≤ tp
      · by_cases e3 : lf ≤ 1024 ∧ tp ≤ 1024 ∧ sizeB (lf + W + 1) (tp + H + 2) = true
        · have hok3 : okP (lf.toNat + W + 1) (tp.toNat + H + 2) := okP_of (by rw [show ((lf.toNat + W + 1 : Nat) : Int) = lf + W + 1 by omega, show ((tp.toNat + H + 2 : Nat) : Int) = tp + H + 2 by omega]; exact e3.2.2)
          refine GC.region ?_
          refine GL.val (v := (.agg #[(.int .i64 ((W : Int))), (.int .i64 ((H : Int))), (.slice (some ⟨b, o, none⟩) n cap)])) (Ex.loadA rfl T.ag32 T.sz32 (i := 7) rfl (vs := [(.int .i64 ((W : Int))), (.int .i64 ((H : Int))), (.slice (some ⟨b, o, none⟩) n cap)]) rfl rfl) (by decide) ?_
          refine GL.val (v := (.int .i64 kd)) (Ex.move rfl) (by decide) ?_
          refine GL.val (v := (.int .i64 lf)) (Ex.move rfl) (by decide) ?_
          refine GL.val (v := (.int .i64 tp)) (Ex.move rfl) (by decide) ?_
          refine GL.step (Stp.callR (σ := Nat) (p := fun rz => True) (v := fun rz => (.tuple #[(.agg #[(.int .i64 ((((lf).toNat + W + 1 : Nat) : Int))), (.int .i64 ((((tp).toNat + H + 2 : Nat) : Int))), (.slice (some ⟨rz, 0, none⟩) (((lf).toNat + W + 1) * ((tp).toNat + H + 2)) (((lf).toNat + W + 1) * ((tp).toNat + H + 2)))]), (.int .i64 0)])) (N := fun rz => [⟨rz, (extd xs W H (lf).toNat (tp).toNat 1 2 kd).map u32, 72, true⟩]) (vs := [(.agg #[(.int .i64 ((W : Int))), (.int .i64 ((H : Int))), (.slice (some ⟨b, o, none⟩) n cap)]), (.int .i64 kd), (.int .i64 lf), (.int .i64 tp), (.int .i64 1), (.int .i64 2)]) rfl rfl T.own19 (by decide) (fun wc hw => (extend_I W H n cap b o kd lf tp 1 2 xs wc hok hn hx (hw.rd hr (fun x => x)) (bord_kind e1) ⟨e2.1, e2.2, by decide, by decide⟩ ⟨e3.1, e3.2.1, by decide, by decide⟩ hok3))) (fun xq66 hq67 => ?_)
          refine GL.val (v := (.tuple #[(.agg #[(.int .i64 ((((lf).toNat + W + 1 : Nat) : Int))), (.int .i64 ((((tp).toNat + H + 2 : Nat) : Int))), (.slice (some ⟨xq66, 0, none⟩) (((lf).toNat + W + 1) * ((tp).toNat + H + 2)) (((lf).toNat + W + 1) * ((tp).toNat + H + 2)))]), (.int .i64 0)])) (Ex.move rfl) (by decide) ?_
          refine GL.val (v := (.agg #[(.int .i64 ((((lf).toNat + W + 1 : Nat) : Int))), (.int .i64 ((((tp).toNat + H + 2 : Nat) : Int))), (.slice (some ⟨xq66, 0, none⟩) (((lf).toNat + W + 1) * ((tp).toNat + H + 2)) (((lf).toNat + W + 1) * ((tp).toNat + H + 2)))])) (Ex.extract rfl rfl) (by decide) ?_
          refine GL.val (v := (.int .i64 0)) (Ex.extract rfl rfl) (by decide) ?_
          refine GL.step (Stp.alloc T.zr32 (by decide)) (fun bq68 _ => ?_)
          refine GL.step (Stp.storeL (i := 0) (L1 := [⟨bq68, [(.int .i64 ((((lf).toNat + W + 1 : Nat) : Int))), (.int .i64 ((((tp).toNat + H + 2 : Nat) : Int))), (.slice (some ⟨xq66, 0, none⟩) (((lf).toNat + W + 1) * ((tp).toNat + H + 2)) (((lf).toNat + W + 1) * ((tp).toNat + H + 2)))], 32, true⟩, ⟨xq66, (extd xs W H (lf).toNat (tp).toNat 1 2 kd).map u32, 72, true⟩, ⟨bq62, [(.int .i64 0), (.int .i64 0), (.slice none 0 0)], 32, true⟩, ⟨bq15, [(.int .i64 (((W : Nat) : Int))), (.int .i64 (((H : Nat) : Int))), (.slice (some ⟨xq13, 0, none⟩) (W * H) (W * H))], 32, true⟩, ⟨xq13, (pstd xs (crp xs W X0 Y0 (X1 - X0) (Y1 - Y0)) W H (X1 - X0) (Y1 - Y0) ((X0 : Int)) ((Y0 : Int))).map u32, 72, true⟩, ⟨bq9, [(.int .i64 (((X1 - X0 : Nat) : Int))), (.int .i64 (((Y1 - Y0 : Nat) : Int))), (.slice (some ⟨xq7, 0, none⟩) ((X1 - X0) * (Y1 - Y0)) ((X1 - X0) * (Y1 - Y0)))], 32, true⟩, ⟨xq7, (crp xs W X0 Y0 (X1 - X0) (Y1 - Y0)).map u32, 72, true⟩, ⟨bq3, [(.int .i64 s0), (.int .i64 t0), (.int .i64 s1), (.int .i64 t1)], 54, true⟩, ⟨bq2, [(.int .i64 ((X0 : Int))), (.int .i64 ((Y0 : Int))), (.int .i64 ((X1 : Int))), (.int .i64 ((Y1 : Int)))], 54, true⟩, ⟨bq1, [(.int .i64 ((W : Int))), (.int .i64 ((H : Int))), (.slice (some ⟨b, o, none⟩) n cap)], 32, true⟩]) rfl rfl rfl T.sz32 rfl rfl rfl rfl) (fun _ _ => ?_)
          refine GL.val (v := (.int .i64 0)) (Ex.assign rfl) (by decide) ?_
          refine GL.nil ?_
          refine GE.thenN ?_
          refine GC.seq ?_
          refine GC.seq ?_
          refine GC.region ?_
          refine GL.val (v := (.int .i64 0)) (Ex.move rfl) (by decide) ?_
          refine GL.step (Stp.callR (σ := Unit) (p := fun rz => True) (v := fun rz => (.int .i64 0)) (N := fun rz => []) (vs := [(.int .i64 0)]) rfl rfl T.own16 (by decide) (fun wc hw => num 0 wc)) (fun xq69 hq70 => ?_)
          refine GL.val (v := (.bool false)) (Ex.cast (Ex.neq rfl rfl) rfl) (by decide) ?_
          refine GL.nil ?_
          refine GE.thenN ?_
          refine GC.cond rfl (fun hq71 => by cases hq71) (fun _ => ?_)
          refine GC.skip ?_
          refine GE.thenN ?_
          refine GC.seq ?_
          refine GC.region ?_
          refine GL.val (v := (.agg #[(.int .i64 ((((lf).toNat + W + 1 : Nat) : Int))), (.int .i64 ((((tp).toNat + H + 2 : Nat) : Int))), (.slice (some ⟨xq66, 0, none⟩) (((lf).toNat + W + 1) * ((tp).toNat + H + 2)) (((lf).toNat + W + 1) * ((tp).toNat + H + 2)))])) (Ex.loadA rfl T.ag32 T.sz32 (i := 0) rfl (vs := [(.int .i64 ((((lf).toNat + W + 1 : Nat) : Int))), (.int .i64 ((((tp).toNat + H + 2 : Nat) : Int))), (.slice (some ⟨xq66, 0, none⟩) (((lf).toNat + W + 1) * ((tp).toNat + H + 2)) (((lf).toNat + W + 1) * ((tp).toNat + H + 2)))]) rfl rfl) (by decide) ?_
          refine GL.val (v := (.int .i64 lf)) (Ex.move rfl) (by decide) ?_
          refine GL.val (v := (.int .i64 tp)) (Ex.move rfl) (by decide) ?_
          refine GL.val (v := (.int .i64 lf)) (Ex.move rfl) (by decide) ?_
          refine GL.val (v := (.pointer (some ⟨bq1, 0, none⟩))) (Ex.cast (Ex.fieldAddr rfl Try.underlying32 rfl T.sz3 (by decide)) rfl) (by decide) ?_
          refine GL.val (v := (.int .i64 ((W : Int)))) (Ex.load rfl T.ag3 (i := 9) rfl rfl) (by decide) ?_
          refine GL.val (v := (.int .i64 (lf + ((W : Int))))) (Ex.add rfl rfl (Z := lf + ((W : Int))) (w64 (by omega))) (by decide) ?_
          refine GL.val (v := (.int .i64 tp)) (Ex.move rfl) (by decide) ?_
          refine GL.val (v := (.pointer (some ⟨bq1, 1, none⟩))) (Ex.cast (Ex.fieldAddr rfl Try.underlying32 rfl T.sz3 (by decide)) rfl) (by decide) ?_
          refine GL.val (v := (.int .i64 ((H : Int)))) (Ex.load rfl T.ag3 (i := 9) rfl rfl) (by decide) ?_
          refine GL.val (v := (.int .i64 (tp + ((H : Int))))) (Ex.add rfl rfl (Z := tp + ((H : Int))) (w64 (by omega))) (by decide) ?_
          refine GL.val (v := (.agg #[(.int .i64 lf), (.int .i64 tp), (.int .i64 (lf + ((W : Int)))), (.int .i64 (tp + ((H : Int))))])) (Ex.build (vs := [(0, (.int .i64 lf)), (1, (.int .i64 tp)), (2, (.int .i64 (lf + ((W : Int))))), (3, (.int .i64 (tp + ((H : Int)))))]) rfl (by first | rfl | kernel_rfl)) (by decide) ?_
          refine GL.step (Stp.callR (σ := Nat) (p := fun rz => True) (v := fun rz => (.tuple #[(.agg #[(.int .i64 ((((lf + ((W : Int))).toNat - (lf).toNat : Nat) : Int))), (.int .i64 ((((tp + ((H : Int))).toNat - (tp).toNat : Nat) : Int))), (.slice (some ⟨rz, 0, none⟩) (((lf + ((W : Int))).toNat - (lf).toNat) * ((tp + ((H : Int))).toNat - (tp).toNat)) (((lf + ((W : Int))).toNat - (lf).toNat) * ((tp + ((H : Int))).toNat - (tp).toNat)))]), (.int .i64 0)])) (N := fun rz => [⟨rz, (crp (extd xs W H (lf).toNat (tp).toNat 1 2 kd) ((lf).toNat + W + 1) (lf).toNat (tp).toNat ((lf + ((W : Int))).toNat - (lf).toNat) ((tp + ((H : Int))).toNat - (tp).toNat)).map u32, 72, true⟩]) (vs := [(.agg #[(.int .i64 ((((lf).toNat + W + 1 : Nat) : Int))), (.int .i64 ((((tp).toNat + H + 2 : Nat) : Int))), (.slice (some ⟨xq66, 0, none⟩) (((lf).toNat + W + 1) * ((tp).toNat + H + 2)) (((lf).toNat + W + 1) * ((tp).toNat + H + 2)))]), (.agg #[(.int .i64 lf), (.int .i64 tp), (.int .i64 (lf + ((W : Int)))), (.int .i64 (tp + ((H : Int))))])]) rfl rfl T.own24 (by decide) (fun wc hw => (crop_I ((lf).toNat + W + 1) ((tp).toNat + H + 2) (((lf).toNat + W + 1) * ((tp).toNat + H + 2)) (((lf).toNat + W + 1) * ((tp).toNat + H + 2)) xq66 0 lf tp (lf + ((W : Int))) (tp + ((H : Int))) (extd xs W H (lf).toNat (tp).toNat 1 2 kd) wc (show okP ((lf).toNat + W + 1) ((tp).toNat + H + 2) from hok3) rfl (tab_len _ _ _) (hw.rdOf (i := 1) rfl 0) (by omega)))) (fun xq72 hq73 => ?_)
          refine GL.val (v := (.tuple #[(.agg #[(.int .i64 ((((lf + ((W : Int))).toNat - (lf).toNat : Nat) : Int))), (.int .i64 ((((tp + ((H : Int))).toNat - (tp).toNat : Nat) : Int))), (.slice (some ⟨xq72, 0, none⟩) (((lf + ((W : Int))).toNat - (lf).toNat) * ((tp + ((H : Int))).toNat - (tp).toNat)) (((lf + ((W : Int))).toNat - (lf).toNat) * ((tp + ((H : Int))).toNat - (tp).toNat)))]), (.int .i64 0)])) (Ex.move rfl) (by decide) ?_
          refine GL.val (v := (.agg #[(.int .i64 ((((lf + ((W : Int))).toNat - (lf).toNat : Nat) : Int))), (.int .i64 ((((tp + ((H : Int))).toNat - (tp).toNat : Nat) : Int))), (.slice (some ⟨xq72, 0, none⟩) (((lf + ((W : Int))).toNat - (lf).toNat) * ((tp + ((H : Int))).toNat - (tp).toNat)) (((lf + ((W : Int))).toNat - (lf).toNat) * ((tp + ((H : Int))).toNat - (tp).toNat)))])) (Ex.extract rfl rfl) (by decide) ?_
          refine GL.val (v := (.int .i64 0)) (Ex.extract rfl rfl) (by decide) ?_
          refine GL.step (Stp.alloc T.zr32 (by decide)) (fun bq74 _ => ?_)
          refine GL.step (Stp.storeL (i := 0) (L1 := [⟨bq74, [(.int .i64 ((((lf + ((W : Int))).toNat - (lf).toNat : Nat) : Int))), (.int .i64 ((((tp + ((H : Int))).toNat - (tp).toNat : Nat) : Int))), (.slice (some ⟨xq72, 0, none⟩) (((lf + ((W : Int))).toNat - (lf).toNat) * ((tp + ((H : Int))).toNat - (tp).toNat)) (((lf + ((W : Int))).toNat - (lf).toNat) * ((tp + ((H : Int))).toNat - (tp).toNat)))], 32, true⟩, ⟨xq72, (crp (extd xs W H (lf).toNat (tp).toNat 1 2 kd) ((lf).toNat + W + 1) (lf).toNat (tp).toNat ((lf + ((W : Int))).toNat - (lf).toNat) ((tp + ((H : Int))).toNat - (tp).toNat)).map u32, 72, true⟩, ⟨bq68, [(.int .i64 ((((lf).toNat + W + 1 : Nat) : Int))), (.int .i64 ((((tp).toNat + H + 2 : Nat) : Int))), (.slice (some ⟨xq66, 0, none⟩) (((lf).toNat + W + 1) * ((tp).toNat + H + 2)) (((lf).toNat + W + 1) * ((tp).toNat + H + 2)))], 32, true⟩, ⟨xq66, (extd xs W H (lf).toNat (tp).toNat 1 2 kd).map u32, 72, true⟩, ⟨bq62, [(.int .i64 0), (.int .i64 0), (.slice none 0 0)], 32, true⟩, ⟨bq15, [(.int .i64 (((W : Nat) : Int))), (.int .i64 (((H : Nat) : Int))), (.slice (some ⟨xq13, 0, none⟩) (W * H) (W * H))], 32, true⟩, ⟨xq13, (pstd xs (crp xs W X0 Y0 (X1 - X0) (Y1 - Y0)) W H (X1 - X0) (Y1 - Y0) ((X0 : Int)) ((Y0 : Int))).map u32, 72, true⟩, ⟨bq9, [(.int .i64 (((X1 - X0 : Nat) : Int))), (.int .i64 (((Y1 - Y0 : Nat) : Int))), (.slice (some ⟨xq7, 0, none⟩) ((X1 - X0) * (Y1 - Y0)) ((X1 - X0) * (Y1 - Y0)))], 32, true⟩, ⟨xq7, (crp xs W X0 Y0 (X1 - X0) (Y1 - Y0)).map u32, 72, true⟩, ⟨bq3, [(.int .i64 s0), (.int .i64 t0), (.int .i64 s1), (.int .i64 t1)], 54, true⟩, ⟨bq2, [(.int .i64 ((X0 : Int))), (.int .i64 ((Y0 : Int))), (.int .i64 ((X1 : Int))), (.int .i64 ((Y1 : Int)))], 54, true⟩, ⟨bq1, [(.int .i64 ((W : Int))), (.int .i64 ((H : Int))), (.slice (some ⟨b, o, none⟩) n cap)], 32, true⟩]) rfl rfl rfl T.sz32 rfl rfl rfl rfl) (fun _ _ => ?_)
          refine GL.val (v := (.int .i64 0)) (Ex.assign rfl) (by decide) ?_
          refine GL.nil ?_
          refine GE.thenN ?_
          refine GC.seq ?_
          refine GC.region ?_
          refine GL.val (v := (.agg #[(.int .i64 ((((lf + ((W : Int))).toNat - (lf).toNat : Nat) : Int))), (.int .i64 ((((tp + ((H : Int))).toNat - (tp).toNat : Nat) : Int))), (.slice (some ⟨xq72, 0, none⟩) (((lf + ((W : Int))).toNat - (lf).toNat) * ((tp + ((H : Int))).toNat - (tp).toNat)) (((lf + ((W : Int))).toNat - (lf).toNat) * ((tp + ((H : Int))).toNat - (tp).toNat)))])) (Ex.loadA rfl T.ag32 T.sz32 (i := 0) rfl (vs := [(.int .i64 ((((lf + ((W : Int))).toNat - (lf).toNat : Nat) : Int))), (.int .i64 ((((tp + ((H : Int))).toNat - (tp).toNat : Nat) : Int))), (.slice (some ⟨xq72, 0, none⟩) (((lf + ((W : Int))).toNat - (lf).toNat) * ((tp + ((H : Int))).toNat - (tp).toNat)) (((lf + ((W : Int))).toNat - (lf).toNat) * ((tp + ((H : Int))).toNat - (tp).toNat)))]) rfl rfl) (by decide) ?_
          refine GL.val (v := (.agg #[(.int .i64 ((W : Int))), (.int .i64 ((H : Int))), (.slice (some ⟨b, o, none⟩) n cap)])) (Ex.loadA rfl T.ag32 T.sz32 (i := 11) rfl (vs := [(.int .i64 ((W : Int))), (.int .i64 ((H : Int))), (.slice (some ⟨b, o, none⟩) n cap)]) rfl rfl) (by decide) ?_
          refine GL.step (Stp.callR (σ := Unit) (p := fun rz => True) (v := fun rz => (.bool true)) (N := fun rz => []) (vs := [(.agg #[(.int .i64 ((((lf + ((W : Int))).toNat - (lf).toNat : Nat) : Int))), (.int .i64 ((((tp + ((H : Int))).toNat - (tp).toNat : Nat) : Int))), (.slice (some ⟨xq72, 0, none⟩) (((lf + ((W : Int))).toNat - (lf).toNat) * ((tp + ((H : Int))).toNat - (tp).toNat)) (((lf + ((W : Int))).toNat - (lf).toNat) * ((tp + ((H : Int))).toNat - (tp).toNat)))]), (.agg #[(.int .i64 ((W : Int))), (.int .i64 ((H : Int))), (.slice (some ⟨b, o, none⟩) n cap)])]) rfl rfl T.own26 (by decide) (fun wc hw => (by have h := ref_eq ((((lf + ((W : Int))).toNat - (lf).toNat : Nat) : Int)) ((((tp + ((H : Int))).toNat - (tp).toNat : Nat) : Int)) ((W : Int)) ((H : Int)) xq72 0 (((lf + ((W : Int))).toNat - (lf).toNat) * ((tp + ((H : Int))).toNat - (tp).toNat)) (((lf + ((W : Int))).toNat - (lf).toNat) * ((tp + ((H : Int))).toNat - (tp).toNat)) b o n cap (crp (extd xs W H (lf).toNat (tp).toNat 1 2 kd) ((lf).toNat + W + 1) (lf).toNat (tp).toNat ((lf + ((W : Int))).toNat - (lf).toNat) ((tp + ((H : Int))).toNat - (tp).toNat)) xs wc crp_len hx (hw.rdOf (i := 1) rfl 0) (hw.rd hr (fun x => x)) (by have h' := ((show okP ((lf + ((W : Int))).toNat - (lf).toNat) ((tp + ((H : Int))).toNat - (tp).toNat) from (okP.part (show okP ((lf).toNat + W + 1) ((tp).toNat + H + 2) from hok3) (by omega) (by omega) (by omega) (by omega)))).2.2.2.2; omega); rw [show eqB ((((lf + ((W : Int))).toNat - (lf).toNat : Nat) : Int)) ((((tp + ((H : Int))).toNat - (tp).toNat : Nat) : Int)) (crp (extd xs W H (lf).toNat (tp).toNat 1 2 kd) ((lf).toNat + W + 1) (lf).toNat (tp).toNat ((lf + ((W : Int))).toNat - (lf).toNat) ((tp + ((H : Int))).toNat - (tp).toNat)) ((W : Int)) ((H : Int)) xs = true from eqB_self (by omega) (by omega) (by rw [show (lf + (W : Int)).toNat - lf.toNat = W by omega, show (tp + (H : Int)).toNat - tp.toNat = H by omega]; exact extd_mid hok hx' (bord_kind e1))] at h; exact h))) (fun xq75 hq76 => ?_)
          refine GL.val (v := (.bool true)) (Ex.assign rfl) (by decide) ?_
          refine GL.nil ?_
          refine GE.thenN ?_
          refine GC.ret ?_
          refine GC.ret1 rfl (Rv.tmp rfl) (fun wN HN => ?_)
          exact HN.ret () trivial rfl (List.nil_sublist _) rfl
        · refine GC.region ?_
          refine GL.val (v := (.agg #[(.int .i64 ((W : Int))), (.int .i64 ((H : Int))), (.slice (some ⟨b, o, none⟩) n cap)])) (Ex.loadA rfl T.ag32 T.sz32 (i := 7) rfl (vs := [(.int .i64 ((W : Int))), (.int .i64 ((H : Int))), (.slice (some ⟨b, o, none⟩) n cap)]) rfl rfl) (by decide) ?_
          refine GL.val (v := (.int .i64 kd)) (Ex.move rfl) (by decide) ?_
          refine GL.val (v := (.int .i64 lf)) (Ex.move rfl) (by decide) ?_
          refine GL.val (v := (.int .i64 tp)) (Ex.move rfl) (by decide) ?_
          refine GL.step (Stp.callR (σ := Unit) (p := fun rz => True) (v := fun rz => (.tuple #[(.agg #[(.int .i64 0), (.int .i64 0), (.slice none 0 0)]), (.int .i64 50)])) (N := fun rz => []) (vs := [(.agg #[(.int .i64 ((W : Int))), (.int .i64 ((H : Int))), (.slice (some ⟨b, o, none⟩) n cap)]), (.int .i64 kd), (.int .i64 lf), (.int .i64 tp), (.int .i64 1), (.int .i64 2)]) rfl rfl T.own19 (by decide) (fun wc hw => extend_big W H (some ⟨b, o, none⟩) n cap kd lf tp 1 2 wc (by omega) (by omega) hc0 e1 ⟨e2.1, e2.2, by decide, by decide⟩ (fun h => by have := fun hs => e3 ⟨h.1, h.2.1, hs⟩; simpa using this))) (fun xq77 hq78 => ?_)
          refine GL.val (v := (.tuple #[(.agg #[(.int .i64 0), (.int .i64 0), (.slice none 0 0)]), (.int .i64 50)])) (Ex.move rfl) (by decide) ?_
          refine GL.val (v := (.agg #[(.int .i64 0), (.int .i64 0), (.slice none 0 0)])) (Ex.extract rfl rfl) (by decide) ?_
          refine GL.val (v := (.int .i64 50)) (Ex.extract rfl rfl) (by decide) ?_
          refine GL.step (Stp.alloc T.zr32 (by decide)) (fun bq79 _ => ?_)
          refine GL.step (Stp.storeL (i := 0) (L1 := [⟨bq79, [(.int .i64 0), (.int .i64 0), (.slice none 0 0)], 32, true⟩, ⟨bq62, [(.int .i64 0), (.int .i64 0), (.slice none 0 0)], 32, true⟩, ⟨bq15, [(.int .i64 (((W : Nat) : Int))), (.int .i64 (((H : Nat) : Int))), (.slice (some ⟨xq13, 0, none⟩) (W * H) (W * H))], 32, true⟩, ⟨xq13, (pstd xs (crp xs W X0 Y0 (X1 - X0) (Y1 - Y0)) W H (X1 - X0) (Y1 - Y0) ((X0 : Int)) ((Y0 : Int))).map u32, 72, true⟩, ⟨bq9, [(.int .i64 (((X1 - X0 : Nat) : Int))), (.int .i64 (((Y1 - Y0 : Nat) : Int))), (.slice (some ⟨xq7, 0, none⟩) ((X1 - X0) * (Y1 - Y0)) ((X1 - X0) * (Y1 - Y0)))], 32, true⟩, ⟨xq7, (crp xs W X0 Y0 (X1 - X0) (Y1 - Y0)).map u32, 72, true⟩, ⟨bq3, [(.int .i64 s0), (.int .i64 t0), (.int .i64 s1), (.int .i64 t1)], 54, true⟩, ⟨bq2, [(.int .i64 ((X0 : Int))), (.int .i64 ((Y0 : Int))), (.int .i64 ((X1 : Int))), (.int .i64 ((Y1 : Int)))], 54, true⟩, ⟨bq1, [(.int .i64 ((W : Int))), (.int .i64 ((H : Int))), (.slice (some ⟨b, o, none⟩) n cap)], 32, true⟩]) rfl rfl rfl T.sz32 rfl rfl rfl rfl) (fun _ _ => ?_)
          refine GL.val (v := (.int .i64 50)) (Ex.assign rfl) (by decide) ?_
          refine GL.nil ?_
          refine GE.thenN ?_
          refine GC.seq ?_
          refine GC.seq ?_
          refine GC.region ?_
          refine GL.val (v := (.int .i64 50)) (Ex.move rfl) (by decide) ?_
          refine GL.step (Stp.callR (σ := Unit) (p := fun rz => True) (v := fun rz => (.int .i64 50)) (N := fun rz => []) (vs := [(.int .i64 50)]) rfl rfl T.own16 (by decide) (fun wc hw => num 50 wc)) (fun xq80 hq81 => ?_)
          refine GL.val (v := (.bool true)) (Ex.cast (Ex.neq rfl rfl) rfl) (by decide) ?_
          refine GL.nil ?_
          refine GE.thenN ?_
          refine GC.cond rfl (fun _ => ?_) (fun hq82 => by cases hq82)
          refine GC.seq ?_
          refine GC.region ?_
          refine GL.val (v := (.pointer (some ⟨bq79, 2, none⟩))) (Ex.cast (Ex.fieldAddr rfl Try.underlying32 rfl T.sz30 (by decide)) rfl) (by decide) ?_
          refine GL.val (v := (.slice none 0 0)) (Ex.load rfl T.ag30 (i := 0) rfl rfl) (by decide) ?_
          refine GL.val (v := (.int .i64 0)) (Ex.len rfl Try.underlying30) (by decide) ?_
          refine GL.val (v := (.bool true)) (Ex.cast (Ex.eql rfl rfl) rfl) (by decide) ?_
          refine GL.val (v := (.bool true)) (Ex.assign rfl) (by decide) ?_
          refine GL.nil ?_
          refine GE.thenN ?_
          refine GC.ret ?_
          refine GE.thenR ?_
          refine GC.ret1 rfl (Rv.tmp rfl) (fun wN HN => ?_)
          exact HN.ret () trivial rfl (List.nil_sublist _) rfl
      · refine GC.region ?_
        refine GL.val (v := (.agg #[(.int .i64 ((W : Int))), (.int .i64 ((H : Int))), (.slice (some ⟨b, o, none⟩) n cap)])) (Ex.loadA rfl T.ag32 T.sz32 (i := 7) rfl (vs := [(.int .i64 ((W : Int))), (.int .i64 ((H : Int))), (.slice (some ⟨b, o, none⟩) n cap)]) rfl rfl) (by decide) ?_
        refine GL.val (v := (.int .i64 kd)) (Ex.move rfl) (by decide) ?_
        refine GL.val (v := (.int .i64 lf)) (Ex.move rfl) (by decide) ?_
        refine GL.val (v := (.int .i64 tp)) (Ex.move rfl) (by decide) ?_
        refine GL.step (Stp.callR (σ := Unit) (p := fun rz => True) (v := fun rz => (.tuple #[(.agg #[(.int .i64 0), (.int .i64 0), (.slice none 0 0)]), (.int .i64 52)])) (N := fun rz => []) (vs := [(.agg #[(.int .i64 ((W : Int))), (.int .i64 ((H : Int))), (.slice (some ⟨b, o, none⟩) n cap)]), (.int .i64 kd), (.int .i64 lf), (.int .i64 tp), (.int .i64 1), (.int .i64 2)]) rfl rfl T.own19 (by decide) (fun wc hw => extend_neg W H (some ⟨b, o, none⟩) n cap kd lf tp 1 2 wc hc0 e1 (by omega))) (fun xq83 hq84 => ?_)
        refine GL.val (v := (.tuple #[(.agg #[(.int .i64 0), (.int .i64 0), (.slice none 0 0)]), (.int .i64 52)])) (Ex.move rfl) (by decide) ?_
        refine GL.val (v := (.agg #[(.int .i64 0), (.int .i64 0), (.slice none 0 0)])) (Ex.extract rfl rfl) (by decide) ?_
        refine GL.val (v := (.int .i64 52)) (Ex.extract rfl rfl) (by decide) ?_
        refine GL.step (Stp.alloc T.zr32 (by decide)) (fun bq85 _ => ?_)
        refine GL.step (Stp.storeL (i := 0) (L1 := [⟨bq85, [(.int .i64 0), (.int .i64 0), (.slice none 0 0)], 32, true⟩, ⟨bq62, [(.int .i64 0), (.int .i64 0), (.slice none 0 0)], 32, true⟩, ⟨bq15, [(.int .i64 (((W : Nat) : Int))), (.int .i64 (((H : Nat) : Int))), (.slice (some ⟨xq13, 0, none⟩) (W * H) (W * H))], 32, true⟩, ⟨xq13, (pstd xs (crp xs W X0 Y0 (X1 - X0) (Y1 - Y0)) W H (X1 - X0) (Y1 - Y0) ((X0 : Int)) ((Y0 : Int))).map u32, 72, true⟩, ⟨bq9, [(.int .i64 (((X1 - X0 : Nat) : Int))), (.int .i64 (((Y1 - Y0 : Nat) : Int))), (.slice (some ⟨xq7, 0, none⟩) ((X1 - X0) * (Y1 - Y0)) ((X1 - X0) * (Y1 - Y0)))], 32, true⟩, ⟨xq7, (crp xs W X0 Y0 (X1 - X0) (Y1 - Y0)).map u32, 72, true⟩, ⟨bq3, [(.int .i64 s0), (.int .i64 t0), (.int .i64 s1), (.int .i64 t1)], 54, true⟩, ⟨bq2, [(.int .i64 ((X0 : Int))), (.int .i64 ((Y0 : Int))), (.int .i64 ((X1 : Int))), (.int .i64 ((Y1 : Int)))], 54, true⟩, ⟨bq1, [(.int .i64 ((W : Int))), (.int .i64 ((H : Int))), (.slice (some ⟨b, o, none⟩) n cap)], 32, true⟩]) rfl rfl rfl T.sz32 rfl rfl rfl rfl) (fun _ _ => ?_)
        refine GL.val (v := (.int .i64 52)) (Ex.assign rfl) (by decide) ?_
        refine GL.nil ?_
        refine GE.thenN ?_
        refine GC.seq ?_
        refine GC.seq ?_
        refine GC.region ?_
        refine GL.val (v := (.int .i64 52)) (Ex.move rfl) (by decide) ?_
        refine GL.step (Stp.callR (σ := Unit) (p := fun rz => True) (v := fun rz => (.int .i64 52)) (N := fun rz => []) (vs := [(.int .i64 52)]) rfl rfl T.own16 (by decide) (fun wc hw => num 52 wc)) (fun xq86 hq87 => ?_)
        refine GL.val (v := (.bool true)) (Ex.cast (Ex.neq rfl rfl) rfl) (by decide) ?_
        refine GL.nil ?_
        refine GE.thenN ?_
        refine GC.cond rfl (fun _ => ?_) (fun hq88 => by cases hq88)
        refine GC.seq ?_
        refine GC.region ?_
        refine GL.val (v := (.pointer (some ⟨bq85, 2, none⟩))) (Ex.cast (Ex.fieldAddr rfl Try.underlying32 rfl T.sz30 (by decide)) rfl) (by decide) ?_
        refine GL.val (v := (.slice none 0 0)) (Ex.load rfl T.ag30 (i := 0) rfl rfl) (by decide) ?_
        refine GL.val (v := (.int .i64 0)) (Ex.len rfl Try.underlying30) (by decide) ?_
        refine GL.val (v := (.bool true)) (Ex.cast (Ex.eql rfl rfl) rfl) (by decide) ?_
        refine GL.val (v := (.bool true)) (Ex.assign rfl) (by decide) ?_
        refine GL.nil ?_
        refine GE.thenN ?_
        refine GC.ret ?_
        refine GE.thenR ?_
        refine GC.ret1 rfl (Rv.tmp rfl) (fun wN HN => ?_)
        exact HN.ret () trivial rfl (List.nil_sublist _) rfl
    · refine GC.region ?_
      refine GL.val (v := (.agg #[(.int .i64 ((W : Int))), (.int .i64 ((H : Int))), (.slice (some ⟨b, o, none⟩) n cap)])) (Ex.loadA rfl T.ag32 T.sz32 (i := 7) rfl (vs := [(.int .i64 ((W : Int))), (.int .i64 ((H : Int))), (.slice (some ⟨b, o, none⟩) n cap)]) rfl rfl) (by decide) ?_
      refine GL.val (v := (.int .i64 kd)) (Ex.move rfl) (by decide) ?_
      refine GL.val (v := (.int .i64 lf)) (Ex.move rfl) (by decide) ?_
      refine GL.val (v := (.int .i64 tp)) (Ex.move rfl) (by decide) ?_
      refine GL.step (Stp.callR (σ := Unit) (p := fun rz => True) (v := fun rz => (.tuple #[(.agg #[(.int .i64 0), (.int .i64 0), (.slice none 0 0)]), (.int .i64 ((bord kd 1 0).2))])) (N := fun rz => []) (vs := [(.agg #[(.int .i64 ((W : Int))), (.int .i64 ((H : Int))), (.slice (some ⟨b, o, none⟩) n cap)]), (.int .i64 kd), (.int .i64 lf), (.int .i64 tp), (.int .i64 1), (.int .i64 2)]) rfl rfl T.own19 (by decide) (fun wc hw => extend_k W H (some ⟨b, o, none⟩) n cap kd lf tp 1 2 wc hc0 e1)) (fun xq89 hq90 => ?_)
      refine GL.val (v := (.tuple #[(.agg #[(.int .i64 0), (.int .i64 0), (.slice none 0 0)]), (.int .i64 ((bord kd 1 0).2))])) (Ex.move rfl) (by decide) ?_
      refine GL.val (v := (.agg #[(.int .i64 0), (.int .i64 0), (.slice none 0 0)])) (Ex.extract rfl rfl) (by decide) ?_
      refine GL.val (v := (.int .i64 ((bord kd 1 0).2))) (Ex.extract rfl rfl) (by decide) ?_
      refine GL.step (Stp.alloc T.zr32 (by decide)) (fun bq91 _ => ?_)
      refine GL.step (Stp.storeL (i := 0) (L1 := [⟨bq91, [(.int .i64 0), (.int .i64 0), (.slice none 0 0)], 32, true⟩, ⟨bq62, [(.int .i64 0), (.int .i64 0), (.slice none 0 0)], 32, true⟩, ⟨bq15, [(.int .i64 (((W : Nat) : Int))), (.int .i64 (((H : Nat) : Int))), (.slice (some ⟨xq13, 0, none⟩) (W * H) (W * H))], 32, true⟩, ⟨xq13, (pstd xs (crp xs W X0 Y0 (X1 - X0) (Y1 - Y0)) W H (X1 - X0) (Y1 - Y0) ((X0 : Int)) ((Y0 : Int))).map u32, 72, true⟩, ⟨bq9, [(.int .i64 (((X1 - X0 : Nat) : Int))), (.int .i64 (((Y1 - Y0 : Nat) : Int))), (.slice (some ⟨xq7, 0, none⟩) ((X1 - X0) * (Y1 - Y0)) ((X1 - X0) * (Y1 - Y0)))], 32, true⟩, ⟨xq7, (crp xs W X0 Y0 (X1 - X0) (Y1 - Y0)).map u32, 72, true⟩, ⟨bq3, [(.int .i64 s0), (.int .i64 t0), (.int .i64 s1), (.int .i64 t1)], 54, true⟩, ⟨bq2, [(.int .i64 ((X0 : Int))), (.int .i64 ((Y0 : Int))), (.int .i64 ((X1 : Int))), (.int .i64 ((Y1 : Int)))], 54, true⟩, ⟨bq1, [(.int .i64 ((W : Int))), (.int .i64 ((H : Int))), (.slice (some ⟨b, o, none⟩) n cap)], 32, true⟩]) rfl rfl rfl T.sz32 rfl rfl rfl rfl) (fun _ _ => ?_)
      refine GL.val (v := (.int .i64 ((bord kd 1 0).2))) (Ex.assign rfl) (by decide) ?_
      refine GL.nil ?_
      refine GE.thenN ?_
      refine GC.seq ?_
      refine GC.seq ?_
      refine GC.region ?_
      refine GL.val (v := (.int .i64 ((bord kd 1 0).2))) (Ex.move rfl) (by decide) ?_
      refine GL.step (Stp.callR (σ := Unit) (p := fun rz => True) (v := fun rz => (.int .i64 ((bord kd 1 0).2))) (N := fun rz => []) (vs := [(.int .i64 ((bord kd 1 0).2))]) rfl rfl T.own16 (by decide) (fun wc hw => num ((bord kd 1 0).2) wc)) (fun xq92 hq93 => ?_)
      refine GL.val (v := (.bool true)) (Ex.cast (Ex.neq rfl rfl) (congrArg Value.bool (decide_eq_true (by exact e1)))) (by decide) ?_
      refine GL.nil ?_
      refine GE.thenN ?_
      refine GC.cond rfl (fun _ => ?_) (fun hq94 => by cases hq94)
      refine GC.seq ?_
      refine GC.region ?_
      refine GL.val (v := (.pointer (some ⟨bq91, 2, none⟩))) (Ex.cast (Ex.fieldAddr rfl Try.underlying32 rfl T.sz30 (by decide)) rfl) (by decide) ?_
      refine GL.val (v := (.slice none 0 0)) (Ex.load rfl T.ag30 (i := 0) rfl rfl) (by decide) ?_
      refine GL.val (v := (.int .i64 0)) (Ex.len rfl Try.underlying30) (by decide) ?_
      refine GL.val (v := (.bool true)) (Ex.cast (Ex.eql rfl rfl) rfl) (by decide) ?_
      refine GL.val (v := (.bool true)) (Ex.assign rfl) (by decide) ?_
      refine GL.nil ?_
      refine GE.thenN ?_
      refine GC.ret ?_
      refine GE.thenR ?_
      refine GC.ret1 rfl (Rv.tmp rfl) (fun wN HN => ?_)
      exact HN.ret () trivial rfl (List.nil_sublist _) rfl

set_option maxRecDepth 100000 in
set_option maxHeartbeats 1000000 in
theorem pieces_out (W H n cap : Nat) (ad : Option Addr) (x0 y0 x1 y1 : Int) (s0 t0 s1 t1 kd lf tp : Int) (w : World) (hok : okP W H) (hn : n = W * H) (hR : ¬ (0 ≤ x0 ∧ x0 < x1 ∧ x1 ≤ W ∧ 0 ≤ y0 ∧ y0 < y1 ∧ y1 ≤ H)) :
    Calls Try.prog 6 #[(.agg #[(.int .i64 ((W : Int))), (.int .i64 ((H : Int))), (.slice ad n cap)]), (.agg #[(.int .i64 x0), (.int .i64 y0), (.int .i64 x1), (.int .i64 y1)]), (.agg #[(.int .i64 s0), (.int .i64 t0), (.int .i64 s1), (.int .i64 t1)]), (.int .i64 kd), (.int .i64 lf), (.int .i64 tp)] w (Ret w (fun _ : Unit => True) (fun _ => .bool true) (fun _ => [])) := by
  refine enter (M := None) (L := []) (n := 127) (l := [(0, (.agg #[(.int .i64 ((W : Int))), (.int .i64 ((H : Int))), (.slice ad n cap)])), (1, (.agg #[(.int .i64 x0), (.int .i64 y0), (.int .i64 x1), (.int .i64 y1)])), (2, (.agg #[(.int .i64 s0), (.int .i64 t0), (.int .i64 s1), (.int .i64 t1)])), (3, (.int .i64 kd)), (4, (.int .i64 lf)), (5, (.int .i64 tp))]) Try.func6 rfl rfl (Args.cons rfl (Args.cons rfl (Args.cons rfl (Args.cons rfl (Args.cons rfl (Args.cons rfl (Args.nil _))))))) (Hp.start _ _) ?_
  refine GC.seq ?_
  refine GC.region ?_
  refine GL.step (Stp.box (cs := [(.int .i64 ((W : Int))), (.int .i64 ((H : Int))), (.slice ad n cap)]) rfl rfl (by decide)) (fun bq1 _ => ?_)
  refine GL.step (Stp.box (cs := [(.int .i64 x0), (.int .i64 y0), (.int .i64 x1), (.int .i64 y1)]) rfl rfl (by decide)) (fun bq2 _ => ?_)
  refine GL.step (Stp.box (cs := [(.int .i64 s0), (.int .i64 t0), (.int .i64 s1), (.int .i64 t1)]) rfl rfl (by decide)) (fun bq3 _ => ?_)
  refine GL.val (v := (.bool false)) (Ex.assign rfl) (by decide) ?_
  refine GL.nil ?_
  refine GE.thenN ?_
  refine GC.seq ?_
  refine GC.seq ?_
  refine GC.region ?_
  refine GL.step (Stp.callR (σ := Unit) (p := fun rz => True) (v := fun rz => (.bool true)) (N := fun rz => []) (vs := []) rfl rfl T.own13 (by decide) (fun wc hw => known wc)) (fun xq4 hq5 => ?_)
  refine GL.val (v := (.bool false)) (Ex.cast (Ex.not rfl) rfl) (by decide) ?_
  refine GL.nil ?_
  refine GE.thenN ?_
  refine GC.cond rfl (fun hq6 => by cases hq6) (fun _ => ?_)
  refine GC.skip ?_
  refine GE.thenN ?_
  refine GC.seq ?_
  refine GC.region ?_
  refine GL.val (v := (.agg #[(.int .i64 ((W : Int))), (.int .i64 ((H : Int))), (.slice ad n cap)])) (Ex.loadA rfl T.ag32 T.sz32 (i := 2) rfl (vs := [(.int .i64 ((W : Int))), (.int .i64 ((H : Int))), (.slice ad n cap)]) rfl rfl) (by decide) ?_
  refine GL.val (v := (.agg #[(.int .i64 x0), (.int .i64 y0), (.int .i64 x1), (.int .i64 y1)])) (Ex.loadA rfl T.ag54 T.sz54 (i := 1) rfl (vs := [(.int .i64 x0), (.int .i64 y0), (.int .i64 x1), (.int .i64 y1)]) rfl rfl) (by decide) ?_
  refine GL.step (Stp.callR (σ := Unit) (p := fun rz => True) (v := fun rz => (.tuple #[(.agg #[(.int .i64 0), (.int .i64 0), (.slice none 0 0)]), (.int .i64 52)])) (N := fun rz => []) (vs := [(.agg #[(.int .i64 ((W : Int))), (.int .i64 ((H : Int))), (.slice ad n cap)]), (.agg #[(.int .i64 x0), (.int .i64 y0), (.int .i64 x1), (.int .i64 y1)])]) rfl rfl T.own24 (by decide) (fun wc hw => crop_out W H n cap ad x0 y0 x1 y1 wc hok hn hR)) (fun xq7 hq8 => ?_)
  refine GL.val (v := (.tuple #[(.agg #[(.int .i64 0), (.int .i64 0), (.slice none 0 0)]), (.int .i64 52)])) (Ex.move rfl) (by decide) ?_
  refine GL.val (v := (.agg #[(.int .i64 0), (.int .i64 0), (.slice none 0 0)])) (Ex.extract rfl rfl) (by decide) ?_
  refine GL.val (v := (.int .i64 52)) (Ex.extract rfl rfl) (by decide) ?_
  refine GL.step (Stp.alloc T.zr32 (by decide)) (fun bq9 _ => ?_)
  refine GL.step (Stp.storeL (i := 0) (L1 := [⟨bq9, [(.int .i64 0), (.int .i64 0), (.slice none 0 0)], 32, true⟩, ⟨bq3, [(.int .i64 s0), (.int .i64 t0), (.int .i64 s1), (.int .i64 t1)], 54, true⟩, ⟨bq2, [(.int .i64 x0), (.int .i64 y0), (.int .i64 x1), (.int .i64 y1)], 54, true⟩, ⟨bq1, [(.int .i64 ((W : Int))), (.int .i64 ((H : Int))), (.slice ad n cap)], 32, true⟩]) rfl rfl rfl T.sz32 rfl rfl rfl rfl) (fun _ _ => ?_)
  refine GL.val (v := (.int .i64 52)) (Ex.assign rfl) (by decide) ?_
  refine GL.nil ?_
  refine GE.thenN ?_
  refine GC.seq ?_
  refine GC.seq ?_
  refine GC.region ?_
  refine GL.val (v := (.int .i64 52)) (Ex.move rfl) (by decide) ?_
  refine GL.step (Stp.callR (σ := Unit) (p := fun rz => True) (v := fun rz => (.int .i64 52)) (N := fun rz => []) (vs := [(.int .i64 52)]) rfl rfl T.own16 (by decide) (fun wc hw => num 52 wc)) (fun xq10 hq11 => ?_)
  refine GL.val (v := (.bool true)) (Ex.cast (Ex.neq rfl rfl) rfl) (by decide) ?_
  refine GL.nil ?_
  refine GE.thenN ?_
  refine GC.cond rfl (fun _ => ?_) (fun hq12 => by cases hq12)
  refine GC.seq ?_
  refine GC.region ?_
  refine GL.val (v := (.pointer (some ⟨bq9, 2, none⟩))) (Ex.cast (Ex.fieldAddr rfl Try.underlying32 rfl T.sz30 (by decide)) rfl) (by decide) ?_
  refine GL.val (v := (.slice none 0 0)) (Ex.load rfl T.ag30 (i := 0) rfl rfl) (by decide) ?_
  refine GL.val (v := (.int .i64 0)) (Ex.len rfl Try.underlying30) (by decide) ?_
  refine GL.val (v := (.bool true)) (Ex.cast (Ex.eql rfl rfl) rfl) (by decide) ?_
  refine GL.val (v := (.bool true)) (Ex.assign rfl) (by decide) ?_
  refine GL.nil ?_
  refine GE.thenN ?_
  refine GC.ret ?_
  refine GE.thenR ?_
  refine GC.ret1 rfl (Rv.tmp rfl) (fun wN HN => ?_)
  exact HN.ret () trivial rfl (List.nil_sublist _) rfl

set_option maxRecDepth 100000 in
set_option maxHeartbeats 1000000 in
theorem pieces_bad (W H : Int) (ad : Option Addr) (n cap : Nat) (x0 y0 x1 y1 : Int) (s0 t0 s1 t1 kd lf tp : Int) (w : World) (hc : chk W H n ≠ 0) :
    Calls Try.prog 6 #[(.agg #[(.int .i64 W), (.int .i64 H), (.slice ad n cap)]), (.agg #[(.int .i64 x0), (.int .i64 y0), (.int .i64 x1), (.int .i64 y1)]), (.agg #[(.int .i64 s0), (.int .i64 t0), (.int .i64 s1), (.int .i64 t1)]), (.int .i64 kd), (.int .i64 lf), (.int .i64 tp)] w (Ret w (fun _ : Unit => True) (fun _ => .bool true) (fun _ => [])) := by
  refine enter (M := None) (L := []) (n := 127) (l := [(0, (.agg #[(.int .i64 W), (.int .i64 H), (.slice ad n cap)])), (1, (.agg #[(.int .i64 x0), (.int .i64 y0), (.int .i64 x1), (.int .i64 y1)])), (2, (.agg #[(.int .i64 s0), (.int .i64 t0), (.int .i64 s1), (.int .i64 t1)])), (3, (.int .i64 kd)), (4, (.int .i64 lf)), (5, (.int .i64 tp))]) Try.func6 rfl rfl (Args.cons rfl (Args.cons rfl (Args.cons rfl (Args.cons rfl (Args.cons rfl (Args.cons rfl (Args.nil _))))))) (Hp.start _ _) ?_
  refine GC.seq ?_
  refine GC.region ?_
  refine GL.step (Stp.box (cs := [(.int .i64 W), (.int .i64 H), (.slice ad n cap)]) rfl rfl (by decide)) (fun bq1 _ => ?_)
  refine GL.step (Stp.box (cs := [(.int .i64 x0), (.int .i64 y0), (.int .i64 x1), (.int .i64 y1)]) rfl rfl (by decide)) (fun bq2 _ => ?_)
  refine GL.step (Stp.box (cs := [(.int .i64 s0), (.int .i64 t0), (.int .i64 s1), (.int .i64 t1)]) rfl rfl (by decide)) (fun bq3 _ => ?_)
  refine GL.val (v := (.bool false)) (Ex.assign rfl) (by decide) ?_
  refine GL.nil ?_
  refine GE.thenN ?_
  refine GC.seq ?_
  refine GC.seq ?_
  refine GC.region ?_
  refine GL.step (Stp.callR (σ := Unit) (p := fun rz => True) (v := fun rz => (.bool true)) (N := fun rz => []) (vs := []) rfl rfl T.own13 (by decide) (fun wc hw => known wc)) (fun xq4 hq5 => ?_)
  refine GL.val (v := (.bool false)) (Ex.cast (Ex.not rfl) rfl) (by decide) ?_
  refine GL.nil ?_
  refine GE.thenN ?_
  refine GC.cond rfl (fun hq6 => by cases hq6) (fun _ => ?_)
  refine GC.skip ?_
  refine GE.thenN ?_
  refine GC.seq ?_
  refine GC.region ?_
  refine GL.val (v := (.agg #[(.int .i64 W), (.int .i64 H), (.slice ad n cap)])) (Ex.loadA rfl T.ag32 T.sz32 (i := 2) rfl (vs := [(.int .i64 W), (.int .i64 H), (.slice ad n cap)]) rfl rfl) (by decide) ?_
  refine GL.val (v := (.agg #[(.int .i64 x0), (.int .i64 y0), (.int .i64 x1), (.int .i64 y1)])) (Ex.loadA rfl T.ag54 T.sz54 (i := 1) rfl (vs := [(.int .i64 x0), (.int .i64 y0), (.int .i64 x1), (.int .i64 y1)]) rfl rfl) (by decide) ?_
  refine GL.step (Stp.callR (σ := Unit) (p := fun rz => True) (v := fun rz => (.tuple #[(.agg #[(.int .i64 0), (.int .i64 0), (.slice none 0 0)]), (.int .i64 (chk W H n))])) (N := fun rz => []) (vs := [(.agg #[(.int .i64 W), (.int .i64 H), (.slice ad n cap)]), (.agg #[(.int .i64 x0), (.int .i64 y0), (.int .i64 x1), (.int .i64 y1)])]) rfl rfl T.own24 (by decide) (fun wc hw => crop_inv W H ad n cap x0 y0 x1 y1 wc hc)) (fun xq7 hq8 => ?_)
  refine GL.val (v := (.tuple #[(.agg #[(.int .i64 0), (.int .i64 0), (.slice none 0 0)]), (.int .i64 (chk W H n))])) (Ex.move rfl) (by decide) ?_
  refine GL.val (v := (.agg #[(.int .i64 0), (.int .i64 0), (.slice none 0 0)])) (Ex.extract rfl rfl) (by decide) ?_
  refine GL.val (v := (.int .i64 (chk W H n))) (Ex.extract rfl rfl) (by decide) ?_
  refine GL.step (Stp.alloc T.zr32 (by decide)) (fun bq9 _ => ?_)
  refine GL.step (Stp.storeL (i := 0) (L1 := [⟨bq9, [(.int .i64 0), (.int .i64 0), (.slice none 0 0)], 32, true⟩, ⟨bq3, [(.int .i64 s0), (.int .i64 t0), (.int .i64 s1), (.int .i64 t1)], 54, true⟩, ⟨bq2, [(.int .i64 x0), (.int .i64 y0), (.int .i64 x1), (.int .i64 y1)], 54, true⟩, ⟨bq1, [(.int .i64 W), (.int .i64 H), (.slice ad n cap)], 32, true⟩]) rfl rfl rfl T.sz32 rfl rfl rfl rfl) (fun _ _ => ?_)
  refine GL.val (v := (.int .i64 (chk W H n))) (Ex.assign rfl) (by decide) ?_
  refine GL.nil ?_
  refine GE.thenN ?_
  refine GC.seq ?_
  refine GC.seq ?_
  refine GC.region ?_
  refine GL.val (v := (.int .i64 (chk W H n))) (Ex.move rfl) (by decide) ?_
  refine GL.step (Stp.callR (σ := Unit) (p := fun rz => True) (v := fun rz => (.int .i64 (chk W H n))) (N := fun rz => []) (vs := [(.int .i64 (chk W H n))]) rfl rfl T.own16 (by decide) (fun wc hw => num (chk W H n) wc)) (fun xq10 hq11 => ?_)
  refine GL.val (v := (.bool (decide ((chk W H n) ≠ 0)))) (Ex.neq rfl rfl) (by decide) ?_
  refine GL.nil ?_
  refine GE.thenN ?_
  refine GC.cond rfl (fun _ => ?_) (fun hq12 => by exfalso; have hq12 := of_decide_eq_false hq12; exact hc (by first | assumption | (apply Classical.byContradiction; assumption) | simp_all))
  refine GC.seq ?_
  refine GC.region ?_
  refine GL.val (v := (.pointer (some ⟨bq9, 2, none⟩))) (Ex.cast (Ex.fieldAddr rfl Try.underlying32 rfl T.sz30 (by decide)) rfl) (by decide) ?_
  refine GL.val (v := (.slice none 0 0)) (Ex.load rfl T.ag30 (i := 0) rfl rfl) (by decide) ?_
  refine GL.val (v := (.int .i64 0)) (Ex.len rfl Try.underlying30) (by decide) ?_
  refine GL.val (v := (.bool true)) (Ex.cast (Ex.eql rfl rfl) rfl) (by decide) ?_
  refine GL.val (v := (.bool true)) (Ex.assign rfl) (by decide) ?_
  refine GL.nil ?_
  refine GE.thenN ?_
  refine GC.ret ?_
  refine GE.thenR ?_
  refine GC.ret1 rfl (Rv.tmp rfl) (fun wN HN => ?_)
  exact HN.ret () trivial rfl (List.nil_sublist _) rfl

theorem lawPieces (W H : Int) (ad : Option Addr) (n cap : Nat) (x0 y0 x1 y1 : Int) (s0 t0 s1 t1 kd lf tp : Int) (xs : List Int) (w : World) (hl : Lst w ad n xs) :
    Calls Try.prog 6 #[.agg #[.int .i64 W, .int .i64 H, .slice ad n cap], .agg #[.int .i64 x0, .int .i64 y0, .int .i64 x1, .int .i64 y1], .agg #[.int .i64 s0, .int .i64 t0, .int .i64 s1, .int .i64 t1], .int .i64 kd, .int .i64 lf, .int .i64 tp] w (Ret w (fun _ : Unit => True) (fun _ => .bool true) (fun _ => [])) := by
  by_cases hc : chk W H n = 0
  · obtain ⟨w', h', rfl, rfl, hok, hn⟩ := chk_zero hc
    obtain ⟨h1, h2, h3, h4⟩ := hl
    rcases h4 with h4 | ⟨b, o, rfl, hr⟩
    · exfalso; have h5 := Nat.mul_pos (show 0 < w' from hok.1) (show 0 < h' from hok.2.1); omega
    · by_cases hR : 0 ≤ x0 ∧ x0 < x1 ∧ x1 ≤ w' ∧ 0 ≤ y0 ∧ y0 < y1 ∧ y1 ≤ h'
      · obtain ⟨r1, r2, r3, r4, r5, r6⟩ := hR
        obtain ⟨a, rfl⟩ := Int.eq_ofNat_of_zero_le r1
        obtain ⟨b', rfl⟩ := Int.eq_ofNat_of_zero_le r4
        obtain ⟨c, rfl⟩ := Int.eq_ofNat_of_zero_le (show 0 ≤ x1 by omega)
        obtain ⟨d, rfl⟩ := Int.eq_ofNat_of_zero_le (show 0 ≤ y1 by omega)
        exact pieces_ok w' h' n cap b o a b' c d s0 t0 s1 t1 kd lf tp xs w hok hn h1 hr (by omega) (by omega) (by omega) (by omega)
      · exact pieces_out w' h' n cap _ x0 y0 x1 y1 s0 t0 s1 t1 kd lf tp w hok hn hR
  · exact pieces_bad W H ad n cap x0 y0 x1 y1 s0 t0 s1 t1 kd lf tp w hc

end Go.Proofs.Ytileciohbhoehaa.C
