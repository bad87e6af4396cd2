/- BlurRises: the law's row, out of the walk through its code. No condition is set on its arguments but the row's own. -/
import Derived.Test.YtjbpdhofhhinhaaRows
import Derived.Test.YtjbpdhofhhinhaaKRises2
import Derived.WalkKit
import Derived.ProofKit
import Derived.OpenShut
import Derived.ShutString
import Derived.ChangeOld
import Derived.Below
import Derived.SizedLaws
import Derived.Carry
namespace Go.Proofs.Ytjbpdhofhhinhaa.blurRises
open Go.ChangeShapes Go.WideShapes Go.ChangeAt Go.RowKit
open Go.ChangeMaps (open_string shut_string)
set_option linter.unusedVariables false
theorem lo : laidOutB Try.prog = true := by kernel_rfl
theorem own : ownKnob Try.prog.godebug = none := by kernel_rfl
set_option maxRecDepth 100000 in
theorem lifted (os : Os) (started : os.Started) (H : Type) (enc : TypeId × Value → H) :
    ReturnsInHanded {} Try.checked os 7 .any (Rows.blurRisesSpec.pre6 enc Try.prog Try.f7 Rows.blurRisesRow.domain false) (Rows.blurRisesSpec.post enc Try.prog Try.f7 false true false false) := by
  refine returnsInHanded_of_change_sized (C := Try.checked) own started (by kernel_rfl) Try.func7
    (ChangeSpec.witness6 (enc := enc) (C := Try.checked) false ⟨#[], #[.agg #[.int .i64 0, .int .i64 0, .slice none 0 0], .agg #[.int .i64 0, .int .i64 0, .slice none 0 0], .int .i64 0, .int .i64 0, .int .i64 0], []⟩ 8 (by kernel_rfl) (by kernel_rfl) (by kernel_rfl) (by kernel_rfl)) ?_
  intro W base args ds gs before hval0 hW hcnd hsz0 _
  have hval : ∀ (j : Nat) t v, Try.f7.params[j]? = some t → args[j]? = some v → Value.okWide Try.prog W .any base t v := hval0
  have hW' := hW
  obtain ⟨p, q, hA0, hV, rfl, hfz, hnd⟩ := hW
  have hA : DataW.TrodAll enc Try.prog W 0 (fun _ => true) true Try.f7.params.toList args.toList ds p := hA0
  rw [Try.params7] at hA hval
  obtain ⟨v0, vs0, d0, ds0, p0, q0, hargs, rfl, rfl, h0, r0⟩ := trodAll_cons hA
  obtain ⟨v1, vs1, d1, ds1, p1, q1, rfl, rfl, rfl, h1, r1⟩ := trodAll_cons r0
  obtain ⟨v2, vs2, d2, ds2, p2, q2, rfl, rfl, rfl, h2, r2⟩ := trodAll_cons r1
  obtain ⟨v3, vs3, d3, ds3, p3, q3, rfl, rfl, rfl, h3, r3⟩ := trodAll_cons r2
  obtain ⟨v4, vs4, d4, ds4, p4, q4, rfl, rfl, rfl, h4, r4⟩ := trodAll_cons r3
  obtain ⟨rfl, rfl, rfl⟩ := trodAll_nil r4
  obtain rfl : args = #[v0, v1, v2, v3, v4] := by cases args; simp_all
  obtain ⟨rfl, rfl⟩ := trodVars_none hV
  have k0 := h0
  have k1 := h1
  have k2 := h2
  have k3 := h3
  have k4 := h4
  have hsz : (DataW.weightsEach Try.prog ([43, 43, 3, 3, 3] ++ Rows.blurRisesSpec.plain.varTypes Try.prog) ([d0, d1, d2, d3, d4] ++ [])).all (· ≤ reachBytes) = true := hsz0
  obtain ⟨pw0, ph0, ad0, n0, cap0, xs0, rfl, bw0, bh0, hl0, hb0⟩ := Sx.open_planeW Try.underlying43 (by kernel_rfl) (by kernel_rfl) Try.underlying3 Try.underlying3 Try.underlying41 Try.underlying63 (by kernel_rfl) (by kernel_rfl) (hval 0 43 _ rfl rfl) h0 (Sx.sized_arg hsz (j := 0) rfl rfl)
  obtain ⟨pw1, ph1, ad1, n1, cap1, xs1, rfl, bw1, bh1, hl1, hb1⟩ := Sx.open_planeW Try.underlying43 (by kernel_rfl) (by kernel_rfl) Try.underlying3 Try.underlying3 Try.underlying41 Try.underlying63 (by kernel_rfl) (by kernel_rfl) (hval 1 43 _ rfl rfl) h1 (Sx.sized_arg hsz (j := 1) rfl rfl)
  obtain ⟨a2, rfl, rfl, rfl, w2⟩ := open_int Try.underlying3 (hval 2 3 v2 rfl rfl) h2
  obtain ⟨a3, rfl, rfl, rfl, w3⟩ := open_int Try.underlying3 (hval 3 3 v3 rfl rfl) h3
  obtain ⟨a4, rfl, rfl, rfl, w4⟩ := open_int Try.underlying3 (hval 4 3 v4 rfl rfl) h4
  clear hA0 hval0
  refine (C.lawRises pw0 ph0 ad0 n0 cap0 pw1 ph1 ad1 n1 cap1 a2 a3 a4 xs0 xs1 W hl0 hb0 hl1 hb1).mono fun e W' ⟨x, he, _, hn⟩ => ?_
  have bel := hn.1
  subst he
  have hlt : ∀ x ∈ p0 ++ p1, x.block < W.heap.size := fun x hx => by simpa using hW'.lt x (by simpa using hx)
  exact ⟨_, rfl, _, _, _, [], _, [], hW', trodAll_mk1 (shut_bool Try.underlying4 _), (trodAll_cons_mk (Below.trod lo (by kernel_rfl) (of_decide_eq_true (by kernel_rfl)) k0 bel (fun x hx => hlt x (by simp [hx]))) (trodAll_cons_mk (Below.trod lo (by kernel_rfl) (of_decide_eq_true (by kernel_rfl)) k1 bel (fun x hx => hlt x (by simp [hx]))) (trodAll_cons_mk (shut_int Try.underlying3 w2) (trodAll_cons_mk (shut_int Try.underlying3 w3) (trodAll_cons_mk (shut_int Try.underlying3 w4) trodAll_mk0))))), rfl, bel.frame _, fun h => by cases h⟩
theorem over : Rows.blurRisesRow.holds Try.pinned (OpenSpec.ofChange Rows.blurRisesSpec) :=
  OpenClaim.holds_of_wide 7 Try.f7 rfl rfl rfl rfl rfl rfl rfl ⟨rfl, rfl, rfl, rfl, rfl⟩ rfl rfl rfl rfl rfl (by kernel_rfl) Try.func7 (by kernel_rfl)
    (of_decide_eq_true (by kernel_rfl)) (by unfold Func.isWrapper; first | (rw [if_pos (by decide +kernel)]; kernel_rfl) | (rw [if_neg (by decide +kernel)]; exact ⟨rfl, rfl⟩))
    (fun os started H enc _ => lifted os started H enc)
theorem proved : Rows.BlurRisesSaid := over
end Go.Proofs.Ytjbpdhofhhinhaa.blurRises
namespace Go.Proofs.Ytjbpdhofhhinhaa
/-- The row, under a short name, for the claim. -/
theorem blurRises_holds : Rows.BlurRisesSaid := blurRises.proved
end Go.Proofs.Ytjbpdhofhhinhaa
