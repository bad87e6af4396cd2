/- PictureKeeps: the law's row, out of the walk through its code. No condition is set on its arguments but the row's own. -/
import Derived.Test.YtiikkhbmhojbaaaRows
import Derived.Test.YtiikkhbmhojbaaaKKeeps4
import Derived.Test.YtiikkhbmhojbaaaOp
import Derived.WalkKit
import Derived.ProofKit
import Derived.OpenShut
import Derived.ShutString
import Derived.ChangeOld
import Derived.Below
import Derived.SizedLaws
import Derived.Carry
namespace Go.Proofs.Ytiikkhbmhojbaaa.pictureKeeps
open Go.ChangeShapes Go.WideShapes Go.ChangeAt Go.RowKit
open Go.ChangeMaps (open_string shut_string)
set_option linter.unusedVariables false
theorem lo : laidOutB Try.prog = true := by kernel_rfl
theorem own : ownKnob Try.prog.godebug = none := by kernel_rfl
set_option maxRecDepth 100000 in
theorem lifted (os : Os) (started : os.Started) (H : Type) (enc : TypeId × Value → H) :
    ReturnsInHanded {} Try.checked os 5 .any (Rows.pictureKeepsSpec.pre6 enc Try.prog Try.f5 Rows.pictureKeepsRow.domain false) (Rows.pictureKeepsSpec.post enc Try.prog Try.f5 false true false false) := by
  refine returnsInHanded_of_change_sized (C := Try.checked) own started (by kernel_rfl) Try.func5
    (ChangeSpec.witness6 (enc := enc) (C := Try.checked) false ⟨#[], #[.agg #[.int .i64 0, .slice none 0 0], .agg #[.int .i64 0, .slice none 0 0], .int .u32 0, .int .u32 0], []⟩ 8 (by kernel_rfl) (by kernel_rfl) (by kernel_rfl) (by kernel_rfl)) ?_
  intro W base args ds gs before hval0 hW hcnd hsz0 _
  have hval : ∀ (j : Nat) t v, Try.f5.params[j]? = some t → args[j]? = some v → Value.okWide Try.prog W .any base t v := hval0
  have hW' := hW
  obtain ⟨p, q, hA0, hV, rfl, hfz, hnd⟩ := hW
  have hA : DataW.TrodAll enc Try.prog W 0 (fun _ => true) true Try.f5.params.toList args.toList ds p := hA0
  rw [Try.params5] at hA hval
  obtain ⟨v0, vs0, d0, ds0, p0, q0, hargs, rfl, rfl, h0, r0⟩ := trodAll_cons hA
  obtain ⟨v1, vs1, d1, ds1, p1, q1, rfl, rfl, rfl, h1, r1⟩ := trodAll_cons r0
  obtain ⟨v2, vs2, d2, ds2, p2, q2, rfl, rfl, rfl, h2, r2⟩ := trodAll_cons r1
  obtain ⟨v3, vs3, d3, ds3, p3, q3, rfl, rfl, rfl, h3, r3⟩ := trodAll_cons r2
  obtain ⟨rfl, rfl, rfl⟩ := trodAll_nil r3
  obtain rfl : args = #[v0, v1, v2, v3] := by cases args; simp_all
  obtain ⟨rfl, rfl⟩ := trodVars_none hV
  have k0 := h0
  have k1 := h1
  have k2 := h2
  have k3 := h3
  have hsz : (DataW.weightsEach Try.prog ([25, 25, 28, 28] ++ Rows.pictureKeepsSpec.plain.varTypes Try.prog) ([d0, d1, d2, d3] ++ [])).all (· ≤ reachBytes) = true := hsz0
  obtain ⟨sp0, ad0, n0, cap0, ps0, rfl, bs0, hP0, hn0, hb0⟩ := Sx.open_picture Try.underlying25 (by kernel_rfl) (by kernel_rfl) Try.underlying3 Try.underlying23 (by kernel_rfl) Try.underlying43 (by kernel_rfl) (by kernel_rfl) Try.underlying3 Try.underlying3 Try.underlying41 Try.underlying28 (by kernel_rfl) (by kernel_rfl) (hval 0 25 _ rfl rfl) h0 (Sx.sized_arg hsz (j := 0) rfl rfl)
  obtain ⟨sp1, ad1, n1, cap1, ps1, rfl, bs1, hP1, hn1, hb1⟩ := Sx.open_picture Try.underlying25 (by kernel_rfl) (by kernel_rfl) Try.underlying3 Try.underlying23 (by kernel_rfl) Try.underlying43 (by kernel_rfl) (by kernel_rfl) Try.underlying3 Try.underlying3 Try.underlying41 Try.underlying28 (by kernel_rfl) (by kernel_rfl) (hval 1 25 _ rfl rfl) h1 (Sx.sized_arg hsz (j := 1) rfl rfl)
  obtain ⟨a2, rfl, rfl, rfl, w2⟩ := open_int Try.underlying28 (hval 2 28 v2 rfl rfl) h2
  obtain ⟨a3, rfl, rfl, rfl, w3⟩ := open_int Try.underlying28 (hval 3 28 v3 rfl rfl) h3
  clear hA0 hval0
  refine (C.keeps sp0 sp1 ad0 ad1 n0 cap0 n1 cap1 ps0 ps1 a2 a3 W hP0 hn0 (by omega) hP1 hn1 (by omega) (Sx.wf_u32 w2) (Sx.wf_u32 w3)).mono fun e W' ⟨x, he, _, hn⟩ => ?_
  have bel := hn.1
  subst he
  have hlt : ∀ x ∈ p0 ++ p1, x.block < W.heap.size := fun x hx => by simpa using hW'.lt x (by simpa using hx)
  exact ⟨_, rfl, _, _, _, [], _, [], hW', trodAll_mk1 (shut_bool Try.underlying4 _), (trodAll_cons_mk (Below.trod lo (by kernel_rfl) (of_decide_eq_true (by kernel_rfl)) k0 bel (fun x hx => hlt x (by simp [hx]))) (trodAll_cons_mk (Below.trod lo (by kernel_rfl) (of_decide_eq_true (by kernel_rfl)) k1 bel (fun x hx => hlt x (by simp [hx]))) (trodAll_cons_mk (shut_int Try.underlying28 w2) (trodAll_cons_mk (shut_int Try.underlying28 w3) trodAll_mk0)))), rfl, bel.frame _, fun h => by cases h⟩
theorem over : Rows.pictureKeepsRow.holds Try.pinned (OpenSpec.ofChange Rows.pictureKeepsSpec) :=
  OpenClaim.holds_of_wide 5 Try.f5 rfl rfl rfl rfl rfl rfl rfl ⟨rfl, rfl, rfl, rfl, rfl⟩ rfl rfl rfl rfl rfl (by kernel_rfl) Try.func5 (by kernel_rfl)
    (of_decide_eq_true (by kernel_rfl)) (by unfold Func.isWrapper; first | (rw [if_pos (by decide +kernel)]; kernel_rfl) | (rw [if_neg (by decide +kernel)]; exact ⟨rfl, rfl⟩))
    (fun os started H enc _ => lifted os started H enc)
theorem proved : Rows.PictureKeepsSaid := over
end Go.Proofs.Ytiikkhbmhojbaaa.pictureKeeps
namespace Go.Proofs.Ytiikkhbmhojbaaa
/-- The row, under a short name, for the claim. -/
theorem pictureKeeps_holds : Rows.PictureKeepsSaid := pictureKeeps.proved
end Go.Proofs.Ytiikkhbmhojbaaa
