/- Luma and differences there and back: how far off the roundings are; three alike. -/
import Derived.Test.YtbhjadkgeadpiaaLb
namespace Sb
open Go Ieee Fv Fp Sl Lb Go.Proofs.Ytbhjadkgeadpiaa
set_option linter.unusedVariables false
/-- How far off a rounding is. -/
theorem rung_err (f : Ft) {N : Nat} (hb : (last f N - f.l0) * f.B + rne N (last f N) ≤ f.inf) :
    2 * (f.B * val f (rung f N)) ≤ 2 * (f.B * N) + N + 2 ^ (f.l0 + f.fb) ∧ 2 * (f.B * N) ≤ 2 * (f.B * val f (rung f N)) + N + 2 ^ (f.l0 + f.fb) := by
  by_cases h0 : N = 0
  · subst h0; rw [rung_zero, val_zero]; clear hb; generalize 2 ^ (f.l0 + f.fb) = z; exact ⟨by omega, by omega⟩
  have hv := val_rung f h0 hb
  have he := rne_err N (last f N)
  rw [← hv] at he
  have hB : f.B * 2 ^ last f N ≤ N + 2 ^ (f.l0 + f.fb) := by
    unfold last Ft.B
    rw [← Nat.pow_add]
    rcases Nat.le_total (N.log2 - f.fb) f.l0 with q | q
    · rw [Nat.max_eq_right q, Nat.add_comm f.fb]; exact Nat.le_add_left _ _
    · rw [Nat.max_eq_left q]
      by_cases z : f.fb ≤ N.log2
      · rw [show f.fb + (N.log2 - f.fb) = N.log2 by omega]; exact Nat.le_trans (Nat.log2_self_le h0) (Nat.le_add_right _ _)
      · exact Nat.le_trans (Nat.pow_le_pow_right (by decide) (by omega)) (Nat.le_add_left _ _)
  generalize val f (rung f N) = v at *
  generalize 2 ^ last f N = t at *
  generalize 2 ^ (f.l0 + f.fb) = z at *
  generalize f.B = B at *
  obtain ⟨a, b⟩ := he
  have a' := Nat.mul_le_mul_left B a
  have b' := Nat.mul_le_mul_left B b
  rw [Nat.mul_add, Nat.mul_left_comm B 2 N, Nat.mul_left_comm B 2 v] at a' b'
  generalize B * v = bv at *
  generalize B * N = bn at *
  generalize B * t = bt at *
  omega
theorem sv_0' (f : Ft) : sv f 0 = 0 := by unfold sv; rw [if_neg (by omega), show (0 : Int).natAbs = 0 from rfl, val_zero]; rfl
theorem sv_SR' (f : Ft) (X : Int) : sv f (SR f X) = if X < 0 then -((val f (rung f X.natAbs) : Nat) : Int) else ((val f (rung f X.natAbs) : Nat) : Int) := by
  unfold SR
  by_cases h : X < 0
  · rw [if_pos h, if_pos h]
    by_cases h0 : rung f X.natAbs = 0
    · rw [h0, val_zero, show -(((0 : Nat)) : Int) = 0 from rfl]; exact sv_0' f
    · unfold sv; rw [if_pos (by omega), Int.natAbs_neg, Int.natAbs_natCast]
  · rw [if_neg h, if_neg h]; unfold sv; rw [if_neg (by omega), Int.natAbs_natCast]
theorem log2_le {N k : Nat} (h : N ≤ 2 ^ k) : N.log2 ≤ k := by
  by_cases h0 : N = 0
  · subst h0; exact Nat.zero_le _
  · have : N < 2 ^ (k + 1) := Nat.lt_of_le_of_lt h (Nat.pow_lt_pow_right (by decide) (by omega))
    have := (Nat.log2_lt h0).2 this; omega
theorem S_near {c : Nat} (hc : c = 1151) {X A : Int} (h1 : -A ≤ X) (h2 : X ≤ A) (hA : A ≤ ((2 ^ (c + 255) : Nat) : Int)) :
    -(A + 8388608 * ((2 ^ c : Nat) : Int)) ≤ 16777216 * (sv S (SR S X) - X) ∧ 16777216 * (sv S (SR S X) - X) ≤ A + 8388608 * ((2 ^ c : Nat) : Int) := by
  have e1 : S.l0 = 1151 := rfl
  have e2 : S.B = 8388608 := by decide +kernel
  have e3 : S.inf = 2139095040 := rfl
  have e4 : S.fb = 23 := rfl
  have hl := log2_le (N := X.natAbs) (k := c + 255) (by omega)
  have hk := kept_le S (N := X.natAbs)
  have hlast : last S X.natAbs ≤ 1383 := by unfold last; rw [e1, e4]; omega
  have hr := rung_err S (N := X.natAbs) (by rw [e1, e2, e3]; rw [e2] at hk; omega)
  rw [sv_SR', ]
  rw [e1, e2, e4, show 1151 + 23 = c + 23 by omega, Nat.pow_add, show 2 ^ 23 = 8388608 by decide] at hr
  generalize val S (rung S X.natAbs) = v at *
  generalize 2 ^ c = q at *
  clear hl hk hlast hA
  split <;> omega
theorem R_near {c : Nat} (hc : c = 1151) {X A : Int} (h1 : -A ≤ X) (h2 : X ≤ A) (hA : A ≤ ((2 ^ (c + 255) : Nat) : Int)) :
    -(A + ((2 ^ c : Nat) : Int)) ≤ 9007199254740992 * (R X - X) ∧ 9007199254740992 * (R X - X) ≤ A + ((2 ^ c : Nat) : Int) := by
  have e1 : D.l0 = 226 := rfl
  have e2 : D.B = 4503599627370496 := by decide +kernel
  have e3 : D.inf = 9218868437227405312 := rfl
  have e4 : D.fb = 52 := rfl
  have hl := log2_le (N := X.natAbs) (k := c + 255) (by omega)
  have hk := kept_le D (N := X.natAbs)
  have hlast : last D X.natAbs ≤ 1354 := by unfold last; rw [e1, e4]; omega
  have hr := rung_err D (N := X.natAbs) (by rw [e1, e2, e3]; rw [e2] at hk; omega)
  unfold R
  rw [sv_SR', ]
  rw [e2] at hr
  have hp : 2 ^ (D.l0 + D.fb) ≤ 2 ^ c := Nat.pow_le_pow_right (by decide) (by rw [e1, e4]; omega)
  generalize val D (rung D X.natAbs) = v at *
  generalize 2 ^ (D.l0 + D.fb) = z at *
  generalize 2 ^ c = q at *
  clear hl hk hlast hA
  split <;> omega
/-! ### There and back -/
def fu (y p o : Int) : Option Nat := op .add .f64 (op .sub .f64 (V y) (V p)) (V o)
def fw (y p : Int) : Option Nat := op .add .f64 (V y) (V p)
def fz (y p o : Int) : Option Nat := op .sub .f64 (op .sub .f64 (V y) (V p)) (V o)
theorem bdL {e : Nat} (he : e = 1400) : sv S 1929379840 = 8 * ((2 ^ e : Nat) : Int) := by subst he; decide +kernel
/-- A number that is near enough is told, and its sample is near. -/
theorem told_near {x : Option Nat} {X A : Int} {c : Nat} (hc : c = 1151) (h : At x X) (h1 : -A ≤ X) (h2 : X ≤ A) (hA : A ≤ 8 * ((2 ^ (c + 249) : Nat) : Int)) :
    Holds .f64 .f32 x ∧ (rk (T x)).natAbs ≤ 1929379840 ∧ (0 ≤ T x ∧ T x < 4294967296) ∧ -(A + 8388608 * ((2 ^ c : Nat) : Int)) ≤ 16777216 * (sv S (rk (T x)) - X) ∧ 16777216 * (sv S (rk (T x)) - X) ≤ A + 8388608 * ((2 ^ c : Nat) : Int) := by
  have hb := bdL (e := c + 249) (by omega)
  have hn : sv S (-1929379840) = -sv S 1929379840 := sv_sym _ _
  have w := h.told (a := -1929379840) (b := 1929379840) (by rw [hn, hb]; omega) (by rw [hb]; omega) (by omega) (by omega) (by omega) (by omega)
  have hp : 8 * 2 ^ (c + 249) ≤ 2 ^ (c + 255) := by
    rw [show c + 255 = (c + 249) + 6 by omega, Nat.pow_add 2 (c + 249) 6]
    generalize 2 ^ (c + 249) = z
    omega
  have n := S_near hc h1 h2 (by omega)
  rw [w.2.1]
  rw [w.2.1] at w
  exact ⟨w.1, by omega, w.2.2.2.2, n⟩
theorem ex8 {L : Int} {c : Nat} (hc : c = 1151) (hL : L = ((2 ^ (c + 249) : Nat) : Int)) : Ex (8 * L) ∧ Ex (-(8 * L)) := by
  have e : (8 * L).natAbs = 1 * 2 ^ (c + 252) := by
    rw [hL, show c + 252 = (c + 249) + 3 by omega, Nat.pow_add 2 (c + 249) 3]
    generalize 2 ^ (c + 249) = z
    omega
  exact ⟨⟨1, c + 252, e, by omega, by omega, by omega⟩, ⟨1, c + 252, by rw [Int.natAbs_neg]; exact e, by omega, by omega, by omega⟩⟩
theorem pow255 (c : Nat) : ((2 ^ (c + 255) : Nat) : Int) = 64 * ((2 ^ (c + 249) : Nat) : Int) := by
  rw [show c + 255 = (c + 249) + 6 by omega, Nat.pow_add 2 (c + 249) 6]
  generalize 2 ^ (c + 249) = z
  omega
/-- Roundings in binary64 of numbers that aren't great are nearer than d. -/
theorem R_d {c : Nat} (hc : c = 1151) {M d X : Int} (hM0 : 0 ≤ M) (hM : M ≤ ((2 ^ (c + 249) : Nat) : Int)) (hd : M + ((2 ^ c : Nat) : Int) ≤ 1073741824 * d) (h1 : -(6 * M + 6 * ((2 ^ c : Nat) : Int)) ≤ X) (h2 : X ≤ 6 * M + 6 * ((2 ^ c : Nat) : Int)) : X - d ≤ R X ∧ R X ≤ X + d := by
  have hq : ((2 ^ c : Nat) : Int) ≤ ((2 ^ (c + 249) : Nat) : Int) := Int.ofNat_le.2 (Nat.pow_le_pow_right (by decide) (by omega))
  have hq0 : (0 : Int) < ((2 ^ c : Nat) : Int) := Int.natCast_pos.2 (Nat.two_pow_pos _)
  have h := R_near hc (X := X) (A := 6 * M + 6 * ((2 ^ c : Nat) : Int)) h1 h2 (by rw [pow255]; omega)
  generalize ((2 ^ c : Nat) : Int) = Q at *
  omega
theorem q_le {c : Nat} : ((2 ^ c : Nat) : Int) * 65536 ≤ ((2 ^ (c + 249) : Nat) : Int) := by
  rw [show (65536 : Int) = ((2 ^ 16 : Nat) : Int) by decide, ← Int.natCast_mul, ← Nat.pow_add]
  exact Int.ofNat_le.2 (Nat.pow_le_pow_right (by decide) (by omega))
def Bd (X E : Int) : Prop := -E ≤ X ∧ X ≤ E
/-- What is known of a told sample. -/
def Told (x : Option Nat) : Prop := Holds .f64 .f32 x ∧ (rk (T x)).natAbs ≤ 1929379840 ∧ (0 ≤ T x ∧ T x < 4294967296)
theorem there {r g b M d : Int} {c : Nat} (hc : c = 1151) (hr : 0 ≤ r ∧ r < 4294967296) (hg : 0 ≤ g ∧ g < 4294967296) (hb : 0 ≤ b ∧ b < 4294967296) (fr : (rk r).natAbs < 2139095040) (fg : (rk g).natAbs < 2139095040) (fb : (rk b).natAbs < 2139095040)
    (mr : Bd (sv S (rk r)) M) (mg : Bd (sv S (rk g)) M) (mb : Bd (sv S (rk b)) M) (hM : M ≤ ((2 ^ (c + 249) : Nat) : Int)) (hd : M + ((2 ^ c : Nat) : Int) ≤ 1073741824 * d) (hd2 : 1073741824 * d ≤ M + 2 * ((2 ^ c : Nat) : Int)) :
    (Told (yy r g b) ∧ Told (yg r g b) ∧ Told (yo r g b)) ∧ Bd (16777216 * (4 * sv S (rk (T (yy r g b))) - (sv S (rk r) + 2 * sv S (rk g) + sv S (rk b)))) (4 * M + 33554432 * ((2 ^ c : Nat) : Int) + 134217728 * d) ∧
    Bd (16777216 * (4 * sv S (rk (T (yg r g b))) - (2 * sv S (rk g) - sv S (rk r) - sv S (rk b)))) (4 * M + 33554432 * ((2 ^ c : Nat) : Int) + 134217728 * d) ∧
    Bd (16777216 * (2 * sv S (rk (T (yo r g b))) - (sv S (rk r) - sv S (rk b)))) (2 * M + 16777216 * ((2 ^ c : Nat) : Int) + 134217728 * d) := by
  have vr := V_at hr fr
  have vg := V_at hg fg
  have vb := V_at hb fb
  have eg : Ex (sv S (rk g) * ((2 ^ 1 : Nat) : Int)) := Ex.s2 (by rw [sInf]; omega) 1 (by omega)
  have hM0 : 0 ≤ M := by have := mr.1; have := mr.2; omega
  have rd := fun X => R_d (X := X) hc hM0 hM hd
  have q65 := q_le (c := c)
  have hq0 : (0 : Int) < ((2 ^ c : Nat) : Int) := Int.natCast_pos.2 (Nat.two_pow_pos _)
  have tn := fun x X A h h1 h2 hA => told_near (x := x) (X := X) (A := A) hc h h1 h2 hA
  obtain ⟨L, hL⟩ : ∃ L : Int, L = ((2 ^ (c + 249) : Nat) : Int) := ⟨_, rfl⟩
  obtain ⟨x8, x8n⟩ := ex8 hc hL
  rw [← hL] at hM tn q65
  obtain ⟨Q, hQ⟩ : ∃ Q : Int, Q = ((2 ^ c : Nat) : Int) := ⟨_, rfl⟩
  rw [← hQ] at hd hd2 rd tn q65 hq0 ⊢
  clear hL hQ
  unfold Bd at *
  generalize sv S (rk r) = vR at *
  generalize sv S (rk g) = vG at *
  generalize sv S (rk b) = vB at *
  have s1 := At.add vr vb (A := -(8 * L)) (B := 8 * L) (by omega) (by omega) x8n x8
  have s1b := rd (vR + vB) (by omega) (by omega)
  have d1 := At.mul 1 two_c vg (Int.le_refl _) (Int.le_refl _) eg eg
  rw [R_ex eg] at d1
  simp only [show ((2 ^ 1 : Nat) : Int) = 2 from rfl] at d1
  generalize R (vR + vB) = s at *
  have hY : Told (yy r g b) ∧ Bd (16777216 * (4 * sv S (rk (T (yy r g b))) - (vR + 2 * vG + vB))) (4 * M + 33554432 * Q + 134217728 * d) := by
    have t1 := At.add s1 d1 (A := -(8 * L)) (B := 8 * L) (by omega) (by omega) x8n x8
    have t1b := rd (s + vG * 2) (by omega) (by omega)
    generalize R (s + vG * 2) = Y at *
    obtain ⟨X, rfl⟩ := t1.share 2 (by omega)
    simp only [show ((2 ^ 2 : Nat) : Int) = 4 from rfl] at t1b
    have q := At.div 2 four_c (by omega) t1 (A := -(8 * L)) (B := 8 * L) (by omega) (by omega) x8n x8
    have qb := rd X (by omega) (by omega)
    have w := tn (yy r g b) _ (M + 3 * d) q (by omega) (by omega) (by omega)
    refine ⟨⟨w.1, w.2.1, w.2.2.1⟩, ?_⟩
    have w1 := w.2.2.2.1
    have w2 := w.2.2.2.2
    unfold Bd
    generalize sv S (rk (T (yy r g b))) = Z at *
    generalize R X = RX at *
    omega
  have hG : Told (yg r g b) ∧ Bd (16777216 * (4 * sv S (rk (T (yg r g b))) - (2 * vG - vR - vB))) (4 * M + 33554432 * Q + 134217728 * d) := by
    have t1 := At.sub d1 s1 (A := -(8 * L)) (B := 8 * L) (by omega) (by omega) x8n x8
    have t1b := rd (vG * 2 - s) (by omega) (by omega)
    generalize R (vG * 2 - s) = Y at *
    obtain ⟨X, rfl⟩ := t1.share 2 (by omega)
    simp only [show ((2 ^ 2 : Nat) : Int) = 4 from rfl] at t1b
    have q := At.div 2 four_c (by omega) t1 (A := -(8 * L)) (B := 8 * L) (by omega) (by omega) x8n x8
    have qb := rd X (by omega) (by omega)
    have w := tn (yg r g b) _ (M + 3 * d) q (by omega) (by omega) (by omega)
    refine ⟨⟨w.1, w.2.1, w.2.2.1⟩, ?_⟩
    have w1 := w.2.2.2.1
    have w2 := w.2.2.2.2
    unfold Bd
    generalize sv S (rk (T (yg r g b))) = Z at *
    generalize R X = RX at *
    omega
  have hO : Told (yo r g b) ∧ Bd (16777216 * (2 * sv S (rk (T (yo r g b))) - (vR - vB))) (2 * M + 16777216 * Q + 134217728 * d) := by
    have t1 := At.sub vr vb (A := -(8 * L)) (B := 8 * L) (by omega) (by omega) x8n x8
    have t1b := rd (vR - vB) (by omega) (by omega)
    generalize R (vR - vB) = Y at *
    obtain ⟨X, rfl⟩ := t1.share 1 (by omega)
    simp only [show ((2 ^ 1 : Nat) : Int) = 2 from rfl] at t1b
    have q := At.div 1 two_c (by omega) t1 (A := -(8 * L)) (B := 8 * L) (by omega) (by omega) x8n x8
    have qb := rd X (by omega) (by omega)
    have w := tn (yo r g b) _ (M + 3 * d) q (by omega) (by omega) (by omega)
    refine ⟨⟨w.1, w.2.1, w.2.2.1⟩, ?_⟩
    have w1 := w.2.2.2.1
    have w2 := w.2.2.2.2
    unfold Bd
    generalize sv S (rk (T (yo r g b))) = Z at *
    generalize R X = RX at *
    omega
  exact ⟨⟨hY.1, hG.1, hO.1⟩, hY.2, hG.2, hO.2⟩
theorem back {y p o vR vG vB M d : Int} {c : Nat} (hc : c = 1151) (hy : 0 ≤ y ∧ y < 4294967296) (hp : 0 ≤ p ∧ p < 4294967296) (ho : 0 ≤ o ∧ o < 4294967296) (fy : (rk y).natAbs ≤ 1929379840) (fp : (rk p).natAbs ≤ 1929379840) (fo : (rk o).natAbs ≤ 1929379840)
    (mr : Bd vR M) (mg : Bd vG M) (mb : Bd vB M) (hM : M ≤ ((2 ^ (c + 249) : Nat) : Int)) (hd : M + ((2 ^ c : Nat) : Int) ≤ 1073741824 * d) (hd2 : 1073741824 * d ≤ M + 2 * ((2 ^ c : Nat) : Int))
    (hY : Bd (16777216 * (4 * sv S (rk y) - (vR + 2 * vG + vB))) (4 * M + 33554432 * ((2 ^ c : Nat) : Int) + 134217728 * d))
    (hG : Bd (16777216 * (4 * sv S (rk p) - (2 * vG - vR - vB))) (4 * M + 33554432 * ((2 ^ c : Nat) : Int) + 134217728 * d))
    (hO : Bd (16777216 * (2 * sv S (rk o) - (vR - vB))) (2 * M + 16777216 * ((2 ^ c : Nat) : Int) + 134217728 * d)) :
    (Told (fu y p o) ∧ Told (fw y p) ∧ Told (fz y p o)) ∧ Bd (16777216 * (sv S (rk (T (fu y p o))) - vR)) (5 * M + 67108864 * ((2 ^ c : Nat) : Int)) ∧
    Bd (16777216 * (sv S (rk (T (fw y p))) - vG)) (5 * M + 67108864 * ((2 ^ c : Nat) : Int)) ∧ Bd (16777216 * (sv S (rk (T (fz y p o))) - vB)) (5 * M + 67108864 * ((2 ^ c : Nat) : Int)) := by
  have vy := V_at hy (by omega)
  have vp := V_at hp (by omega)
  have vo := V_at ho (by omega)
  have hM0 : 0 ≤ M := by have := mr.1; have := mr.2; omega
  have rd := fun X => R_d (X := X) hc hM0 hM hd
  have q65 := q_le (c := c)
  have hq0 : (0 : Int) < ((2 ^ c : Nat) : Int) := Int.natCast_pos.2 (Nat.two_pow_pos _)
  have tn := fun x X A h h1 h2 hA => told_near (x := x) (X := X) (A := A) hc h h1 h2 hA
  obtain ⟨L, hL⟩ : ∃ L : Int, L = ((2 ^ (c + 249) : Nat) : Int) := ⟨_, rfl⟩
  obtain ⟨x8, x8n⟩ := ex8 hc hL
  rw [← hL] at hM tn q65
  obtain ⟨Q, hQ⟩ : ∃ Q : Int, Q = ((2 ^ c : Nat) : Int) := ⟨_, rfl⟩
  rw [← hQ] at hd hd2 rd tn q65 hq0 hY hG hO ⊢
  clear hL hQ
  unfold Bd at *
  generalize sv S (rk y) = Y at *
  generalize sv S (rk p) = P at *
  generalize sv S (rk o) = O at *
  have t1 := At.sub vy vp (A := -(8 * L)) (B := 8 * L) (by omega) (by omega) x8n x8
  have tb := rd (Y - P) (by omega) (by omega)
  generalize R (Y - P) = t at *
  have hU : Told (fu y p o) ∧ Bd (16777216 * (sv S (rk (T (fu y p o))) - vR)) (5 * M + 67108864 * Q) := by
    have q := At.add t1 vo (A := -(8 * L)) (B := 8 * L) (by omega) (by omega) x8n x8
    have qb := rd (t + O) (by omega) (by omega)
    have w := tn (fu y p o) _ (M + 2 * Q + 512 * d) q (by omega) (by omega) (by omega)
    refine ⟨⟨w.1, w.2.1, w.2.2.1⟩, ?_⟩
    have w1 := w.2.2.2.1
    have w2 := w.2.2.2.2
    unfold Bd
    generalize sv S (rk (T (fu y p o))) = Z at *
    generalize R (t + O) = RX at *
    omega
  have hW : Told (fw y p) ∧ Bd (16777216 * (sv S (rk (T (fw y p))) - vG)) (5 * M + 67108864 * Q) := by
    have q := At.add vy vp (A := -(8 * L)) (B := 8 * L) (by omega) (by omega) x8n x8
    have qb := rd (Y + P) (by omega) (by omega)
    have w := tn (fw y p) _ (M + 2 * Q + 512 * d) q (by omega) (by omega) (by omega)
    refine ⟨⟨w.1, w.2.1, w.2.2.1⟩, ?_⟩
    have w1 := w.2.2.2.1
    have w2 := w.2.2.2.2
    unfold Bd
    generalize sv S (rk (T (fw y p))) = Z at *
    generalize R (Y + P) = RX at *
    omega
  have hZ : Told (fz y p o) ∧ Bd (16777216 * (sv S (rk (T (fz y p o))) - vB)) (5 * M + 67108864 * Q) := by
    have q := At.sub t1 vo (A := -(8 * L)) (B := 8 * L) (by omega) (by omega) x8n x8
    have qb := rd (t - O) (by omega) (by omega)
    have w := tn (fz y p o) _ (M + 2 * Q + 512 * d) q (by omega) (by omega) (by omega)
    refine ⟨⟨w.1, w.2.1, w.2.2.1⟩, ?_⟩
    have w1 := w.2.2.2.1
    have w2 := w.2.2.2.2
    unfold Bd
    generalize sv S (rk (T (fz y p o))) = Z at *
    generalize R (t - O) = RX at *
    omega
  exact ⟨⟨hU.1, hW.1, hZ.1⟩, hU.2, hW.2, hZ.2⟩
end Sb
namespace Sb
open Go Ieee Fv Fp Sl Lb Go.Proofs.Ytbhjadkgeadpiaa
set_option linter.unusedVariables false
/-! ### Three alike -/
theorem num_eq {f : Format} {w w' : Nat} {r : Int} (h : Num f w r) (h' : Num f w' r) (h0 : r ≠ 0) : w = w' := by
  obtain ⟨s, rfl, a1, a2⟩ := h
  obtain ⟨t, rfl, b1, b2⟩ := h'
  rcases Int.lt_or_gt_of_ne h0 with q | q
  · rw [a1 q, b1 q]
  · rw [a2 q, b2 q]
theorem sub_self {w : Nat} {r : Int} (h : Num double w r) (hr : r.natAbs < D.inf) : double.sub w w = some 0 := by
  obtain ⟨s, m, p, e1, _, e3, _⟩ := h.read fits_D hr
  unfold Format.sub
  rw [e1]
  have e : (Datum.number s m p).sum (Datum.number s m p).opposite = some (Datum.number false 0 p) := by
    unfold Datum.opposite Datum.sum
    have : signed s m (p - min p p).toNat + signed (!s) m (p - min p p).toNat = 0 := by
      rw [signed_sgn, signed_sgn]; unfold sgn; cases s <;> simp <;> omega
    simp only [this]
    cases s <;> simp
  rw [e]
  have e2 : double.write (Datum.number false 0 p) = 0 := by
    have e5 : D.l0 = 226 := rfl
    have hn := nearest_rung fits_D false 0 (e := p) (by omega)
    rw [Nat.zero_mul, rung_zero] at hn
    exact hn
  rw [Option.map_some, e2]
theorem V_word {s : Int} (h : 0 ≤ s ∧ s < 4294967296) (hf : (rk s).natAbs < 2139095040) : ∃ w r, V s = some w ∧ Num double w r ∧ r.natAbs < D.inf ∧ sv D r = sv S (rk s) := V_at h hf
theorem yo3 {r : Int} (h : 0 ≤ r ∧ r < 4294967296) (hf : (rk r).natAbs < 2139095040) : T (yo r r r) = 0 := by
  obtain ⟨w, i, e, hw, hi, _⟩ := V_at h hf
  unfold yo
  rw [e]
  have e2 : op .sub .f64 (some w) (some w) = some 0 := sub_self hw hi
  rw [e2]
  decide +kernel
theorem rk_zero {r : Int} (h : 0 ≤ r ∧ r < 4294967296) (h0 : rk r = 0) : r = 0 ∨ r = 2147483648 := by unfold rk at h0; split at h0 <;> omega
theorem sv_inj {f : Ft} {i j : Int} (hi : i.natAbs ≤ f.inf) (hj : j.natAbs ≤ f.inf) (h : sv f i = sv f j) : i = j := by
  have a := SR_sv f (r := i) (by omega)
  have b := SR_sv f (r := j) (by omega)
  rw [h] at a; omega
theorem yg3 {r : Int} (h : 0 ≤ r ∧ r < 4294967296) (hf : (rk r).natAbs < 2139095040) : T (yg r r r) = 0 := by
  by_cases h0 : rk r = 0
  · rcases rk_zero h h0 with rfl | rfl <;> decide +kernel
  have vr := V_at h hf
  have eg : Ex (sv S (rk r) * ((2 ^ 1 : Nat) : Int)) := Ex.s2 (by rw [sInf]; omega) 1 (by omega)
  have d1 := At.mul 1 two_c vr (Int.le_refl _) (Int.le_refl _) eg eg
  rw [R_ex eg] at d1
  have e2 : sv S (rk r) + sv S (rk r) = sv S (rk r) * ((2 ^ 1 : Nat) : Int) := by
    rw [show ((2 ^ 1 : Nat) : Int) = 2 from rfl]; omega
  have s1 := At.add vr vr (A := sv S (rk r) * ((2 ^ 1 : Nat) : Int)) (B := sv S (rk r) * ((2 ^ 1 : Nat) : Int)) (by omega) (by omega) eg eg
  rw [e2, R_ex eg] at s1
  obtain ⟨a, i, ea, ha, hi, hai⟩ := d1
  obtain ⟨b, j, eb, hb, hj, hbj⟩ := s1
  have hij : i = j := sv_inj (f := D) (by omega) (by omega) (by omega)
  subst hij
  have hne : i ≠ 0 := fun q => by
    rw [q, sv_0'] at hai
    have : sv S (rk r) = 0 := by rw [show ((2 ^ 1 : Nat) : Int) = 2 from rfl] at hai; omega
    exact h0 (sv_inj (f := S) (by rw [sInf]; omega) (by rw [sInf]; omega) (by rw [this, sv_0']))
  have hab := num_eq ha hb hne
  unfold yg
  rw [ea, eb, ← hab]
  have e3 : op .sub .f64 (some a) (some a) = some 0 := sub_self ha hi
  rw [e3]
  decide +kernel
theorem yy3 {r : Int} (h : 0 ≤ r ∧ r < 4294967296) (hf : (rk r).natAbs < 2139095040) : T (yy r r r) = r := by
  by_cases h0 : rk r = 0
  · rcases rk_zero h h0 with rfl | rfl <;> decide +kernel
  have m := mean (lo := rk r) (hi := rk r) h h h hf hf (Int.le_refl _) (Int.le_refl _) (Int.le_refl _) (Int.le_refl _) (Int.le_refl _) (Int.le_refl _)
  have e : rk (T (yy r r r)) = rk r := by omega
  exact Lg.rk_inj m.2.2.2 h e (by omega)
/-- Back from three alike: the values. -/
theorem back3 {r : Int} (h : 0 ≤ r ∧ r < 4294967296) (hf : (rk r).natAbs < 2139095040) :
    (Holds .f64 .f32 (fu r 0 0) ∧ Holds .f64 .f32 (fw r 0) ∧ Holds .f64 .f32 (fz r 0 0)) ∧ (rk (T (fu r 0 0)) = rk r ∧ rk (T (fw r 0)) = rk r ∧ rk (T (fz r 0 0)) = rk r) ∧
    (0 ≤ T (fu r 0 0) ∧ T (fu r 0 0) < 4294967296) ∧ (0 ≤ T (fw r 0) ∧ T (fw r 0) < 4294967296) ∧ (0 ≤ T (fz r 0 0) ∧ T (fz r 0 0) < 4294967296) := by
  have vr := V_at h hf
  have vz := V_at (s := 0) (by omega) (by decide)
  rw [show rk 0 = 0 from rfl, sv_0'] at vz
  have er : Ex (sv S (rk r)) := Ex.s hf
  have t := At.sub vr vz (A := sv S (rk r)) (B := sv S (rk r)) (by omega) (by omega) er er
  rw [Int.sub_zero, R_ex er] at t
  have u := At.add t vz (A := sv S (rk r)) (B := sv S (rk r)) (by omega) (by omega) er er
  rw [Int.add_zero, R_ex er] at u
  have v := At.add vr vz (A := sv S (rk r)) (B := sv S (rk r)) (by omega) (by omega) er er
  rw [Int.add_zero, R_ex er] at v
  have z := At.sub t vz (A := sv S (rk r)) (B := sv S (rk r)) (by omega) (by omega) er er
  rw [Int.sub_zero, R_ex er] at z
  have tu := At.told (x := fu r 0 0) u (a := rk r) (b := rk r) (Int.le_refl _) (Int.le_refl _) (by omega) (by omega) (by omega) (by omega)
  have tv := At.told (x := fw r 0) v (a := rk r) (b := rk r) (Int.le_refl _) (Int.le_refl _) (by omega) (by omega) (by omega) (by omega)
  have tz := At.told (x := fz r 0 0) z (a := rk r) (b := rk r) (Int.le_refl _) (Int.le_refl _) (by omega) (by omega) (by omega) (by omega)
  exact ⟨⟨tu.1, tv.1, tz.1⟩, ⟨by omega, by omega, by omega⟩, tu.2.2.2.2, tv.2.2.2.2, tz.2.2.2.2⟩
/-! ### The law's bounds -/
theorem abs_sv {a e : Int} {n : Nat} (h : 0 ≤ a ∧ a < 4294967296) (hf : a % 2147483648 < 2139095040) (he : Bt.expo a = e + ((n : Nat) : Int)) (hE : -1300 ≤ e) : (sv S (rk a)).natAbs = (Bt.mant a).toNat * 2 ^ n * 2 ^ (e + 1300).toNat := by
  rw [sva h hf he hE, Int.natAbs_mul, Int.natAbs_natCast, sgn_abs]
theorem size_le {a b e : Int} {n1 n2 : Nat} (ha : 0 ≤ a ∧ a < 4294967296) (hfa : a % 2147483648 < 2139095040) (hb : 0 ≤ b ∧ b < 4294967296) (hfb : b % 2147483648 < 2139095040) (h1 : Bt.expo a = e + ((n1 : Nat) : Int)) (h2 : Bt.expo b = e + ((n2 : Nat) : Int)) (hE : -1300 ≤ e) :
    (Bt.mant a).toNat * 2 ^ n1 ≤ (Bt.mant b).toNat * 2 ^ n2 ↔ (sv S (rk a)).natAbs ≤ (sv S (rk b)).natAbs := by
  rw [abs_sv ha hfa h1 hE, abs_sv hb hfb h2 hE]
  exact ⟨fun h => Nat.mul_le_mul_right _ h, fun h => Nat.le_of_mul_le_mul_right h (Nat.two_pow_pos _)⟩
theorem pow_le {a e : Int} {n1 n2 : Nat} (ha : 0 ≤ a ∧ a < 4294967296) (hfa : a % 2147483648 < 2139095040) (h1 : Bt.expo a = e + ((n1 : Nat) : Int)) (h2 : 100 = e + ((n2 : Nat) : Int)) (hE : -1300 ≤ e) {c : Nat} (hc : c = 1151) :
    (Bt.mant a).toNat * 2 ^ n1 ≤ 1 * 2 ^ n2 ↔ (sv S (rk a)).natAbs ≤ 2 ^ (c + 249) := by
  rw [abs_sv ha hfa h1 hE, show c + 249 = n2 + (e + 1300).toNat by omega, Nat.pow_add 2 n2 (e + 1300).toNat, Nat.one_mul]
  exact ⟨fun h => Nat.mul_le_mul_right _ h, fun h => Nat.le_of_mul_le_mul_right h (Nat.two_pow_pos _)⟩
theorem d_ex {M Q : Int} (hQ : 1073741824 ≤ Q) : ∃ d : Int, M + Q ≤ 1073741824 * d ∧ 1073741824 * d ≤ M + 2 * Q := ⟨(M + Q) / 1073741824 + 1, by omega, by omega⟩
theorem bound_ok {a u q eo eb g : Int} {n1 n2 k1 k2 m1 m2 c : Nat} (hc : c = 1151) (ha : 0 ≤ a ∧ a < 4294967296) (hfa : a % 2147483648 < 2139095040) (hu : 0 ≤ u ∧ u < 4294967296) (hfu : u % 2147483648 < 2139095040) (hq : 0 ≤ q ∧ q < 4294967296) (hfq : q % 2147483648 < 2139095040)
    (h1 : Bt.expo a = eo + ((n1 : Nat) : Int)) (h2 : Bt.expo u = eo + ((n2 : Nat) : Int)) (h3 : Bt.expo q - 24 = eb + ((k1 : Nat) : Int)) (h4 : -147 = eb + ((k2 : Nat) : Int)) (h5 : eo = g + ((m1 : Nat) : Int)) (h6 : eb = g + ((m2 : Nat) : Int)) (hE : -1200 ≤ g)
    (hN : Bd (16777216 * (sv S (rk u) - sv S (rk a))) (5 * (((sv S (rk q)).natAbs : Nat) : Int) + 67108864 * ((2 ^ c : Nat) : Int))) :
    dfr (decide (a / 2147483648 % 2 = 1)) (decide (u / 2147483648 % 2 = 1)) ((Bt.mant a).toNat * 2 ^ n1) ((Bt.mant u).toNat * 2 ^ n2) * 2 ^ m1 ≤ ((Bt.mant q).toNat * 5 * 2 ^ k1 + 1 * 2 ^ k2) * 2 ^ m2 := by
  have hx := expo_bd hq hfq
  rw [win h5 h6 (by omega), dfr_val ha hfa hu hfu h1 h2 (by omega)]
  have e1 : (sv S (rk q)).natAbs = (Bt.mant q).toNat * 2 ^ 24 * 2 ^ (Bt.expo q - 24 + 1300).toNat := abs_sv hq hfq (e := Bt.expo q - 24) (n := 24) (by omega) (by omega)
  rw [Nat.add_mul, Nat.mul_assoc _ (2 ^ k1), Nat.mul_assoc _ (2 ^ k2), ← Nat.pow_add, ← Nat.pow_add, show k1 + (eb + 1300).toNat = (Bt.expo q - 24 + 1300).toNat by omega, show k2 + (eb + 1300).toNat = c + 2 by omega, Nat.pow_add 2 c 2]
  rw [e1] at hN
  rw [Nat.mul_right_comm _ (2 ^ 24) _] at hN
  rw [Nat.mul_right_comm _ 5 _]
  unfold Bd at hN
  generalize (Bt.mant q).toNat * 2 ^ (Bt.expo q - 24 + 1300).toNat = A at *
  generalize sv S (rk u) = vu at *
  generalize sv S (rk a) = va at *
  generalize 2 ^ c = Q at *
  clear e1 h1 h2 h3 h4 h5 h6 hx
  omega
def Fn (q : Int) : Prop := (0 ≤ q ∧ q < 4294967296) ∧ q % 2147483648 < 2139095040
def Le (a q : Int) : Prop := (sv S (rk a)).natAbs ≤ (sv S (rk q)).natAbs
def tu (r g b : Int) : Int := T (fu (T (yy r g b)) (T (yg r g b)) (T (yo r g b)))
def tv (r g b : Int) : Int := T (fw (T (yy r g b)) (T (yg r g b)))
def tz (r g b : Int) : Int := T (fz (T (yy r g b)) (T (yg r g b)) (T (yo r g b)))
def Near (a u q : Int) (c : Nat) : Prop := Fn u ∧ Bd (16777216 * (sv S (rk u) - sv S (rk a))) (5 * (((sv S (rk q)).natAbs : Nat) : Int) + 67108864 * ((2 ^ c : Nat) : Int))
theorem Told.fn {x : Option Nat} (h : Told x) : Fn (T x) := ⟨h.2.2, (fin_rk h.2.2).1 (by have := h.2.1; omega)⟩
theorem all {r g b q : Int} {c : Nat} (hc : c = 1151) (hr : Fn r) (hg : Fn g) (hb : Fn b) (l1 : Le r q) (l2 : Le g q) (l3 : Le b q) (hp : (sv S (rk q)).natAbs ≤ 2 ^ (c + 249)) :
    (Holds .f64 .f32 (yy r g b) ∧ Holds .f64 .f32 (yg r g b) ∧ Holds .f64 .f32 (yo r g b)) ∧ (Holds .f64 .f32 (fu (T (yy r g b)) (T (yg r g b)) (T (yo r g b))) ∧ Holds .f64 .f32 (fw (T (yy r g b)) (T (yg r g b))) ∧ Holds .f64 .f32 (fz (T (yy r g b)) (T (yg r g b)) (T (yo r g b)))) ∧
    Near r (tu r g b) q c ∧ Near g (tv r g b) q c ∧ Near b (tz r g b) q c := by
  have fr := (fin_rk hr.1).2 hr.2
  have fg := (fin_rk hg.1).2 hg.2
  have fb := (fin_rk hb.1).2 hb.2
  have hq : (1073741824 : Int) ≤ ((2 ^ c : Nat) : Int) := by
    have : 2 ^ 30 ≤ 2 ^ c := Nat.pow_le_pow_right (by decide) (by omega)
    rw [show 2 ^ 30 = 1073741824 by decide] at this; omega
  obtain ⟨d, hd, hd2⟩ := d_ex (M := (((sv S (rk q)).natAbs : Nat) : Int)) hq
  unfold Le at l1 l2 l3
  have t := there (M := (((sv S (rk q)).natAbs : Nat) : Int)) hc hr.1 hg.1 hb.1 fr fg fb (by unfold Bd; omega) (by unfold Bd; omega) (by unfold Bd; omega) (Int.ofNat_le.2 hp) hd hd2
  have k := back (M := (((sv S (rk q)).natAbs : Nat) : Int)) hc t.1.1.2.2 t.1.2.1.2.2 t.1.2.2.2.2 t.1.1.2.1 t.1.2.1.2.1 t.1.2.2.2.1 (by unfold Bd; omega) (by unfold Bd; omega) (by unfold Bd; omega) (Int.ofNat_le.2 hp) hd hd2 t.2.1 t.2.2.1 t.2.2.2
  exact ⟨⟨t.1.1.1, t.1.2.1.1, t.1.2.2.1⟩, ⟨k.1.1.1, k.1.2.1.1, k.1.2.2.1⟩, ⟨k.1.1.fn, k.2.1⟩, ⟨k.1.2.1.fn, k.2.2.1⟩, ⟨k.1.2.2.fn, k.2.2.2⟩⟩
theorem mant32 (a : Int) : (Bt.mant a).toNat < 4294967296 := by unfold Bt.mant; split <;> omega
theorem nd_mant (a : Int) : Nd.nd (Bt.mant a).toNat ≤ 1 := by rw [Nd.nd_one (mant32 a)]; split <;> omega
theorem nd_mant5 (a : Int) : Nd.nd ((Bt.mant a).toNat * 5) ≤ 2 := Nat.le_trans (Nd.nd_le (Nd.mul_lt (by decide))) (by have := nd_mant a; omega)
theorem nd_bound {a : Int} {k1 k2 : Nat} (ha : 0 ≤ a ∧ a < 4294967296) (h1 : k1 ≤ 300) (h2 : k2 ≤ 300) : Nd.nd ((Bt.mant a).toNat * 5 * 2 ^ k1 + 1 * 2 ^ k2) ≤ 12 := by
  refine Nd.nd_le ?_
  obtain ⟨c, hc⟩ : ∃ c : Nat, c = 150 := ⟨_, rfl⟩
  obtain ⟨P, hP⟩ : ∃ P, P = 2 ^ c * 2 ^ c := ⟨_, rfl⟩
  have p1 : 2 ^ k1 ≤ P := by rw [hP, ← Nat.pow_add]; exact Nat.pow_le_pow_right (by decide) (by omega)
  have p2 : 2 ^ k2 ≤ P := by rw [hP, ← Nat.pow_add]; exact Nat.pow_le_pow_right (by decide) (by omega)
  have q1 : (Bt.mant a).toNat * 5 * 2 ^ k1 ≤ 83886080 * P := Nat.mul_le_mul (by have := mant_bd ha; omega) p1
  have h3 : 83886081 * P < Nd.Bs ^ 12 := by rw [hP, hc]; decide +kernel
  omega
end Sb
