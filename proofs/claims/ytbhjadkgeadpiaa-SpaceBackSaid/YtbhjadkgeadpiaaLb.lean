/- The scale there and back: how far off a rounding is; differences of samples as whole numbers. -/
import Derived.Test.YtbhjadkgeadpiaaLh
import Derived.Test.YtbhjadkgeadpiaaNd
namespace Lb
open Go Ieee Fv Fp Sl Lg Lh Go.Proofs.Ytbhjadkgeadpiaa
set_option linter.unusedVariables false
theorem nd_lt_of {V L : Nat} (h : Nd.nd V ≤ L) : V < Nd.Bs ^ L := Nat.lt_of_lt_of_le Nd.nd_lt (Nat.pow_le_pow_right (by decide) h)
theorem cmp_le (X Z : Nat) : decide ((if X < Z then (-1 : Int) else if X = Z then 0 else 1) ≤ 0) = decide (X ≤ Z) := by
  by_cases h : X < Z
  · rw [if_pos h, decide_eq_true (by decide), decide_eq_true (by omega)]
  · rw [if_neg h]
    by_cases h2 : X = Z
    · rw [if_pos h2, decide_eq_true (by decide), decide_eq_true (by omega)]
    · rw [if_neg h2, decide_eq_false (by decide), decide_eq_false (by omega)]
/-- How far two signed numbers are from one another. -/
def dfr (ga gb : Bool) (X Z : Nat) : Nat := (sgn ga X - sgn gb Z).natAbs
theorem dfr_same {ga gb : Bool} {X Z : Nat} (h : ga = !gb) : dfr ga gb X Z = X + Z := by
  subst h; unfold dfr sgn; cases gb <;> simp <;> omega
theorem dfr_gt {ga gb : Bool} {X Z : Nat} (h : ga ≠ !gb) (h2 : Z < X) : dfr ga gb X Z = X - Z := by
  have : ga = gb := by cases ga <;> cases gb <;> simp_all
  subst this; unfold dfr sgn; cases ga <;> simp <;> omega
theorem dfr_lt {ga gb : Bool} {X Z : Nat} (h : ga ≠ !gb) (h2 : X < Z) : dfr ga gb X Z = Z - X := by
  have : ga = gb := by cases ga <;> cases gb <;> simp_all
  subst this; unfold dfr sgn; cases ga <;> simp <;> omega
theorem rne_err (n d : Nat) : 2 * n ≤ 2 * (rne n d * 2 ^ d) + 2 ^ d ∧ 2 * (rne n d * 2 ^ d) ≤ 2 * n + 2 ^ d := by
  have h := Nat.div_add_mod n (2 ^ d)
  have hr := Nat.mod_lt n (Nat.two_pow_pos d)
  unfold rne
  generalize hq : n / 2 ^ d = q at *
  generalize n % 2 ^ d = r at *
  generalize 2 ^ d = p at *
  rw [Nat.mul_comm] at h
  split
  · rw [Nat.add_mul, Nat.one_mul]; omega
  · rw [Nat.add_zero]; omega
/-- What a rung's value is. -/
theorem val_rung (f : Ft) {N : Nat} (h0 : N ≠ 0) (hb : (last f N - f.l0) * f.B + rne N (last f N) ≤ f.inf) : val f (rung f N) = rne N (last f N) * 2 ^ last f N := by
  have hB := B_pos f
  have hK := kept_le f (N := N)
  have hl : f.l0 ≤ last f N := Nat.le_max_right _ _
  have hge := kept_ge f h0
  unfold rung
  rw [if_neg h0, Nat.min_eq_left hb]
  generalize rne N (last f N) = k at *
  generalize last f N = t at *
  obtain ⟨j, rfl⟩ : ∃ j, t = f.l0 + j := ⟨t - f.l0, by omega⟩
  rw [Nat.add_sub_cancel_left]
  unfold val
  have dm : ∀ m s, s < f.B → (m * f.B + s) / f.B = m ∧ (m * f.B + s) % f.B = s := by
    intro m s hs
    rw [Nat.mul_comm m, Nat.mul_add_div hB, Nat.mul_add_mod, Nat.div_eq_of_lt hs, Nat.mod_eq_of_lt hs]; exact ⟨by omega, rfl⟩
  generalize f.B = B at *
  generalize f.l0 = l at *
  by_cases c2 : k = 2 * B
  · have e : j * B + k = (j + 2) * B + 0 := by rw [c2, Nat.add_mul]; omega
    have := dm (j + 2) 0 hB
    have hnl : ¬ (j + 2) * B + 0 < B := by have : 2 * B ≤ (j + 2) * B := Nat.mul_le_mul_right _ (by omega); omega
    rw [e, if_neg hnl, this.1, this.2, show l + (j + 2 - 1) = l + j + 1 by omega, Nat.pow_succ, c2]
    rw [Nat.add_zero, Nat.mul_comm 2 B, Nat.mul_assoc, Nat.mul_comm 2]
  · by_cases c : k < B
    · have hj : j = 0 := by
        rcases Nat.eq_zero_or_pos j with q | q
        · exact q
        · have := hge (by omega); omega
      subst hj
      rw [if_pos (by omega)]; simp
    · have e : j * B + k = (j + 1) * B + (k - B) := by rw [Nat.add_mul]; omega
      have := dm (j + 1) (k - B) (by omega)
      have hnl : ¬ (j + 1) * B + (k - B) < B := by have : 1 * B ≤ (j + 1) * B := Nat.mul_le_mul_right _ (by omega); omega
      rw [e, if_neg hnl, this.1, this.2, show l + (j + 1 - 1) = l + j by omega, show B + (k - B) = k by omega]
/-- A whole number of units of 2^-23 rounded to binary32. -/
theorem S_int {v : Nat} {c : Nat} (hc : c = 1277) (h0 : 0 < v) (hv : v < 1073741824) : ∃ k, val S (rung S (v * 2 ^ c)) = k * 2 ^ c ∧ k ≤ v + 32 ∧ v ≤ k + 32 ∧ (v < 16777216 ∨ v % 64 = 0 → k = v) := by
  have hne : v ≠ 0 := by omega
  have hfb : S.fb = 23 := rfl
  have hl0 : S.l0 = 1151 := rfl
  have hinf : S.inf = 2139095040 := rfl
  have hB : S.B = 8388608 := by decide +kernel
  have hl : Nat.log2 v ≤ 29 := by
    have : v < 2 ^ 30 := hv
    have := (Nat.log2_lt hne).2 this; omega
  have hN0 : v * 2 ^ c ≠ 0 := Nat.ne_of_gt (Nat.mul_pos h0 (Nat.two_pow_pos _))
  have hlast : last S (v * 2 ^ c) = Nat.log2 v + c - 23 := by unfold last; rw [log2_scale hne, hfb, hl0]; omega
  have hk := kept_le S (N := v * 2 ^ c)
  have hv' := val_rung S hN0 (by rw [hlast] at hk ⊢; rw [hl0, hinf, hB] at *; rw [show Nat.log2 v + c - 23 - 1151 = Nat.log2 v + 103 by omega]; omega)
  rw [hv', hlast]
  by_cases c1 : Nat.log2 v ≤ 23
  · refine ⟨v, ?_, by omega, by omega, fun _ => rfl⟩
    have e1 : v * 2 ^ c = v * 2 ^ (23 - Nat.log2 v) * 2 ^ (Nat.log2 v + c - 23) := by
      rw [Nat.mul_assoc, ← Nat.pow_add]; congr 2; omega
    rw [e1, rne_exact]
  · have e2 : Nat.log2 v + c - 23 = (Nat.log2 v - 23) + c := by omega
    rw [e2, rne_scale]
    refine ⟨rne v (Nat.log2 v - 23) * 2 ^ (Nat.log2 v - 23), by rw [Nat.pow_add, Nat.mul_assoc], ?_⟩
    have he := rne_err v (Nat.log2 v - 23)
    have hp : 2 ^ (Nat.log2 v - 23) ≤ 2 ^ 6 := Nat.pow_le_pow_right (by decide) (by omega)
    have hp' : (2 : Nat) ^ 6 = 64 := by decide
    refine ⟨by omega, by omega, fun h24 => ?_⟩
    have hle := Nat.log2_self_le hne
    have h24' : 2 ^ 24 ≤ 2 ^ Nat.log2 v := Nat.pow_le_pow_right (by decide) (by omega)
    have h24n : (2 : Nat) ^ 24 = 16777216 := by decide
    have hm : v % 64 = 0 := by rcases h24 with q | q <;> omega
    obtain ⟨t, ht⟩ : ∃ t, v = t * 2 ^ (Nat.log2 v - 23) := by
      refine ⟨v / 64 * 2 ^ (6 - (Nat.log2 v - 23)), ?_⟩
      rw [Nat.mul_assoc, ← Nat.pow_add, show 6 - (Nat.log2 v - 23) + (Nat.log2 v - 23) = 6 by omega, hp']; omega
    generalize Nat.log2 v - 23 = d at *
    rw [ht, rne_exact]
theorem SR_0 : SR S 0 = 0 := by unfold SR; rw [if_neg (by omega), show (0 : Int).natAbs = 0 from rfl, rung_zero]; rfl
theorem sv_0 : sv S 0 = 0 := by unfold sv; rw [if_neg (by omega), show (0 : Int).natAbs = 0 from rfl, val_zero]; rfl
theorem sv_SR (X : Int) : sv S (SR S X) = if X < 0 then -((val S (rung S X.natAbs) : Nat) : Int) else ((val S (rung S X.natAbs) : Nat) : Int) := by
  unfold SR
  by_cases h : X < 0
  · rw [if_pos h, if_pos h]
    by_cases h0 : rung S X.natAbs = 0
    · rw [h0, val_zero, show -(((0 : Nat)) : Int) = 0 from rfl]; exact sv_0
    · unfold sv; rw [if_pos (by omega), Int.natAbs_neg, Int.natAbs_natCast]
  · rw [if_neg h, if_neg h]; unfold sv; rw [if_neg (by omega), Int.natAbs_natCast]
/-- The same with a sign. -/
theorem S_int' {n : Int} {c : Nat} (hc : c = 1277) (h1 : -1073741824 < n) (h2 : n < 1073741824) : ∃ k : Int, sv S (SR S (n * ((2 ^ c : Nat) : Int))) = k * ((2 ^ c : Nat) : Int) ∧ k - n ≤ 32 ∧ -32 ≤ k - n ∧ (n.natAbs < 16777216 ∨ n % 64 = 0 → k = n) := by
  have hp : (0 : Int) < ((2 ^ c : Nat) : Int) := Int.natCast_pos.2 (Nat.two_pow_pos c)
  by_cases h0 : n = 0
  · subst h0
    refine ⟨0, ?_, by omega, by omega, fun _ => rfl⟩
    rw [Int.zero_mul]
    rw [SR_0, sv_0]
  obtain ⟨k, e, b1, b2, b3⟩ := S_int hc (v := n.natAbs) (by omega) (by omega)
  have hab : (n * ((2 ^ c : Nat) : Int)).natAbs = n.natAbs * 2 ^ c := by rw [Int.natAbs_mul, Int.natAbs_natCast]
  rw [sv_SR, hab, e]
  by_cases hn : n < 0
  · rw [if_pos (Int.mul_neg_of_neg_of_pos hn hp)]
    refine ⟨-(k : Int), by rw [Int.natCast_mul, Int.neg_mul], by omega, by omega, fun q => ?_⟩
    have := b3 (by omega); omega
  · rw [if_neg (by have := Int.mul_pos (show 0 < n by omega) hp; omega)]
    refine ⟨(k : Int), by rw [Int.natCast_mul], by omega, by omega, fun q => ?_⟩
    have := b3 (by omega); omega
theorem cut_mul {a b : Int} {c : Nat} (h : a * ((2 ^ c : Nat) : Int) = b * ((2 ^ c : Nat) : Int)) : a = b := Int.eq_of_mul_eq_mul_right (Int.ne_of_gt (Int.natCast_pos.2 (Nat.two_pow_pos c))) h
theorem RN_23 (k : Int) {c : Nat} (hc : c = 1277) : RN (k * ((2 ^ c : Nat) : Int) * ((2 ^ 23 : Nat) : Int)) = k := by
  rw [Int.mul_assoc, ← Int.natCast_mul, ← Nat.pow_add]
  exact RN_exact k (e := c + 23) (by omega)
/-- The scale, and back. -/
theorem back1 {x : Int} (h : 0 < x ∧ x < 2139095040) : EX (LG x) - x ≤ 32 ∧ -32 ≤ EX (LG x) - x ∧ ((x - 1065353216).natAbs < 16777216 ∨ (x - 1065353216) % 64 = 0 → EX (LG x) = x) := by
  obtain ⟨b1, b2, b3, b4, b5⟩ := LG_bd h
  have hx : rk x = x := by unfold rk; rw [if_pos (by omega)]
  have e := (LG_rk (a := x) (by omega) (by omega) (by omega)).2.2
  rw [hx, if_neg (by omega), if_neg (by omega)] at e
  obtain ⟨c, hc⟩ : ∃ c : Nat, c = 1277 := ⟨_, rfl⟩
  rw [← hc] at e
  obtain ⟨k, k1, k2, k3, k4⟩ := S_int' hc (n := x - 1065353216) (by omega) (by omega)
  have hE : EX (LG x) = k + 1065353216 := by
    rw [EX_eq ⟨b4, b5⟩, if_neg (by omega)]
    by_cases q : 1124073472 ≤ rk (LG x)
    · have q2 : rk (LG x) = 1124073472 := by omega
      rw [if_pos q]
      have h1 := bd_128
      rw [← hc] at h1
      rw [← e, q2, h1] at k1
      have := cut_mul k1
      omega
    · rw [if_neg q, if_neg (by omega), e, k1, RN_23 k hc]
  rw [hE]
  exact ⟨by omega, by omega, fun q => by have := k4 q; omega⟩
theorem RN_err (X : Int) {d : Nat} (hd : d = 1300) : 2 * (RN X * ((2 ^ d : Nat) : Int) - X).natAbs ≤ 2 ^ d := by
  have h := rne_err X.natAbs d
  unfold RN
  rw [← hd]
  have e : sgn (decide (X < 0)) (rne X.natAbs d) * ((2 ^ d : Nat) : Int) = sgn (decide (X < 0)) (rne X.natAbs d * 2 ^ d) := (sgn_mul _ _ _).symm
  rw [e]
  unfold sgn
  generalize rne X.natAbs d * 2 ^ d = r at *
  generalize 2 ^ d = p at *
  by_cases c : X < 0
  · rw [decide_eq_true c, if_pos rfl]; omega
  · rw [decide_eq_false c, if_neg (by decide)]; omega
theorem bd_1 : sv S 1065353216 = 8388608 * ((2 ^ 1277 : Nat) : Int) := by decide +kernel
theorem bd_m1 : sv S (-1065353216) = -8388608 * ((2 ^ 1277 : Nat) : Int) := by decide +kernel
theorem lt_mul {a b : Int} {c : Nat} (h : a * ((2 ^ c : Nat) : Int) < b * ((2 ^ c : Nat) : Int)) : a < b := Int.lt_of_mul_lt_mul_right h (Int.natCast_nonneg _)
theorem le_mul {a b : Int} {c : Nat} (h : a * ((2 ^ c : Nat) : Int) ≤ b * ((2 ^ c : Nat) : Int)) : a ≤ b := Int.le_of_mul_le_mul_right h (Int.natCast_pos.2 (Nat.two_pow_pos _))
/-- A sample's value. -/
theorem sva {a : Int} {e : Int} {n : Nat} (h : 0 ≤ a ∧ a < 4294967296) (hf : a % 2147483648 < 2139095040) (he : Bt.expo a = e + ((n : Nat) : Int)) (hE : -1300 ≤ e) : sv S (rk a) = sgn (decide (a / 2147483648 % 2 = 1)) ((Bt.mant a).toNat * 2 ^ n) * ((2 ^ (e + 1300).toNat : Nat) : Int) := by
  have hs := Ld.sv_parts h (by omega)
  have hm : 0 ≤ Bt.mant a := by unfold Bt.mant; split <;> omega
  have hp : Bt.prts a = (if 2147483648 ≤ a then -Bt.mant a else Bt.mant a, Bt.expo a, true) := by unfold Bt.prts; rw [if_neg (by omega)]
  rw [hp] at hs
  rw [hs, he, show (e + ((n : Nat) : Int) + 1300).toNat = n + (e + 1300).toNat by omega, Nat.pow_add, Int.natCast_mul, ← Int.mul_assoc]
  congr 1
  rw [sgn_mul]
  congr 1
  unfold sgn
  by_cases c : 2147483648 ≤ a
  · rw [if_pos c, decide_eq_true (by omega), if_pos rfl]; omega
  · rw [if_neg c, decide_eq_false (by omega), if_neg (by decide)]; omega
/-- How far two samples are from one another, in units of 2^-1300. -/
theorem dfr_val {a b e : Int} {n1 n2 : Nat} (ha : 0 ≤ a ∧ a < 4294967296) (hfa : a % 2147483648 < 2139095040) (hb : 0 ≤ b ∧ b < 4294967296) (hfb : b % 2147483648 < 2139095040) (h1 : Bt.expo a = e + ((n1 : Nat) : Int)) (h2 : Bt.expo b = e + ((n2 : Nat) : Int)) (hE : -1300 ≤ e) :
    dfr (decide (a / 2147483648 % 2 = 1)) (decide (b / 2147483648 % 2 = 1)) ((Bt.mant a).toNat * 2 ^ n1) ((Bt.mant b).toNat * 2 ^ n2) * 2 ^ (e + 1300).toNat = (sv S (rk a) - sv S (rk b)).natAbs := by
  rw [sva ha hfa h1 hE, sva hb hfb h2 hE, ← Int.sub_mul, Int.natAbs_mul, Int.natAbs_natCast]; rfl
/-- From the scale to a sample, and back to the scale. -/
theorem back2 {y : Int} (h : 0 ≤ y ∧ y < 4294967296) (h1 : -1123942400 < rk y) (h2 : rk y < 1124073472) {c : Nat} (hc : c = 1277) :
    0 ≤ LG (EX y) ∧ LG (EX y) < 4294967296 ∧ LG (EX y) % 2147483648 < 2139095040 ∧ (1065353216 ≤ y % 2147483648 → LG (EX y) = y) ∧ 2 * (sv S (rk y) - sv S (rk (LG (EX y)))).natAbs ≤ 2 ^ c := by
  have hfin : y / 8388608 % 256 ≠ 255 := by unfold rk at h1 h2; split at h1 <;> omega
  obtain ⟨d, hd⟩ : ∃ d : Nat, d = 1300 := ⟨_, rfl⟩
  have hcd : d = c + 23 := by omega
  have hE : EX y = RN (sv S (rk y) * ((2 ^ 23 : Nat) : Int)) + 1065353216 := by
    rw [EX_eq h, if_neg (by omega), if_neg (by omega), if_neg (by omega)]
  have hY : (1065353216 ≤ (rk y).natAbs ∧ ∃ j : Int, sv S (rk y) = j * ((2 ^ c : Nat) : Int)) ∨ (rk y).natAbs < 1065353216 := by
    by_cases q : 1065353216 ≤ (rk y).natAbs
    · refine .inl ⟨q, ?_⟩
      have hx : -23 ≤ Bt.expo y := by unfold Bt.expo; unfold rk at q; split at q <;> split <;> omega
      obtain ⟨n, hn⟩ := Int.eq_ofNat_of_zero_le (show 0 ≤ Bt.expo y + 23 by omega)
      have := sva (a := y) (e := -23) (n := n) h (by omega) (by omega) (by omega)
      exact ⟨_, by rw [this, show ((-23 : Int) + 1300).toNat = c by omega]⟩
    · exact .inr (by omega)
  have hm : -1065353216 < RN (sv S (rk y) * ((2 ^ 23 : Nat) : Int)) ∧ RN (sv S (rk y) * ((2 ^ 23 : Nat) : Int)) < 1073741824 ∧ ((rk y).natAbs < 1065353216 → (RN (sv S (rk y) * ((2 ^ 23 : Nat) : Int))).natAbs ≤ 8388608) := by
    rcases hY with ⟨q, j, hj⟩ | q
    · rw [hj, RN_23 j hc]
      have u1 := sv_lt h2 (by omega) (by omega)
      have u2 := sv_lt h1 (by omega) (by omega)
      rw [bd_128, ← hc, hj] at u1
      rw [bd_m127, ← hc, hj] at u2
      exact ⟨lt_mul u2, lt_mul u1, fun z => by omega⟩
    · have u1 := sv_mono S (show rk y ≤ 1065353216 by omega) (by rw [sInf]; omega) (by rw [sInf]; omega)
      have u2 := sv_mono S (show -1065353216 ≤ rk y by omega) (by rw [sInf]; omega) (by rw [sInf]; omega)
      rw [bd_1, ← hc] at u1
      rw [bd_m1, ← hc] at u2
      have v1 := RN_mono (scale_le u1 (2 ^ 23))
      have v2 := RN_mono (scale_le u2 (2 ^ 23))
      rw [RN_23 _ hc] at v1 v2
      exact ⟨by omega, by omega, fun _ => by omega⟩
  have herr := RN_err (sv S (rk y) * ((2 ^ 23 : Nat) : Int)) hd
  have hex : ∀ j : Int, sv S (rk y) = j * ((2 ^ c : Nat) : Int) → RN (sv S (rk y) * ((2 ^ 23 : Nat) : Int)) = j := fun j hj => by rw [hj, RN_23 j hc]
  generalize RN (sv S (rk y) * ((2 ^ 23 : Nat) : Int)) = m at *
  obtain ⟨b1, b2, b3, b4, b5⟩ := LG_bd (a := EX y) (by omega)
  have hx : rk (EX y) = EX y := by unfold rk; rw [if_pos (by omega)]
  have e := (LG_rk (a := EX y) (by omega) (by omega) (by omega)).2.2
  rw [hx, if_neg (by omega), if_neg (by omega), ← hc, show EX y - 1065353216 = m by omega] at e
  refine ⟨b4, b5, b1, ?_, ?_⟩
  · intro q
    rcases hY with ⟨_, j, hj⟩ | q2
    · rw [← hex j hj] at hj
      rw [← hj, SR_sv S (by rw [sInf]; omega)] at e
      exact rk_inj ⟨b4, b5⟩ h e (by rw [e]; unfold rk; split <;> omega)
    · unfold rk at q2; split at q2 <;> omega
  · rcases hY with ⟨q, j, hj⟩ | q
    · rw [← hex j hj] at hj
      rw [← hj, SR_sv S (by rw [sInf]; omega)] at e
      rw [e, Int.sub_self]; exact Nat.zero_le _
    · have hm2 := hm.2.2 q
      obtain ⟨k, k1, _, _, k4⟩ := S_int' hc (n := m) (by omega) (by omega)
      have hk := k4 (.inl (by omega))
      rw [e, k1, hk]
      clear hE hm hex e k1 k4 hx b1 b2 b3 b4 b5
      rw [hcd, Nat.pow_add, Int.natCast_mul, ← Int.mul_assoc, ← Int.sub_mul, Int.natAbs_mul, Int.natAbs_natCast, ← Nat.mul_assoc] at herr
      have := Nat.le_of_mul_le_mul_right herr (Nat.two_pow_pos 23)
      generalize m * ((2 ^ c : Nat) : Int) = A at *
      generalize 2 ^ c = p at *
      omega
/-- Whole numbers on the scale. -/
def FI (k : Int) : Int := if k = 0 then 0 else sg (decide (k < 0)) + ((RD k.natAbs 0 : Nat) : Int)
theorem back3 {k : Int} (h1 : -127 < k) (h2 : k < 128) : LG ((k + 127) * 8388608) = FI k ∧ EX (FI k) = (k + 127) * 8388608 := by
  have hL : LG ((k + 127) * 8388608) = FI k := by
    have hx : rk ((k + 127) * 8388608) = (k + 127) * 8388608 := by unfold rk; rw [if_pos (by omega)]
    rw [LG_eq (by omega), if_neg (by omega), if_neg (by omega), if_neg (by omega)]
    unfold FI
    by_cases q : k = 0
    · rw [if_pos q, q]; exact lq_zero
    · rw [if_neg q, lq_told (by omega) (by omega)]
      have e1 : decide ((k + 127) * 8388608 - 1065353216 < 0) = decide (k < 0) := decide_eq_decide.2 (by omega)
      rw [e1]
      refine congrArg (fun z : Nat => sg (decide (k < 0)) + ((z : Nat) : Int)) ?_
      unfold RD
      obtain ⟨c, hc⟩ : ∃ c : Nat, c = 1277 := ⟨_, rfl⟩
      rw [show ((-23 : Int) + 1300).toNat = c by omega, show ((0 : Int) + 1300).toNat = 23 + c by omega, Nat.pow_add, ← Nat.mul_assoc, show ((k + 127) * 8388608 - 1065353216).natAbs = k.natAbs * 2 ^ 23 by rw [show (2 : Nat) ^ 23 = 8388608 by decide]; omega]
  refine ⟨hL, ?_⟩
  rw [← hL]
  exact (back1 (by omega)).2.2 (.inr (by omega))
theorem FI_u32 {k : Int} (h1 : -127 < k) (h2 : k < 128) : 0 ≤ FI k ∧ FI k < 4294967296 := by
  rw [← (back3 h1 h2).1]; exact LG_u32 (by omega)
theorem ne_not (b : Bool) : b ≠ !b := by cases b <;> decide
theorem expo_bd {a : Int} (h : 0 ≤ a ∧ a < 4294967296) (hf : a % 2147483648 < 2139095040) : -149 ≤ Bt.expo a ∧ Bt.expo a ≤ 104 := by unfold Bt.expo; split <;> omega
theorem mant_bd {a : Int} (h : 0 ≤ a ∧ a < 4294967296) : (Bt.mant a).toNat < 16777216 := by unfold Bt.mant; split <;> omega
theorem mins (a b : Int) : ∃ (e : Int) (n1 n2 : Nat), a = e + ((n1 : Nat) : Int) ∧ b = e + ((n2 : Nat) : Int) ∧ (n1 = 0 ∨ n2 = 0) ∧ e = min a b :=
  ⟨min a b, (a - min a b).toNat, (b - min a b).toNat, by omega, by omega, by omega, rfl⟩
theorem dfr_nd {a b : Int} {n1 n2 : Nat} (ha : 0 ≤ a ∧ a < 4294967296) (hb : 0 ≤ b ∧ b < 4294967296) (h1 : n1 ≤ 300) (h2 : n2 ≤ 300) (ga gb : Bool) : Nd.nd (dfr ga gb ((Bt.mant a).toNat * 2 ^ n1) ((Bt.mant b).toNat * 2 ^ n2)) ≤ 12 := by
  refine Nd.nd_le ?_
  obtain ⟨c, hc⟩ : ∃ c : Nat, c = 150 := ⟨_, rfl⟩
  obtain ⟨P, hP⟩ : ∃ P, P = 2 ^ c * 2 ^ c := ⟨_, rfl⟩
  have p1 : 2 ^ n1 ≤ P := by rw [hP, ← Nat.pow_add]; exact Nat.pow_le_pow_right (by decide) (by omega)
  have p2 : 2 ^ n2 ≤ P := by rw [hP, ← Nat.pow_add]; exact Nat.pow_le_pow_right (by decide) (by omega)
  have q1 : (Bt.mant a).toNat * 2 ^ n1 ≤ 16777216 * P := Nat.mul_le_mul (Nat.le_of_lt (mant_bd ha)) p1
  have q2 : (Bt.mant b).toNat * 2 ^ n2 ≤ 16777216 * P := Nat.mul_le_mul (Nat.le_of_lt (mant_bd hb)) p2
  have hd : dfr ga gb ((Bt.mant a).toNat * 2 ^ n1) ((Bt.mant b).toNat * 2 ^ n2) ≤ (Bt.mant a).toNat * 2 ^ n1 + (Bt.mant b).toNat * 2 ^ n2 := by
    unfold dfr sgn; split <;> split <;> omega
  have h3 : 33554432 * P < Nd.Bs ^ 12 := by rw [hP, hc]; decide +kernel
  omega
theorem win {V Z : Nat} {e f g : Int} {m1 m2 : Nat} (he : e = g + ((m1 : Nat) : Int)) (hf : f = g + ((m2 : Nat) : Int)) (hE : -1300 ≤ g) : V * 2 ^ m1 ≤ Z * 2 ^ m2 ↔ V * 2 ^ (e + 1300).toNat ≤ Z * 2 ^ (f + 1300).toNat := by
  rw [show (e + 1300).toNat = m1 + (g + 1300).toNat by omega, show (f + 1300).toNat = m2 + (g + 1300).toNat by omega, Nat.pow_add, Nat.pow_add, ← Nat.mul_assoc, ← Nat.mul_assoc]
  exact ⟨fun h => Nat.mul_le_mul_right _ h, fun h => Nat.le_of_mul_le_mul_right h (Nat.two_pow_pos _)⟩
def NearB (y b : Int) : Prop := ∀ c : Nat, c = 1277 → 2 * (sv S (rk y) - sv S (rk b)).natAbs ≤ 2 ^ c
theorem back2' {y : Int} (h : 0 ≤ y ∧ y < 4294967296) (h1 : -1123942400 < rk y) (h2 : rk y < 1124073472) :
    LG (EX y) % 2147483648 < 2139095040 ∧ (1065353216 ≤ y % 2147483648 → LG (EX y) = y) ∧ NearB y (LG (EX y)) := by
  obtain ⟨c, hc⟩ : ∃ c : Nat, c = 1277 := ⟨_, rfl⟩
  obtain ⟨_, _, q1, q2, q3⟩ := back2 h h1 h2 hc
  exact ⟨q1, q2, fun c' hc' => by rw [hc', ← hc]; exact q3⟩
theorem near_ok {y b e g : Int} {n1 n2 m1 m2 : Nat} (ha : 0 ≤ y ∧ y < 4294967296) (hfa : y % 2147483648 < 2139095040) (hb : 0 ≤ b ∧ b < 4294967296) (hfb : b % 2147483648 < 2139095040) (h1 : Bt.expo y = e + ((n1 : Nat) : Int)) (h2 : Bt.expo b = e + ((n2 : Nat) : Int)) (he : e = g + ((m1 : Nat) : Int)) (hf : -24 = g + ((m2 : Nat) : Int)) (hE : -1300 ≤ g) (hN : NearB y b) :
    dfr (decide (y / 2147483648 % 2 = 1)) (decide (b / 2147483648 % 2 = 1)) ((Bt.mant y).toNat * 2 ^ n1) ((Bt.mant b).toNat * 2 ^ n2) * 2 ^ m1 ≤ 1 * 2 ^ m2 := by
  rw [win he hf hE, dfr_val ha hfa hb hfb h1 h2 (by omega)]
  obtain ⟨c, hc⟩ : ∃ c : Nat, c = 1276 := ⟨_, rfl⟩
  have := hN (c + 1) (by omega)
  rw [show ((-24 : Int) + 1300).toNat = c by omega]
  rw [Nat.pow_succ] at this
  generalize 2 ^ c = p at *
  generalize (sv S (rk y) - sv S (rk b)).natAbs = d at *
  omega
theorem rk_of_sv {a b : Int} (ha : 0 ≤ a ∧ a < 4294967296) (hfa : a % 2147483648 < 2139095040) (hb : 0 ≤ b ∧ b < 4294967296) (hfb : b % 2147483648 < 2139095040) (h : sv S (rk a) = sv S (rk b)) : rk a = rk b := by
  have x1 := SR_sv S (r := rk a) (by rw [sInf]; unfold rk; split <;> omega)
  have x2 := SR_sv S (r := rk b) (by rw [sInf]; unfold rk; split <;> omega)
  rw [h, x2] at x1; exact x1.symm
theorem eq_of {a b e : Int} {n1 n2 : Nat} (ha : 0 ≤ a ∧ a < 4294967296) (hfa : a % 2147483648 < 2139095040) (hb : 0 ≤ b ∧ b < 4294967296) (hfb : b % 2147483648 < 2139095040) (h1 : Bt.expo a = e + ((n1 : Nat) : Int)) (h2 : Bt.expo b = e + ((n2 : Nat) : Int)) (hE : -1300 ≤ e)
    (hg : decide (a / 2147483648 % 2 = 1) ≠ !decide (b / 2147483648 % 2 = 1)) (h : (Bt.mant a).toNat * 2 ^ n1 = (Bt.mant b).toNat * 2 ^ n2) : a = b := by
  have hg' : decide (a / 2147483648 % 2 = 1) = decide (b / 2147483648 % 2 = 1) := by
    generalize decide (a / 2147483648 % 2 = 1) = u at *
    generalize decide (b / 2147483648 % 2 = 1) = v at *
    cases u <;> cases v <;> simp_all
  have e := rk_of_sv ha hfa hb hfb (by rw [sva ha hfa h1 hE, sva hb hfb h2 hE, hg', h])
  have hg2 := decide_eq_decide.1 hg'
  unfold rk at e
  split at e <;> split at e <;> omega
end Lb
