/- Means by weights and slopes in binary64, in plain Lean: shares rounded; nothing overflows. -/
import Derived.Test.YtjbpdhofhhinhaaSl
import Derived.Test.YtjbpdhofhhinhaaBt
namespace Bl
open Go Ieee Fv Fp Sl
set_option linter.unusedVariables false
/-! ### Shares, rounded -/
/-- Twice a quotient, and one more if something is left (N: units of 2^-1300). -/
def Nc (N s : Nat) : Nat := 2 * (N / 2 / s) + (if N / 2 % s = 0 then 0 else 1)
theorem Nc_mono {N M : Nat} (h : N ≤ M) (s : Nat) : Nc N s ≤ Nc M s := by
  unfold Nc
  have h1 : N / 2 ≤ M / 2 := Nat.div_le_div_right h
  generalize N / 2 = a at *
  generalize M / 2 = b at *
  have h2 : a / s ≤ b / s := Nat.div_le_div_right h1
  rcases Nat.lt_or_ge (a / s) (b / s) with h3 | h3
  · split <;> split <;> omega
  · have e : a / s = b / s := by omega
    have d1 := Nat.div_add_mod a s; have d2 := Nat.div_add_mod b s
    rw [e] at d1 ⊢
    generalize s * (b / s) = t at d1 d2
    split <;> split <;> omega
theorem Nc_exact {s B : Nat} (hs : 0 < s) : Nc (s * (2 * B)) s = 2 * B := by
  unfold Nc
  have e : s * (2 * B) / 2 = s * B := by rw [show s * (2 * B) = 2 * (s * B) by rw [Nat.mul_left_comm]]; omega
  rw [e, Nat.mul_div_cancel_left _ hs, Nat.mul_mod_right]; simp
def sNc (X : Int) (s : Nat) : Int := if X < 0 then -((Nc X.natAbs s : Nat) : Int) else ((Nc X.natAbs s : Nat) : Int)
theorem sNc_mono {X Y : Int} (h : X ≤ Y) (s : Nat) : sNc X s ≤ sNc Y s := by
  unfold sNc
  split <;> split
  · have := Nc_mono (show Y.natAbs ≤ X.natAbs by omega) s; omega
  · omega
  · omega
  · have := Nc_mono (show X.natAbs ≤ Y.natAbs by omega) s; omega
theorem sNc_exact {s : Nat} {B : Int} (hs : 0 < s) : sNc ((s : Int) * (2 * B)) s = 2 * B := by
  have h : ((s : Int) * (2 * B)).natAbs = s * (2 * B.natAbs) := by rw [Int.natAbs_mul, Int.natAbs_mul, Int.natAbs_natCast]; rfl
  have hp : (0 : Int) < (s : Int) := by omega
  unfold sNc
  rw [h, Nc_exact hs]
  by_cases h0 : B < 0
  · rw [if_pos (Int.mul_neg_of_pos_of_neg hp (by omega))]; omega
  · rw [if_neg (by have := Int.mul_nonneg (Int.le_of_lt hp) (show (0 : Int) ≤ 2 * B by omega); omega)]; omega
theorem same_share {A F n s : Nat} (hn : 0 < n) (hs : 0 < s) (h : A * n = F * s) : A / s = F / n ∧ (A % s = 0 ↔ F % n = 0) := by
  have e1 : A / s = A * n / (s * n) := (Nat.mul_div_mul_right _ _ hn).symm
  have e2 : F / n = F * s / (n * s) := (Nat.mul_div_mul_right _ _ hs).symm
  refine ⟨by rw [e1, e2, h, Nat.mul_comm s n], ?_⟩
  have f1 : A * n % (s * n) = A % s * n := Nat.mul_mod_mul_right _ _ _
  have f2 : F * s % (n * s) = F % n * s := Nat.mul_mod_mul_right _ _ _
  rw [h, Nat.mul_comm s n, f2] at f1
  constructor
  · intro q; rw [q, Nat.zero_mul] at f1
    rcases Nat.mul_eq_zero.1 f1 with q | q <;> omega
  · intro q; rw [q, Nat.zero_mul] at f1
    rcases Nat.mul_eq_zero.1 f1.symm with q | q <;> omega
/-- Between two neighbours of a fine grid all is rounded alike. -/
theorem sticky {f g y z : Nat} (hg : 1 ≤ g) (hf : 2 ^ 53 ≤ f) (y1 : f * 2 ^ g < y) (y2 : y < (f + 1) * 2 ^ g) (z1 : f * 2 ^ g < z) (z2 : z < (f + 1) * 2 ^ g) : rung D y = rung D z := by
  have hp := Nat.two_pow_pos g
  have f0 : f ≠ 0 := by have := Nat.two_pow_pos 53; omega
  have key : ∀ t, 0 < t → t < 2 ^ g → rung D (f * 2 ^ g + t) = min ((max (f.log2 + g - 52) 226 - 226) * D.B + (f / 2 ^ (max (f.log2 + g - 52) 226 - g) + (if 2 ^ (max (f.log2 + g - 52) 226 - g) ≤ 2 * (f % 2 ^ (max (f.log2 + g - 52) 226 - g)) then 1 else 0))) D.inf := by
    intro t t1 t2
    have hne : f * 2 ^ g + t ≠ 0 := by omega
    have hlog : (f * 2 ^ g + t).log2 = f.log2 + g := by
      apply log2_of
      · rw [Nat.pow_add]; have := Nat.mul_le_mul_right (2 ^ g) (Nat.log2_self_le f0); omega
      · rw [show f.log2 + g + 1 = f.log2 + 1 + g by omega, Nat.pow_add]
        have h1 : f + 1 ≤ 2 ^ (f.log2 + 1) := Nat.lt_log2_self
        have h2 := Nat.mul_le_mul_right (2 ^ g) h1
        rw [Nat.add_mul] at h2; omega
    have hfl : 53 ≤ f.log2 := by rw [Nat.le_log2 f0]; exact hf
    have hL : last D (f * 2 ^ g + t) = max (f.log2 + g - 52) 226 := by unfold last; rw [hlog]; rfl
    unfold rung
    rw [if_neg hne, hL]
    obtain ⟨e, he⟩ : ∃ e, max (f.log2 + g - 52) 226 = g + (e + 1) := ⟨max (f.log2 + g - 52) 226 - g - 1, by omega⟩
    rw [he]
    have e0 : D.l0 = 226 := rfl
    rw [e0, show g + (e + 1) - g = e + 1 by omega]
    congr 2
    unfold rne
    have hE := Nat.two_pow_pos (e + 1)
    have q1 : (f * 2 ^ g + t) / 2 ^ (g + (e + 1)) = f / 2 ^ (e + 1) := by
      rw [Nat.pow_add, ← Nat.div_div_eq_div_mul, Nat.mul_comm f, Nat.mul_add_div hp, Nat.div_eq_of_lt t2, Nat.add_zero]
    have q2 : (f * 2 ^ g + t) % 2 ^ (g + (e + 1)) = 2 ^ g * (f % 2 ^ (e + 1)) + t := by
      have d1 := Nat.div_add_mod (f * 2 ^ g + t) (2 ^ (g + (e + 1)))
      have d2 := Nat.div_add_mod f (2 ^ (e + 1))
      rw [q1] at d1
      have d3 : f * 2 ^ g = 2 ^ (g + (e + 1)) * (f / 2 ^ (e + 1)) + 2 ^ g * (f % 2 ^ (e + 1)) := by
        conv => lhs; rw [← d2]
        rw [Nat.add_mul, Nat.pow_add 2 g]
        congr 1
        · rw [Nat.mul_comm (2 ^ g) (2 ^ (e + 1)), Nat.mul_right_comm]
        · rw [Nat.mul_comm]
      rw [d3] at d1 ⊢
      omega
    rw [q1, q2]
    congr 1
    have hpw : 2 ^ (g + (e + 1)) = 2 ^ g * (2 * 2 ^ e) := by rw [Nat.pow_add, Nat.pow_succ 2 e, Nat.mul_comm (2 ^ e) 2]
    have hE2 : 2 ^ (e + 1) = 2 * 2 ^ e := by rw [Nat.pow_succ 2 e, Nat.mul_comm (2 ^ e) 2]
    rw [hpw, hE2]
    generalize f % (2 * 2 ^ e) = h
    generalize 2 ^ e = E at *
    generalize 2 ^ g = G at *
    by_cases c : 2 * E ≤ 2 * h
    · rw [if_pos c, if_pos]
      left
      have := Nat.mul_le_mul_left G c
      rw [Nat.mul_left_comm G 2 h] at this
      omega
    · rw [if_neg c, if_neg]
      have h1 : h + 1 ≤ E := by omega
      have := Nat.mul_le_mul_left G h1
      rw [Nat.mul_add, Nat.mul_one] at this
      rw [Nat.mul_left_comm G 2 E]
      omega
  have a1 := key (y - f * 2 ^ g) (by omega) (by rw [Nat.add_mul] at y2; omega)
  have a2 := key (z - f * 2 ^ g) (by omega) (by rw [Nat.add_mul] at z2; omega)
  rw [show f * 2 ^ g + (y - f * 2 ^ g) = y by omega] at a1
  rw [show f * 2 ^ g + (z - f * 2 ^ g) = z by omega] at a2
  rw [a1, a2]
/-- The model's quotient, rounded, is the exact one's. -/
theorem quo_rung {E n k : Nat} (hn : 0 < n) (hf : 2 ^ 53 ≤ E / n) : rung D ((2 * (E / n) + (E % n != 0).toNat) * 2 ^ k) = rung D (2 * (E * 2 ^ k / n) + (if E * 2 ^ k % n = 0 then 0 else 1)) := by
  have hk := Nat.two_pow_pos k
  have d := Nat.div_add_mod E n
  by_cases h0 : E % n = 0
  · have e1 : E = n * (E / n) := by omega
    have e2 : E * 2 ^ k = n * (E / n * 2 ^ k) := by conv => lhs; rw [e1]
                                                    rw [Nat.mul_assoc]
    rw [e2, Nat.mul_div_cancel_left _ hn, Nat.mul_mod_right, if_pos rfl, h0]
    congr 1
    simp [Nat.mul_assoc]
  · have hb : (E % n != 0) = true := by simpa using h0
    rw [hb]
    have hr : E % n < n := Nat.mod_lt _ hn
    generalize hq : E / n = f at *
    generalize hr' : E % n = r at *
    have e2 : E * 2 ^ k = n * (f * 2 ^ k) + r * 2 ^ k := by rw [← d, Nat.add_mul, Nat.mul_assoc]
    have e3 : E * 2 ^ k / n = f * 2 ^ k + r * 2 ^ k / n := by rw [e2, Nat.mul_add_div hn]
    have e4 : E * 2 ^ k % n = r * 2 ^ k % n := by rw [e2, Nat.mul_add_mod]
    have e5 : r * 2 ^ k / n < 2 ^ k := by rw [Nat.div_lt_iff_lt_mul hn, Nat.mul_comm (2 ^ k)]; exact Nat.mul_lt_mul_of_pos_right hr hk
    rw [e3, e4]
    have hpk : 2 ^ (k + 1) = 2 * 2 ^ k := by rw [Nat.pow_succ]; omega
    have hr0 : 0 < r * 2 ^ k := Nat.mul_pos (by omega) hk
    have hlow : r * 2 ^ k / n = 0 → r * 2 ^ k % n ≠ 0 := by
      intro q; have := Nat.div_add_mod (r * 2 ^ k) n; rw [q] at this; omega
    apply sticky (f := f) (g := k + 1) (by omega) hf
    · rw [hpk]; show _ < (2 * f + 1) * 2 ^ k; rw [Nat.add_mul, Nat.mul_comm 2 f, Nat.mul_assoc]; omega
    · rw [hpk]; show (2 * f + 1) * 2 ^ k < _; rw [Nat.add_mul, Nat.add_mul, Nat.mul_comm 2 f, Nat.mul_assoc]; omega
    · rw [hpk, Nat.mul_left_comm f 2]
      generalize r * 2 ^ k / n = u at *
      split
      · have : u ≠ 0 := fun q => hlow q (by assumption)
        omega
      · omega
    · rw [hpk, Nat.add_mul, Nat.mul_left_comm f 2]
      split <;> omega
/-- The float of a whole number from 1 on: its word. -/
theorem ofInt_read {s : Nat} (h1 : 1 ≤ s) (h2 : s < 9007199254740992) : ∃ n j, double.read (floatOfInt .f64 (s : Int)) = .number false n j ∧ 0 < n ∧ n < 9007199254740992 ∧ -53 ≤ j ∧ j ≤ 52 ∧ n * 2 ^ (j + 1300).toNat = s * 2 ^ 1300 := by
  obtain ⟨q, hq⟩ : ∃ q : Nat, q = 1300 := ⟨_, rfl⟩
  have hX : (s : Int) * ((2 ^ q : Nat) : Int) = sgn false (s * 2 ^ (0 + 1300 : Int).toNat) := by
    rw [show (0 + 1300 : Int).toNat = q by omega]
    show _ = ((s * 2 ^ q : Nat) : Int)
    rw [Int.natCast_mul]
  have hn := write_fin fits_D (d := .number false s 0) (X := (s : Int) * ((2 ^ q : Nat) : Int)) ⟨_, _, _, rfl, by omega, hX⟩
  have e : Ex ((s : Int) * ((2 ^ q : Nat) : Int)) := ⟨s, q, by rw [Int.natAbs_mul, Int.natAbs_natCast, Int.natAbs_natCast], h2, by omega, by omega⟩
  have hw : floatOfInt .f64 (s : Int) = double.write (.number false s 0) := by
    have hd : decide ((s : Int) < 0) = false := decide_eq_false (by omega)
    show double.write (.number (decide ((s : Int) < 0)) (s : Int).natAbs 0) = _
    rw [hd, Int.natAbs_natCast]
  rw [← hw] at hn
  obtain ⟨g, n, j, hr, hn2, hj, hv⟩ := hn.read fits_D e.sr.2
  rw [e.sr.1] at hv
  have hps : (0 : Int) < (s : Int) * ((2 ^ q : Nat) : Int) := Int.mul_pos (by omega) (by exact_mod_cast Nat.two_pow_pos q)
  have hg : g = false := sgn_pos (n := n * 2 ^ (j + 1300).toNat) (by rw [← hv]; exact hps)
  subst hg
  have hnat : s * 2 ^ q = n * 2 ^ (j + 1300).toNat := by
    have := congrArg Int.natAbs hv
    rwa [Int.natAbs_mul, Int.natAbs_natCast, Int.natAbs_natCast, sgn_abs] at this
  have hB : D.B = 4503599627370496 := by decide +kernel
  have h0 : D.l0 = 226 := rfl
  have hn0 : n ≠ 0 := by
    rintro rfl
    rw [Nat.zero_mul] at hnat
    have := Nat.mul_pos (show 0 < s by omega) (Nat.two_pow_pos q); omega
  refine ⟨n, j, hr, by omega, by omega, ?_, ?_, by rw [← hq]; exact hnat.symm⟩
  · rcases Int.lt_or_le j (-53) with c | c
    · exfalso
      have h3 : n * 2 ^ (j + 1300).toNat < 2 ^ 53 * 2 ^ (j + 1300).toNat := Nat.mul_lt_mul_of_pos_right (by omega) (Nat.two_pow_pos _)
      rw [← Nat.pow_add] at h3
      have h4 : 2 ^ (53 + (j + 1300).toNat) ≤ 2 ^ q := Nat.pow_le_pow_right (by decide) (by omega)
      have h5 : 2 ^ q ≤ s * 2 ^ q := Nat.le_mul_of_pos_left _ (by omega)
      omega
    · exact c
  · rcases Int.lt_or_le 52 j with c | c
    · exfalso
      have h3 : 2 ^ (j + 1300).toNat ≤ n * 2 ^ (j + 1300).toNat := Nat.le_mul_of_pos_left _ (by omega)
      have h4 : 2 ^ (53 + q) ≤ 2 ^ (j + 1300).toNat := Nat.pow_le_pow_right (by decide) (by omega)
      have h5 : s * 2 ^ q < 2 ^ 53 * 2 ^ q := Nat.mul_lt_mul_of_pos_right (by omega) (Nat.two_pow_pos _)
      rw [← Nat.pow_add] at h5
      omega
    · exact c
theorem sgn_sNc {X : Int} {sx : Bool} {N s : Nat} (hX : X = sgn sx N) : (sNc X s).natAbs = Nc N s ∧ (sNc X s < 0 → sx = true) ∧ (0 < sNc X s → sx = false) := by
  have hN : X.natAbs = N := by rw [hX, sgn_abs]
  have h0 : Nc 0 s = 0 := by simp [Nc]
  unfold sNc
  rw [hN]
  refine ⟨by split <;> omega, fun h => ?_, fun h => ?_⟩
  · split at h
    · rename_i c; rw [hX] at c; exact sgn_neg c
    · omega
  · split at h
    · omega
    · rename_i c
      rcases Int.lt_or_le 0 X with q | q
      · rw [hX] at q; exact sgn_pos q
      · have : X = 0 := by omega
        rw [this] at hN; rw [← hN] at h; simp [h0] at h
/-- A number by a whole one. -/
theorem quo_num {x s : Nat} {a : Int} (hx : Num double x a) (ha : a.natAbs < D.inf) (h1 : 1 ≤ s) (h2 : s < 9007199254740992) : ∃ w, double.div x (floatOfInt .f64 (s : Int)) = some w ∧ Num double w (SR D (sNc (sv D a) s)) := by
  obtain ⟨sx, m, i, e1, hm, hi, hv⟩ := hx.read fits_D ha
  obtain ⟨n, j, e2, hn0, hn2, hj1, hj2, hnj⟩ := ofInt_read h1 h2
  have hB : D.B = 4503599627370496 := by decide +kernel
  have h0 : D.l0 = 226 := rfl
  have hml : m.log2 ≤ 53 := by
    by_cases c : m = 0
    · subst c; simp [Nat.log2_def]
    · have : m < 2 ^ 54 := by omega
      have := (Nat.log2_lt c).2 this; omega
  have hnl : n.log2 ≤ 52 := by
    have : n < 2 ^ 53 := by omega
    have := (Nat.log2_lt (by omega)).2 this; omega
  obtain ⟨M, hM⟩ : ∃ M, 52 + 2 + n.log2 - m.log2 = M := ⟨_, rfl⟩
  obtain ⟨k, hk⟩ : ∃ k : Nat, (i - j - (M : Int) - 1 + 1300).toNat = k := ⟨_, rfl⟩
  have hk2 : i - j - (M : Int) - 1 + 1300 = (k : Int) := by omega
  have hdiv : double.div x (floatOfInt .f64 (s : Int)) = some (double.write (.number sx (2 * (m * 2 ^ M / n) + (m * 2 ^ M % n != 0).toNat) (i - j - (M : Int) - 1))) := by
    unfold Format.div
    rw [e1, e2]
    unfold Datum.quotient
    rw [show double.fractionBits + 2 = 52 + 2 from rfl]
    simp only [hM, Nat.shiftLeft_eq]
    rw [if_neg (by omega)]; simp
  refine ⟨_, hdiv, ?_⟩
  have hw := write_fin fits_D (d := .number sx (2 * (m * 2 ^ M / n) + (m * 2 ^ M % n != 0).toNat) (i - j - (M : Int) - 1)) ⟨_, _, _, rfl, by omega, rfl⟩
  rw [hk] at hw
  -- the rungs are the same
  have hN : rung D ((2 * (m * 2 ^ M / n) + (m * 2 ^ M % n != 0).toNat) * 2 ^ k) = rung D (Nc (m * 2 ^ (i + 1300).toNat) s) := by
    by_cases hm0 : m = 0
    · subst hm0; simp [Nc]
    · have hf : 2 ^ 53 ≤ m * 2 ^ M / n := by
        rw [Nat.le_div_iff_mul_le hn0]
        have q1 : 2 ^ m.log2 ≤ m := Nat.log2_self_le hm0
        have q2 : n < 2 ^ (n.log2 + 1) := Nat.lt_log2_self
        have q3 : 2 ^ 53 * n ≤ 2 ^ 53 * 2 ^ (n.log2 + 1) := Nat.mul_le_mul_left _ (Nat.le_of_lt q2)
        rw [← Nat.pow_add] at q3
        have q4 : 2 ^ m.log2 * 2 ^ M ≤ m * 2 ^ M := Nat.mul_le_mul_right _ q1
        rw [← Nat.pow_add] at q4
        have q5 : 2 ^ (53 + (n.log2 + 1)) = 2 ^ (m.log2 + M) := by congr 1; omega
        omega
      rw [quo_rung hn0 hf]
      obtain ⟨q, hq⟩ : ∃ q : Nat, q = 1300 := ⟨_, rfl⟩
      obtain ⟨c, hc⟩ : ∃ c : Nat, (i + 1300).toNat = c + 1 := ⟨(i + 1300).toNat - 1, by omega⟩
      have hhalf : m * 2 ^ (c + 1) / 2 = m * 2 ^ c := by
        rw [Nat.pow_succ, ← Nat.mul_assoc]; exact Nat.mul_div_cancel _ (by decide)
      rw [← hq] at hnj
      have hsh : m * 2 ^ c * n = m * 2 ^ M * 2 ^ k * s := by
        apply Nat.eq_of_mul_eq_mul_right (Nat.two_pow_pos q)
        have r1 : m * 2 ^ M * 2 ^ k * s * 2 ^ q = m * (2 ^ M * 2 ^ k * 2 ^ (j + 1300).toNat) * n := by
          rw [Nat.mul_assoc (m * 2 ^ M * 2 ^ k), ← hnj]
          simp only [Nat.mul_assoc, Nat.mul_left_comm, Nat.mul_comm]
        have r2 : 2 ^ M * 2 ^ k * 2 ^ (j + 1300).toNat = 2 ^ c * 2 ^ q := by
          rw [← Nat.pow_add, ← Nat.pow_add, ← Nat.pow_add]; congr 1; omega
        rw [r1, r2]
        simp only [Nat.mul_left_comm, Nat.mul_comm]
      have hss := same_share hn0 (show 0 < s by omega) hsh
      unfold Nc
      rw [hc, hhalf, hss.1]
      congr 2
      by_cases z : m * 2 ^ M * 2 ^ k % n = 0
      · rw [if_pos z, if_pos (hss.2.2 z)]
      · rw [if_neg z, if_neg (fun y => z (hss.2.1 y))]
  obtain ⟨g, hg1, hg2, hg3⟩ := hw
  have hsn := sgn_sNc (s := s) hv
  refine ⟨sx, ?_, fun h => hsn.2.1 (SR_neg h), fun h => hsn.2.2 (SR_pos h)⟩
  rw [SR_abs, hsn.1, ← hN]
  show double.nearest sx _ _ = _
  rw [nearest_rung fits_D sx _ (by omega), hk]
theorem At.quo {x : Option Nat} {X A B : Int} {s : Nat} (hx : At x X) (h1 : 1 ≤ s) (h2 : s < 9007199254740992) (hA : A ≤ sNc X s) (hB : sNc X s ≤ B) (eA : Ex A) (eB : Ex B) : At (op .quo .f64 x (some (floatOfInt .f64 (s : Int)))) (R (sNc X s)) := by
  obtain ⟨a, p, rfl, ha, ha2, rfl⟩ := hx
  obtain ⟨w, e, hw⟩ := quo_num ha ha2 h1 h2
  exact At.of (show op .quo .f64 (some a) (some (floatOfInt .f64 (s : Int))) = some w from e) hw (fin_of hA hB eA eB)
/-- A whole number's product with a number. -/
theorem At.times {x : Option Nat} {X A B : Int} {s : Nat} (hx : At x X) (h1 : 1 ≤ s) (h2 : s < 9007199254740992) (hA : A ≤ (s : Int) * X) (hB : (s : Int) * X ≤ B) (eA : Ex A) (eB : Ex B) : At (op .mul .f64 (some (floatOfInt .f64 (s : Int))) x) (R ((s : Int) * X)) := by
  obtain ⟨a, p, rfl, ha, ha2, rfl⟩ := hx
  obtain ⟨sx, m, i, e1, hm, hi, hv⟩ := ha.read fits_D ha2
  obtain ⟨n, j, e2, hn0, hn2, hj1, hj2, hnj⟩ := ofInt_read h1 h2
  have h0 : D.l0 = 226 := rfl
  obtain ⟨q, hq⟩ : ∃ q : Nat, q = 1300 := ⟨_, rfl⟩
  have hX : (s : Int) * sv D p = sgn sx (n * m * 2 ^ (j + i + 1300).toNat) := by
    have hnat : n * m * 2 ^ (j + i + 1300).toNat = m * 2 ^ (i + 1300).toNat * s := by
      apply Nat.eq_of_mul_eq_mul_right (Nat.two_pow_pos q)
      rw [← hq] at hnj
      rw [Nat.mul_assoc (m * 2 ^ (i + 1300).toNat), ← hnj]
      have r2 : 2 ^ (j + i + 1300).toNat * 2 ^ q = 2 ^ (i + 1300).toNat * 2 ^ (j + 1300).toNat := by
        rw [← Nat.pow_add, ← Nat.pow_add]; congr 1; omega
      rw [Nat.mul_assoc (n * m), r2]
      simp only [Nat.mul_assoc, Nat.mul_left_comm, Nat.mul_comm]
    rw [hnat, hv, Int.mul_comm]; exact (sgn_mul sx _ s).symm
  have hw := write_fin fits_D (d := .number (false ^^ sx) (n * m) (j + i)) (X := (s : Int) * sv D p) ⟨_, _, _, rfl, by omega, by rw [hX]; simp⟩
  have hmul : op .mul .f64 (some (floatOfInt .f64 (s : Int))) (some a) = some (double.write (.number (false ^^ sx) (n * m) (j + i))) := by
    show double.mul _ _ = _
    unfold Format.mul
    rw [e1, e2]; rfl
  exact At.of hmul hw (fin_of hA hB eA eB)
/-! ### Nothing overflows -/
/-- No number, an infinity, or a number between -B and B. -/
def Bd (x : Option Nat) (B : Int) : Prop := x = none ∨ (∃ w s, x = some w ∧ double.read w = .infinity s) ∨ ∃ X, At x X ∧ -B ≤ X ∧ X ≤ B
def Mx : Int := sv S 2139095039
theorem Mx_eq : Mx = 16777215 * ((2 ^ 1404 : Nat) : Int) := by decide +kernel
theorem exM (k : Nat) (hk : k ≤ 1000000) : Ex ((k : Int) * Mx) ∧ Ex (-((k : Int) * Mx)) := by
  have e : (k : Int) * Mx = ((k * 16777215 : Nat) : Int) * ((2 ^ 1404 : Nat) : Int) := by
    rw [Mx_eq, ← Int.mul_assoc, Int.natCast_mul]; rfl
  have h : Ex ((k : Int) * Mx) := ⟨k * 16777215, 1404, by rw [e, Int.natAbs_mul, Int.natAbs_natCast, Int.natAbs_natCast], by omega, by omega, by omega⟩
  refine ⟨h, ?_⟩
  obtain ⟨m, q, h1, h2⟩ := h
  exact ⟨m, q, by rw [Int.natAbs_neg]; exact h1, h2⟩
theorem Mx_pos : 0 ≤ Mx := by decide +kernel
theorem read_write_inf (s : Bool) : double.read (double.write (.infinity s)) = .infinity s := by
  have := read_inf fits_D s; rwa [show D.inf = double.infRung by decide +kernel] at this
theorem Bd.V {s : Int} (h : 0 ≤ s ∧ s < 4294967296) : Bd (V s) Mx := by
  by_cases h1 : (rk s).natAbs ≤ 2139095040
  · by_cases h2 : (rk s).natAbs < 2139095040
    · refine .inr (.inr ⟨_, V_at h h2, ?_, ?_⟩)
      · show -sv S 2139095039 ≤ _
        rw [← sv_sym]; exact sv_mono S (by omega) (by rw [sInf]; omega) (by rw [sInf]; omega)
      · exact sv_mono S (by omega) (by rw [sInf]; omega) (by rw [sInf]; omega)
    · obtain ⟨w, e, hw⟩ := V_inf h (by omega)
      exact .inr (.inl ⟨w, _, e, hw⟩)
  · exact .inl (V_nan h h1)
theorem Bd.holds {x : Option Nat} (h : Bd x Mx) : Holds .f64 .f32 x := by
  rcases h with rfl | ⟨w, s, rfl, e⟩ | ⟨X, hX, h1, h2⟩
  · intro b hb; cases hb
  · intro b hb; cases hb
    unfold floatToFloatBits
    have e' : FloatKind.f64.decode w = .infinity s := e
    rw [if_neg (by decide), e']; rfl
  · exact (hX.told (a := -2139095039) (b := 2139095039) (by rw [sv_sym]; exact h1) h2 (by omega) (by omega) (by omega) (by omega)).1
theorem scl_le {X Y : Int} (k : Nat) (h : X ≤ Y) : (k : Int) * X ≤ (k : Int) * Y := Int.mul_le_mul_of_nonneg_left h (by omega)
theorem Bd.add {x y : Option Nat} {a b : Nat} (hx : Bd x ((a : Int) * Mx)) (hy : Bd y ((b : Int) * Mx)) (hk : a + b ≤ 1000000) : Bd (op .add .f64 x y) (((a + b : Nat) : Int) * Mx) := by
  rcases hx with rfl | ⟨w, s, rfl, e⟩ | ⟨X, hX, h1, h2⟩
  · exact .inl rfl
  · rcases hy with rfl | ⟨w2, s2, rfl, e2⟩ | ⟨Y, hY, h3, h4⟩
    · exact .inl rfl
    · by_cases c : s = s2
      · refine .inr (.inl ⟨_, s, (show double.add w w2 = some (double.write (.infinity s)) from ?_), read_write_inf s⟩)
        unfold Format.add; rw [e, e2]; simp [Datum.sum, c]
      · refine .inl (show double.add w w2 = none from ?_)
        unfold Format.add; rw [e, e2]; simp [Datum.sum, c]
    · obtain ⟨w2, r, rfl, hw2, hr, _⟩ := hY
      obtain ⟨g, m, p, e2, _⟩ := hw2.read fits_D hr
      refine .inr (.inl ⟨_, s, (show double.add w w2 = some (double.write (.infinity s)) from ?_), read_write_inf s⟩)
      unfold Format.add; rw [e, e2]; simp [Datum.sum]
  · rcases hy with rfl | ⟨w2, s2, rfl, e2⟩ | ⟨Y, hY, h3, h4⟩
    · obtain ⟨w, r, rfl, _⟩ := hX; exact .inl rfl
    · obtain ⟨w, r, rfl, hw, hr, _⟩ := hX
      obtain ⟨g, m, p, e, _⟩ := hw.read fits_D hr
      refine .inr (.inl ⟨_, s2, (show double.add w w2 = some (double.write (.infinity s2)) from ?_), read_write_inf s2⟩)
      unfold Format.add; rw [e, e2]; simp [Datum.sum]
    · have ek : ((a + b : Nat) : Int) * Mx = (a : Int) * Mx + (b : Int) * Mx := by rw [Int.natCast_add, Int.add_mul]
      obtain ⟨e1, e2⟩ := exM (a + b) hk
      rw [ek] at e1 e2 ⊢
      exact .inr (.inr ⟨_, At.add hX hY (A := -((a : Int) * Mx + (b : Int) * Mx)) (B := (a : Int) * Mx + (b : Int) * Mx) (by omega) (by omega) e2 e1, R_ge (by omega) e2, R_le (by omega) e1⟩)
theorem Bd.sub {x y : Option Nat} {a b : Nat} (hx : Bd x ((a : Int) * Mx)) (hy : Bd y ((b : Int) * Mx)) (hk : a + b ≤ 1000000) : Bd (op .sub .f64 x y) (((a + b : Nat) : Int) * Mx) := by
  rcases hx with rfl | ⟨w, s, rfl, e⟩ | ⟨X, hX, h1, h2⟩
  · exact .inl rfl
  · rcases hy with rfl | ⟨w2, s2, rfl, e2⟩ | ⟨Y, hY, h3, h4⟩
    · exact .inl rfl
    · by_cases c : s = !s2
      · refine .inr (.inl ⟨_, s, (show double.sub w w2 = some (double.write (.infinity s)) from ?_), read_write_inf s⟩)
        unfold Format.sub; rw [e, e2]; simp [Datum.sum, Datum.opposite, c]
      · refine .inl (show double.sub w w2 = none from ?_)
        unfold Format.sub; rw [e, e2]; simp [Datum.sum, Datum.opposite, c]
    · obtain ⟨w2, r, rfl, hw2, hr, _⟩ := hY
      obtain ⟨g, m, p, e2, _⟩ := hw2.read fits_D hr
      refine .inr (.inl ⟨_, s, (show double.sub w w2 = some (double.write (.infinity s)) from ?_), read_write_inf s⟩)
      unfold Format.sub; rw [e, e2]; simp [Datum.sum, Datum.opposite]
  · rcases hy with rfl | ⟨w2, s2, rfl, e2⟩ | ⟨Y, hY, h3, h4⟩
    · obtain ⟨w, r, rfl, _⟩ := hX; exact .inl rfl
    · obtain ⟨w, r, rfl, hw, hr, _⟩ := hX
      obtain ⟨g, m, p, e, _⟩ := hw.read fits_D hr
      refine .inr (.inl ⟨_, !s2, (show double.sub w w2 = some (double.write (.infinity (!s2))) from ?_), read_write_inf (!s2)⟩)
      unfold Format.sub; rw [e, e2]; simp [Datum.sum, Datum.opposite]
    · have ek : ((a + b : Nat) : Int) * Mx = (a : Int) * Mx + (b : Int) * Mx := by rw [Int.natCast_add, Int.add_mul]
      obtain ⟨e1, e2⟩ := exM (a + b) hk
      rw [ek] at e1 e2 ⊢
      exact .inr (.inr ⟨_, At.sub hX hY (A := -((a : Int) * Mx + (b : Int) * Mx)) (B := (a : Int) * Mx + (b : Int) * Mx) (by omega) (by omega) e2 e1, R_ge (by omega) e2, R_le (by omega) e1⟩)
theorem Bd.times {x : Option Nat} {s : Nat} (hx : Bd x Mx) (h1 : 1 ≤ s) (h2 : s ≤ 1000000) : Bd (op .mul .f64 (some (floatOfInt .f64 (s : Int))) x) ((s : Int) * Mx) := by
  rcases hx with rfl | ⟨w, g, rfl, e⟩ | ⟨X, hX, h3, h4⟩
  · exact .inl rfl
  · obtain ⟨n, j, e2, hn0, _⟩ := ofInt_read (s := s) h1 (by omega)
    refine .inr (.inl ⟨_, g, (show double.mul _ w = some (double.write (.infinity g)) from ?_), read_write_inf g⟩)
    unfold Format.mul; rw [e2, e]; simp [Datum.product, show n ≠ 0 by omega]
  · obtain ⟨e1, e2⟩ := exM s h2
    have q1 := scl_le s h3
    have q2 := scl_le s h4
    rw [Int.mul_neg] at q1
    exact .inr (.inr ⟨_, At.times hX h1 (by omega) q1 q2 e2 e1, R_ge q1 e2, R_le q2 e1⟩)
theorem Mx_even : ∃ b, Mx = 2 * b := ⟨16777215 * ((2 ^ 1403 : Nat) : Int), by decide +kernel⟩
theorem Bd.quo {x : Option Nat} {s : Nat} (hx : Bd x ((s : Int) * Mx)) (h1 : 1 ≤ s) (h2 : s ≤ 1000000) : Bd (op .quo .f64 x (some (floatOfInt .f64 (s : Int)))) Mx := by
  rcases hx with rfl | ⟨w, g, rfl, e⟩ | ⟨X, hX, h3, h4⟩
  · exact .inl rfl
  · obtain ⟨n, j, e2, hn0, _⟩ := ofInt_read (s := s) h1 (by omega)
    refine .inr (.inl ⟨_, g, (show double.div w _ = some (double.write (.infinity g)) from ?_), read_write_inf g⟩)
    unfold Format.div; rw [e2, e]; simp [Datum.quotient]
  · obtain ⟨b, hb⟩ := Mx_even
    have m1 := sNc_mono h3 s
    have m2 := sNc_mono h4 s
    rw [hb, sNc_exact h1, ← hb] at m2
    rw [hb, ← Int.mul_neg, ← Int.mul_neg, sNc_exact h1, Int.mul_neg, ← hb] at m1
    obtain ⟨e1, e2⟩ := exM 1 (by omega)
    rw [show ((1 : Nat) : Int) * Mx = Mx from Int.one_mul _] at e1 e2
    exact .inr (.inr ⟨_, At.quo hX h1 (by omega) m1 m2 e2 e1, R_ge m1 e2, R_le m2 e1⟩)
/-! ### Means by weights; slopes -/
def slp (a b : Int) : Option Nat := (op .quo .f64 (op .sub .f64 (V a) (V b)) (some 4611686018427387904))
theorem two_int : floatOfInt .f64 ((2 : Nat) : Int) = 4611686018427387904 := by decide +kernel
theorem slp_holds {a b : Int} (ha : 0 ≤ a ∧ a < 4294967296) (hb : 0 ≤ b ∧ b < 4294967296) : Holds .f64 .f32 (slp a b) := by
  have h1 := Bd.V ha
  have h2 := Bd.V hb
  rw [← show ((1 : Nat) : Int) * Mx = Mx from Int.one_mul _] at h1 h2
  have h := (Bd.sub h1 h2 (by omega)).quo (s := 2) (by omega) (by omega)
  rw [two_int] at h
  exact h.holds
def pr (g : Int) (x : Option Nat) : Option Nat := (op .mul .f64 (some (floatOfInt .f64 g)) x)
def acc (g : Nat → Int) (v : Nat → Option Nat) : Nat → Option Nat
  | 0 => some 0
  | 1 => pr (g 0) (v 0)
  | k + 2 => op .add .f64 (acc g v (k + 1)) (pr (g (k + 1)) (v (k + 1)))
def sm (g : Nat → Int) : Nat → Int
  | 0 => 0
  | k + 1 => sm g k + g k
def wq (g : Nat → Int) (v : Nat → Option Nat) (m : Nat) : Option Nat := (op .quo .f64 (acc g v m) (some (floatOfInt .f64 (sm g m))))
def wgh (g : Nat → Int) (l : Nat → Int) (m : Nat) : Int := T (wq g (fun i => V (l i)) m)
theorem sm_bd {g : Nat → Int} : ∀ m : Nat, m ≤ 15 → (∀ i, i < m → 1 ≤ g i ∧ g i ≤ 16384) → (m : Int) ≤ sm g m ∧ sm g m ≤ (m : Int) * 16384
  | 0, _, _ => ⟨Int.le_refl _, Int.le_refl _⟩
  | m + 1, h, hg => by
    have h1 := sm_bd m (by omega) (fun i hi => hg i (by omega))
    have h2 := hg m (by omega)
    show ((m + 1 : Nat) : Int) ≤ sm g m + g m ∧ _
    constructor
    · omega
    · show sm g m + g m ≤ _; omega
theorem acc_bd {g : Nat → Int} {v : Nat → Option Nat} : ∀ m : Nat, m ≤ 15 → (∀ i, i < m → 1 ≤ g i ∧ g i ≤ 16384) → (∀ i, i < m → Bd (v i) Mx) → 1 ≤ m → Bd (acc g v m) (sm g m * Mx)
  | 0, _, _, _, h => absurd h (by omega)
  | 1, _, hg, hv, _ => by
    obtain ⟨n, hn⟩ := Int.eq_ofNat_of_zero_le (show 0 ≤ g 0 by have := hg 0 (by omega); omega)
    have := hg 0 (by omega)
    have h := (hv 0 (by omega)).times (s := n) (by omega) (by omega)
    show Bd (pr (g 0) (v 0)) ((0 + g 0) * Mx)
    rw [Int.zero_add, hn]; exact h
  | m + 2, hm, hg, hv, _ => by
    have h1 := acc_bd (g := g) (v := v) (m + 1) (by omega) (fun i hi => hg i (by omega)) (fun i hi => hv i (by omega)) (by omega)
    have hs := sm_bd (g := g) (m + 1) (by omega) (fun i hi => hg i (by omega))
    obtain ⟨n, hn⟩ := Int.eq_ofNat_of_zero_le (show 0 ≤ g (m + 1) by have := hg (m + 1) (by omega); omega)
    obtain ⟨k, hk⟩ := Int.eq_ofNat_of_zero_le (show 0 ≤ sm g (m + 1) by omega)
    have hgm := hg (m + 1) (by omega)
    have h2 := (hv (m + 1) (by omega)).times (s := n) (by omega) (by omega)
    rw [hk] at h1
    have h3 := h1.add h2 (by omega)
    show Bd (op .add .f64 (acc g v (m + 1)) (pr (g (m + 1)) (v (m + 1)))) ((sm g (m + 1) + g (m + 1)) * Mx)
    rw [hn, hk]
    have e : ((k : Int) + (n : Int)) = ((k + n : Nat) : Int) := by omega
    show Bd _ (((k : Int) + (n : Int)) * Mx)
    rw [e]; exact h3
theorem wq_holds {g : Nat → Int} {l : Nat → Int} {m : Nat} (h1 : 1 ≤ m) (h2 : m ≤ 15) (hg : ∀ i, i < m → 1 ≤ g i ∧ g i ≤ 16384) (hl : ∀ i, i < m → 0 ≤ l i ∧ l i < 4294967296) : Holds .f64 .f32 (wq g (fun i => V (l i)) m) := by
  have hb := acc_bd (g := g) (v := fun i => V (l i)) m h2 hg (fun i hi => Bd.V (hl i hi)) h1
  have hs := sm_bd (g := g) m h2 hg
  obtain ⟨k, hk⟩ := Int.eq_ofNat_of_zero_le (show 0 ≤ sm g m by omega)
  rw [hk] at hb
  have := hb.quo (s := k) (by omega) (by omega)
  unfold wq
  rw [hk]
  exact this.holds
theorem acc_first {g : Nat → Int} {v : Nat → Option Nat} {k : Nat} (h : k = 0) : acc g v (k + 1) = pr (g k) (v k) := by subst h; rfl
theorem acc_next {g : Nat → Int} {v : Nat → Option Nat} {k : Nat} (h : 1 ≤ k) : acc g v (k + 1) = op .add .f64 (acc g v k) (pr (g k) (v k)) := by
  obtain ⟨j, rfl⟩ : ∃ j, k = j + 1 := ⟨k - 1, by omega⟩
  rfl
theorem acc_congr {g : Nat → Int} {v v' : Nat → Option Nat} : ∀ m : Nat, (∀ i, i < m → v i = v' i) → acc g v m = acc g v' m
  | 0, _ => rfl
  | m + 1, h => by
    rcases Nat.eq_zero_or_pos m with h0 | h0
    · rw [acc_first h0, acc_first h0, h m (by omega)]
    · rw [acc_next h0, acc_next h0, h m (by omega), acc_congr m (fun i hi => h i (by omega))]
theorem wgh_congr {g : Nat → Int} {l l' : Nat → Int} {m : Nat} (h : ∀ i, i < m → l i = l' i) : wgh g l m = wgh g l' m := by
  unfold wgh wq; rw [acc_congr m (fun i hi => by rw [h i hi])]
theorem sm_add {g : Nat → Int} {k : Nat} (hk : k < 15) (hg : ∀ i, i < k + 1 → 1 ≤ g i ∧ g i ≤ 16384) : IntKind.i64.wrap (sm g k + g k) = sm g (k + 1) := by
  have hs := sm_bd (g := g) k (by omega) (fun i hi => hg i (by omega))
  have hg' := hg k (by omega)
  rw [show sm g (k + 1) = sm g k + g k from rfl, IntKind.wrap_i64]; omega
/-! ### The made NaN -/
theorem mde_is {X : Nat} {x : Option Nat} (h : IsB .f32 X x) : Go.Proofs.Ytjbpdhofhhinhaa.Bt.mde (X : Int) = T32 x := by
  have e : single.signWeight = 2147483648 := by decide +kernel
  have e2 : single.infRung = 2139095040 := by decide +kernel
  have e3 : single.binade = 8388608 := by decide +kernel
  have hX : X < 4294967296 := by have := h.2; rw [show FloatKind.f32.format.signWeight = 2147483648 from e] at this; omega
  have key : nanB .f32 X = true ↔ Go.Proofs.Ytjbpdhofhhinhaa.Bt.cls (X : Int) = 1 := by
    have hn : nanB .f32 X = true ↔ 2139095040 < X % 2147483648 := by
      show (single.read X).isNaN = true ↔ _
      unfold Format.read
      simp only [e, e2, e3]
      by_cases c1 : X % 2147483648 < 8388608
      · rw [if_pos c1]; simp [Datum.isNaN]; omega
      · rw [if_neg c1]
        by_cases c2 : X % 2147483648 < 2139095040
        · rw [if_pos c2]; simp [Datum.isNaN]; omega
        · rw [if_neg c2]
          by_cases c3 : X % 2147483648 = 2139095040
          · rw [if_pos c3]; simp [Datum.isNaN]; omega
          · rw [if_neg c3]; simp [Datum.isNaN]; omega
    rw [hn]
    unfold Go.Proofs.Ytjbpdhofhhinhaa.Bt.cls
    split
    · split <;> omega
    · split
      · split <;> omega
      · omega
  unfold Go.Proofs.Ytjbpdhofhhinhaa.Bt.mde
  obtain ⟨h, _⟩ := h
  cases x with
  | none => rw [if_pos (key.1 h)]; rfl
  | some b =>
    obtain ⟨rfl, h⟩ := h
    rw [if_neg (fun c => by rw [key.2 c] at h; cases h)]; rfl
end Bl
