/- Rounding, in plain Lean: what the model's binary floats do, by whole numbers. No program is named here. -/
import Derived.Laws.FloatArith
namespace Fp
open Ieee
set_option linter.unusedVariables false
/-- n / 2^d, to the nearest whole number, ties to even. -/
def rne (n d : Nat) : Nat := n / 2 ^ d + (if 2 ^ d < 2 * (n % 2 ^ d) ∨ (2 ^ d = 2 * (n % 2 ^ d) ∧ n / 2 ^ d % 2 = 1) then 1 else 0)
theorem rne_cut (s : Bool) (n d : Nat) : Toward.even.cut s n d = rne n d := by
  unfold Toward.cut rne
  simp only [Nat.one_shiftLeft]
  by_cases hd : d ≤ n.log2 + 2
  · rw [Nat.min_eq_left hd]
    generalize 2 ^ d = g
    by_cases h1 : g < 2 * (n % g)
    · simp [h1]
    · by_cases h2 : g = 2 * (n % g)
      · by_cases h3 : n / g % 2 = 1
        · simp [h3, ← h2]
        · simp [h3, ← h2]
      · simp [h1, h2]
  · rw [Nat.min_eq_right (by omega)]
    have hlt : n < 2 ^ (n.log2 + 1) := Nat.lt_log2_self
    have hp : 2 ^ (n.log2 + 2) = 2 * 2 ^ (n.log2 + 1) := by rw [Nat.pow_succ 2 (n.log2 + 1)]; omega
    have hq : 2 ^ (n.log2 + 2) ≤ 2 ^ d := Nat.pow_le_pow_right (by decide) (by omega)
    generalize 2 ^ (n.log2 + 1) = a at hlt hp
    generalize 2 ^ (n.log2 + 2) = b at hp hq
    generalize 2 ^ d = c at hq
    have e1 : n / b = 0 := Nat.div_eq_of_lt (by omega)
    have e2 : n % b = n := Nat.mod_eq_of_lt (by omega)
    have e3 : n / c = 0 := Nat.div_eq_of_lt (by omega)
    have e4 : n % c = n := Nat.mod_eq_of_lt (by omega)
    rw [e1, e2, e3, e4]
    have h1 : ¬ b < 2 * n := by omega
    have h2 : ¬ b = 2 * n := by omega
    have h3 : ¬ c < 2 * n := by omega
    have h4 : ¬ c = 2 * n := by omega
    simp [h1, h3, h4]
theorem rne_le (n d : Nat) : n / 2 ^ d ≤ rne n d ∧ rne n d ≤ n / 2 ^ d + 1 := by unfold rne; split <;> omega
theorem rne_mono {n m : Nat} (h : n ≤ m) (d : Nat) : rne n d ≤ rne m d := by
  have hq : n / 2 ^ d ≤ m / 2 ^ d := Nat.div_le_div_right h
  rcases Nat.lt_or_ge (n / 2 ^ d) (m / 2 ^ d) with hlt | hge
  · have := (rne_le n d).2; have := (rne_le m d).1; omega
  · have e : n / 2 ^ d = m / 2 ^ d := by omega
    have hr : n % 2 ^ d ≤ m % 2 ^ d := by
      have h1 := Nat.div_add_mod n (2 ^ d); have h2 := Nat.div_add_mod m (2 ^ d)
      rw [e] at h1
      generalize 2 ^ d * (m / 2 ^ d) = t at h1 h2
      omega
    unfold rne
    rw [e]
    generalize 2 ^ d = g at *
    generalize n % g = x at *
    generalize m % g = y at *
    by_cases c1 : g < 2 * x ∨ (g = 2 * x ∧ m / g % 2 = 1)
    · rw [if_pos c1, if_pos (by omega)]; exact Nat.le_refl _
    · rw [if_neg c1]; omega
theorem rne_zero (n : Nat) : rne n 0 = n := by
  unfold rne; simp [Nat.mod_one]
theorem rne_exact (k d : Nat) : rne (k * 2 ^ d) d = k := by
  unfold rne
  have hp : 0 < 2 ^ d := Nat.two_pow_pos d
  rw [Nat.mul_div_cancel _ hp, Nat.mul_mod_left, if_neg (by omega)]
  exact Nat.add_zero k
theorem rne_scale (n d k : Nat) : rne (n * 2 ^ k) (d + k) = rne n d := by
  unfold rne
  have hk : 0 < 2 ^ k := Nat.two_pow_pos k
  rw [Nat.pow_add, Nat.mul_div_mul_right _ _ hk, Nat.mul_mod_mul_right]
  have e1 : (2 ^ d * 2 ^ k < 2 * (n % 2 ^ d * 2 ^ k)) ↔ 2 ^ d < 2 * (n % 2 ^ d) := by
    rw [← Nat.mul_assoc]; exact ⟨fun h => Nat.lt_of_mul_lt_mul_right h, fun h => Nat.mul_lt_mul_of_pos_right h hk⟩
  have e2 : (2 ^ d * 2 ^ k = 2 * (n % 2 ^ d * 2 ^ k)) ↔ 2 ^ d = 2 * (n % 2 ^ d) := by
    rw [← Nat.mul_assoc]; exact ⟨fun h => Nat.eq_of_mul_eq_mul_right hk h, fun h => congrArg (· * 2 ^ k) h⟩
  simp only [e1, e2]
theorem log2_scale {n : Nat} (h : n ≠ 0) (k : Nat) : (n * 2 ^ k).log2 = n.log2 + k := by
  have hk : 0 < 2 ^ k := Nat.two_pow_pos k
  have h0 : n * 2 ^ k ≠ 0 := by
    intro e; rcases Nat.mul_eq_zero.1 e with e | e <;> omega
  apply Nat.le_antisymm
  · have : n * 2 ^ k < 2 ^ (n.log2 + k + 1) := by
      rw [show n.log2 + k + 1 = n.log2 + 1 + k by omega, Nat.pow_add]
      exact Nat.mul_lt_mul_of_pos_right Nat.lt_log2_self hk
    have := (Nat.log2_lt h0).2 this; omega
  · rw [Nat.le_log2 h0, Nat.pow_add]
    exact Nat.mul_le_mul_right _ (Nat.log2_self_le h)

/-! ### A format's rungs, of magnitudes counted in units of 2^-K -/
def K : Nat := 1300
structure Ft where
  fb : Nat
  l0 : Nat
  inf : Nat
def Ft.B (f : Ft) : Nat := 2 ^ f.fb
def last (f : Ft) (N : Nat) : Nat := max (N.log2 - f.fb) f.l0
/-- The rung nearest to N. -/
def rung (f : Ft) (N : Nat) : Nat := if N = 0 then 0 else min ((last f N - f.l0) * f.B + rne N (last f N)) f.inf
/-- A rung's magnitude. -/
def val (f : Ft) (r : Nat) : Nat := if r < f.B then r * 2 ^ f.l0 else (f.B + r % f.B) * 2 ^ (f.l0 + (r / f.B - 1))
theorem kept_le (f : Ft) {N : Nat} : rne N (last f N) ≤ 2 * f.B := by
  have h1 : N < 2 ^ (N.log2 + 1) := Nat.lt_log2_self
  have h2 : N.log2 + 1 ≤ f.fb + 1 + last f N := by unfold last; omega
  have h3 : N < 2 ^ (f.fb + 1) * 2 ^ last f N := by
    rw [← Nat.pow_add]; exact Nat.lt_of_lt_of_le h1 (Nat.pow_le_pow_right (by decide) h2)
  have h4 : N / 2 ^ last f N < 2 ^ (f.fb + 1) := by
    rw [Nat.div_lt_iff_lt_mul (Nat.two_pow_pos _)]; exact h3
  have h5 : 2 ^ (f.fb + 1) = 2 * f.B := by unfold Ft.B; rw [Nat.pow_succ]; omega
  have := (rne_le N (last f N)).2
  omega
theorem kept_ge (f : Ft) {N : Nat} (h0 : N ≠ 0) (h : f.l0 < last f N) : f.B ≤ rne N (last f N) := by
  have h1 : 2 ^ N.log2 ≤ N := Nat.log2_self_le h0
  have h2 : N.log2 = f.fb + last f N := by unfold last at h ⊢; omega
  have h3 : f.B * 2 ^ last f N ≤ N := by unfold Ft.B; rw [← Nat.pow_add, ← h2]; exact h1
  have h4 : f.B ≤ N / 2 ^ last f N := by rw [Nat.le_div_iff_mul_le (Nat.two_pow_pos _)]; exact h3
  have := (rne_le N (last f N)).1
  omega
theorem log2_mono {n m : Nat} (h0 : n ≠ 0) (h : n ≤ m) : n.log2 ≤ m.log2 := by
  rw [Nat.le_log2 (by omega)]
  exact Nat.le_trans (Nat.log2_self_le h0) h
theorem rung_mono (f : Ft) {N N' : Nat} (h : N ≤ N') : rung f N ≤ rung f N' := by
  unfold rung
  by_cases h0 : N = 0
  · rw [if_pos h0]; omega
  · rw [if_neg h0, if_neg (show N' ≠ 0 by omega)]
    have hl : last f N ≤ last f N' := by
      have := log2_mono h0 h
      unfold last; omega
    refine Nat.le_trans (Nat.le_refl _) ?_
    have key : (last f N - f.l0) * f.B + rne N (last f N) ≤ (last f N' - f.l0) * f.B + rne N' (last f N') := by
      rcases Nat.lt_or_ge (last f N) (last f N') with hlt | hge
      · have h1 := kept_le f (N := N)
        have hg : f.l0 ≤ last f N := by unfold last; omega
        have h2 := kept_ge f (N := N') (by omega) (by omega)
        have h3 : (last f N - f.l0 + 1) * f.B ≤ (last f N' - f.l0) * f.B := Nat.mul_le_mul_right _ (by omega)
        rw [Nat.add_mul] at h3
        omega
      · have e : last f N = last f N' := by omega
        rw [e]
        have := rne_mono h (last f N')
        omega
    omega
theorem rung_le (f : Ft) (N : Nat) : rung f N ≤ f.inf := by unfold rung; split <;> omega
theorem B_pos (f : Ft) : 0 < f.B := Nat.two_pow_pos _
theorem log2_of {n b : Nat} (h1 : 2 ^ b ≤ n) (h2 : n < 2 ^ (b + 1)) : n.log2 = b := by
  have h0 : n ≠ 0 := by have := Nat.two_pow_pos b; omega
  have a := (Nat.le_log2 h0).2 h1
  have c := (Nat.log2_lt h0).2 h2
  omega
theorem rung_val (f : Ft) {r : Nat} (h : r ≤ f.inf) : rung f (val f r) = r := by
  have hB := B_pos f
  unfold val
  by_cases hr : r < f.B
  · rw [if_pos hr]
    by_cases h0 : r = 0
    · subst h0; simp [rung]
    · have hp : 0 < 2 ^ f.l0 := Nat.two_pow_pos _
      have hN : r * 2 ^ f.l0 ≠ 0 := by intro e; rcases Nat.mul_eq_zero.1 e with e | e <;> omega
      have hl : r.log2 < f.fb := (Nat.log2_lt h0).2 hr
      have e : last f (r * 2 ^ f.l0) = f.l0 := by unfold last; rw [log2_scale h0]; omega
      unfold rung
      rw [if_neg hN, e, rne_exact, Nat.sub_self, Nat.zero_mul, Nat.zero_add]
      omega
  · rw [if_neg hr]
    have hm : r % f.B < f.B := Nat.mod_lt _ hB
    have hq : 1 ≤ r / f.B := by rw [Nat.le_div_iff_mul_le hB]; omega
    have hdm := Nat.div_add_mod r f.B
    generalize r / f.B = q at hq hdm ⊢
    generalize r % f.B = y at hm hdm ⊢
    have h0 : f.B + y ≠ 0 := by omega
    have hlg : (f.B + y).log2 = f.fb := log2_of (by unfold Ft.B; omega) (by rw [Nat.pow_succ]; unfold Ft.B at hm ⊢; omega)
    have hN : (f.B + y) * 2 ^ (f.l0 + (q - 1)) ≠ 0 := by
      have := Nat.two_pow_pos (f.l0 + (q - 1))
      intro e; rcases Nat.mul_eq_zero.1 e with e | e <;> omega
    have e : last f ((f.B + y) * 2 ^ (f.l0 + (q - 1))) = f.l0 + (q - 1) := by unfold last; rw [log2_scale h0, hlg]; omega
    unfold rung
    rw [if_neg hN, e, rne_exact]
    have e2 : f.l0 + (q - 1) - f.l0 = q - 1 := by omega
    rw [e2]
    obtain ⟨t, rfl⟩ : ∃ t, q = t + 1 := ⟨q - 1, by omega⟩
    have e3 : f.B * (t + 1) = t * f.B + f.B := by rw [Nat.mul_succ, Nat.mul_comm]
    rw [Nat.add_sub_cancel]
    omega
theorem val_lt (f : Ft) {r r' : Nat} (h : r < r') (h' : r' ≤ f.inf) : val f r < val f r' := by
  rcases Nat.lt_or_ge (val f r) (val f r') with h1 | h1
  · exact h1
  · have := rung_mono f h1
    rw [rung_val f h', rung_val f (by omega)] at this
    omega
theorem val_le (f : Ft) {r r' : Nat} (h : r ≤ r') (h' : r' ≤ f.inf) : val f r ≤ val f r' := by
  rcases Nat.lt_or_ge r r' with h1 | h1
  · exact Nat.le_of_lt (val_lt f h1 h')
  · rw [show r = r' by omega]; exact Nat.le_refl _
theorem val_zero (f : Ft) : val f 0 = 0 := by unfold val; rw [if_pos (B_pos f), Nat.zero_mul]

/-! ### With signs -/
def sv (f : Ft) (r : Int) : Int := if r < 0 then -((val f r.natAbs : Nat) : Int) else ((val f r.natAbs : Nat) : Int)
def SR (f : Ft) (X : Int) : Int := if X < 0 then -((rung f X.natAbs : Nat) : Int) else ((rung f X.natAbs : Nat) : Int)
theorem SR_mono (f : Ft) {X Y : Int} (h : X ≤ Y) : SR f X ≤ SR f Y := by
  unfold SR
  split <;> split
  · have := rung_mono f (show Y.natAbs ≤ X.natAbs by omega); omega
  · omega
  · omega
  · have := rung_mono f (show X.natAbs ≤ Y.natAbs by omega); omega
theorem SR_bd (f : Ft) (X : Int) : -(f.inf : Int) ≤ SR f X ∧ SR f X ≤ f.inf := by
  have := rung_le f X.natAbs
  unfold SR; split <;> omega
theorem SR_sv (f : Ft) {r : Int} (h : -(f.inf : Int) ≤ r ∧ r ≤ f.inf) : SR f (sv f r) = r := by
  have hv := rung_val f (show r.natAbs ≤ f.inf by omega)
  unfold sv
  by_cases h0 : r < 0
  · rw [if_pos h0]
    unfold SR
    have hpos : 0 < val f r.natAbs := by
      have := val_lt f (show 0 < r.natAbs by omega) (show r.natAbs ≤ f.inf by omega); omega
    rw [if_pos (by omega), Int.natAbs_neg, Int.natAbs_natCast, hv]; omega
  · rw [if_neg h0]
    unfold SR
    rw [if_neg (by omega), Int.natAbs_natCast, hv]; omega
theorem sv_mono (f : Ft) {r r' : Int} (h : r ≤ r') (h1 : -(f.inf : Int) ≤ r) (h2 : r' ≤ f.inf) : sv f r ≤ sv f r' := by
  unfold sv
  split <;> split
  · have := val_le f (show r'.natAbs ≤ r.natAbs by omega) (by omega); omega
  · omega
  · omega
  · have := val_le f (show r.natAbs ≤ r'.natAbs by omega) (by omega); omega
/-- What is at most a number of the format is rounded to at most that. -/
theorem SR_le (f : Ft) {X r : Int} (h : X ≤ sv f r) (hr : -(f.inf : Int) ≤ r ∧ r ≤ f.inf) : SR f X ≤ r := by
  have := SR_mono f h; rwa [SR_sv f hr] at this
theorem SR_ge (f : Ft) {X r : Int} (h : sv f r ≤ X) (hr : -(f.inf : Int) ≤ r ∧ r ≤ f.inf) : r ≤ SR f X := by
  have := SR_mono f h; rwa [SR_sv f hr] at this

/-! ### The model's formats -/
def S : Ft := ⟨23, 1151, 2139095040⟩
def D : Ft := ⟨52, 226, 9218868437227405312⟩
structure Fits (f : Format) (t : Ft) : Prop where
  fb : f.fractionBits = t.fb
  l0 : f.leastPlace = (t.l0 : Int) - 1300
  B : f.binade = t.B
  inf : f.infRung = t.inf
  sw : t.inf < f.signWeight
  BI : t.B ≤ t.inf
theorem fits_S : Fits single S := ⟨rfl, by decide +kernel, by decide +kernel, by decide +kernel, by decide +kernel, by decide +kernel⟩
theorem fits_D : Fits double D := ⟨rfl, by decide +kernel, by decide +kernel, by decide +kernel, by decide +kernel, by decide +kernel⟩
theorem nearest_rung {f : Format} {t : Ft} (ht : Fits f t) (s : Bool) (m : Nat) {e : Int} (he : -1300 ≤ e) : f.nearest s m e = f.word s (rung t (m * 2 ^ (e + 1300).toNat)) := by
  unfold Format.nearest
  by_cases h0 : m = 0
  · subst h0; simp [rung]
  · rw [if_neg h0]
    obtain ⟨k, hk⟩ : ∃ k : Nat, e + 1300 = k := ⟨(e + 1300).toNat, by omega⟩
    have hk' : (e + 1300).toNat = k := by omega
    have hN : m * 2 ^ k ≠ 0 := by
      have := Nat.two_pow_pos k
      intro q; rcases Nat.mul_eq_zero.1 q with q | q <;> omega
    have hl : last t (m * 2 ^ k) = max (m.log2 + k - t.fb) t.l0 := by unfold last; rw [log2_scale h0]
    have hL : max (e + (m.log2 : Int) - (f.fractionBits : Int)) f.leastPlace = ((last t (m * 2 ^ k) : Nat) : Int) - 1300 := by
      rw [hl, ht.fb, ht.l0]; omega
    simp only [hL, rne_cut, Nat.shiftLeft_eq]
    rw [hk']
    unfold rung
    rw [if_neg hN, ht.l0, ht.B, ht.inf]
    have e1 : (((last t (m * 2 ^ k) : Nat) : Int) - 1300 - ((t.l0 : Int) - 1300)).toNat = last t (m * 2 ^ k) - t.l0 := by omega
    rw [e1]
    congr 2
    congr 1
    generalize last t (m * 2 ^ k) = L
    by_cases hc : k ≤ L
    · have a1 : (e - ((L : Int) - 1300)).toNat = 0 := by omega
      have a2 : ((L : Int) - 1300 - e).toNat = L - k := by omega
      rw [a1, a2, Nat.pow_zero, Nat.mul_one]
      have := rne_scale m (L - k) k
      rw [show L - k + k = L by omega] at this
      exact this.symm
    · have a1 : (e - ((L : Int) - 1300)).toNat = k - L := by omega
      have a2 : ((L : Int) - 1300 - e).toNat = 0 := by omega
      rw [a1, a2, rne_zero]
      have : m * 2 ^ k = m * 2 ^ (k - L) * 2 ^ L := by rw [Nat.mul_assoc, ← Nat.pow_add]; congr 2; omega
      rw [this, rne_exact]

/-! ### Words and their ranks -/
def sgn (s : Bool) (n : Nat) : Int := if s then -(n : Int) else (n : Int)
/-- w is the word of rank r: its sign and its rung. -/
def Num (f : Format) (w : Nat) (r : Int) : Prop := ∃ s, w = f.word s r.natAbs ∧ (r < 0 → s = true) ∧ (0 < r → s = false)
/-- d is a number, X units of 2^-1300. -/
def Fin (d : Datum) (X : Int) : Prop := ∃ s m p, d = .number s m p ∧ -1300 ≤ p ∧ X = sgn s (m * 2 ^ (p + 1300).toNat)
theorem sgn_abs (s : Bool) (n : Nat) : (sgn s n).natAbs = n := by unfold sgn; split <;> omega
theorem sgn_neg {s : Bool} {n : Nat} (h : sgn s n < 0) : s = true := by unfold sgn at h; split at h <;> first | assumption | omega
theorem sgn_pos {s : Bool} {n : Nat} (h : 0 < sgn s n) : s = false := by
  unfold sgn at h; split at h
  · omega
  · cases s <;> simp_all
theorem SR_abs (t : Ft) (X : Int) : (SR t X).natAbs = rung t X.natAbs := by unfold SR; split <;> omega
theorem rung_zero (t : Ft) : rung t 0 = 0 := by simp [rung]
theorem SR_neg {t : Ft} {X : Int} (h : SR t X < 0) : X < 0 := by
  unfold SR at h; split at h
  · assumption
  · omega
theorem SR_pos {t : Ft} {X : Int} (h : 0 < SR t X) : 0 < X := by
  unfold SR at h; split at h
  · omega
  · rcases Int.lt_or_eq_of_le (show 0 ≤ X by omega) with h1 | h1
    · exact h1
    · rw [← h1] at h; simp [rung_zero] at h
theorem write_fin {f : Format} {t : Ft} (ht : Fits f t) {d : Datum} {X : Int} (h : Fin d X) : Num f (f.write d) (SR t X) := by
  obtain ⟨s, m, p, rfl, hp, rfl⟩ := h
  refine ⟨s, ?_, fun h => sgn_neg (SR_neg h), fun h => sgn_pos (SR_pos h)⟩
  show f.nearest s m p = _
  rw [nearest_rung ht s m hp, SR_abs, sgn_abs]
theorem word_parts {f : Format} {s : Bool} {r : Nat} (h : r < f.signWeight) : (f.word s r / f.signWeight % 2 == 1) = s ∧ f.word s r % f.signWeight = r := by
  unfold Format.word
  generalize f.signWeight = g at h ⊢
  cases s
  · simp [Nat.div_eq_of_lt h, Nat.mod_eq_of_lt h]
  · have e1 : (g + r) / g = 1 := by
      rw [Nat.add_div_left _ (by omega), Nat.div_eq_of_lt h]
    simp [e1, Nat.mod_eq_of_lt h]
theorem read_word {f : Format} {t : Ft} (ht : Fits f t) (s : Bool) {r : Nat} (h : r < t.inf) : ∃ m p, f.read (f.word s r) = .number s m p ∧ m < 2 * t.B ∧ (t.l0 : Int) - 1300 ≤ p ∧ m * 2 ^ (p + 1300).toNat = val t r := by
  have hp := word_parts (f := f) (s := s) (r := r) (Nat.lt_trans h ht.sw)
  have hB := B_pos t
  unfold Format.read
  simp only [hp.1, hp.2]
  unfold val
  by_cases h1 : r < t.B
  · rw [if_pos (by rw [ht.B]; exact h1), if_pos h1]
    refine ⟨r, f.leastPlace, rfl, by omega, by rw [ht.l0]; omega, ?_⟩
    rw [ht.l0]; congr 2; omega
  · rw [if_neg (by rw [ht.B]; exact h1), if_pos (by rw [ht.inf]; exact h), if_neg h1]
    have hm := Nat.mod_lt r hB
    refine ⟨t.B + r % t.B, f.leastPlace + ((r / t.B - 1 : Nat) : Int), by rw [ht.B], by omega, by rw [ht.l0]; omega, ?_⟩
    rw [ht.l0]; congr 2; omega
theorem read_inf {f : Format} {t : Ft} (ht : Fits f t) (s : Bool) : f.read (f.word s t.inf) = .infinity s := by
  have hp := word_parts (f := f) (s := s) (r := t.inf) ht.sw
  unfold Format.read
  simp only [hp.1, hp.2]
  have := ht.BI
  rw [if_neg (by rw [ht.B]; omega), if_neg (by rw [ht.inf]; omega), if_pos ht.inf.symm]
theorem Num.read {f : Format} {t : Ft} (ht : Fits f t) {w : Nat} {r : Int} (h : Num f w r) (hr : r.natAbs < t.inf) : ∃ s m p, f.read w = .number s m p ∧ m < 2 * t.B ∧ (t.l0 : Int) - 1300 ≤ p ∧ sv t r = sgn s (m * 2 ^ (p + 1300).toNat) := by
  obtain ⟨s, rfl, h1, h2⟩ := h
  obtain ⟨m, p, e1, e2, e3, e4⟩ := read_word ht s hr
  refine ⟨s, m, p, e1, e2, e3, ?_⟩
  rw [e4]
  unfold sv sgn
  by_cases h0 : r < 0
  · rw [if_pos h0, h1 h0]; simp
  · rw [if_neg h0]
    rcases Int.lt_or_eq_of_le (show 0 ≤ r by omega) with h3 | h3
    · rw [h2 h3]; simp
    · rw [← h3]; simp [val_zero]
theorem Num.fin {f : Format} {t : Ft} (ht : Fits f t) {w : Nat} {r : Int} (h : Num f w r) (hr : r.natAbs < t.inf) : Fin (f.read w) (sv t r) := by
  obtain ⟨s, m, p, e1, _, e3, e4⟩ := h.read ht hr
  exact ⟨s, m, p, e1, by omega, e4⟩
theorem signed_sgn (s : Bool) (m k : Nat) : signed s m k = sgn s (m * 2 ^ k) := by unfold signed sgn; rw [Nat.shiftLeft_eq]
theorem sgn_mul (s : Bool) (m k : Nat) : sgn s (m * k) = sgn s m * (k : Int) := by unfold sgn; split <;> simp [Int.neg_mul]
theorem sgn_int (X : Int) : sgn (decide (X < 0)) X.natAbs = X := by unfold sgn; by_cases h : X < 0 <;> simp [h] <;> omega
theorem Fin.sum {d e : Datum} {X Y : Int} (h : Fin d X) (h' : Fin e Y) : ∃ r, d.sum e = some r ∧ Fin r (X + Y) := by
  obtain ⟨s, m, i, rfl, hi, rfl⟩ := h
  obtain ⟨u, n, j, rfl, hj, rfl⟩ := h'
  unfold Datum.sum
  simp only [signed_sgn]
  obtain ⟨b, hb⟩ : ∃ b : Nat, min i j + 1300 = b := ⟨(min i j + 1300).toNat, by omega⟩
  have e1 : (i + 1300).toNat = (i - min i j).toNat + b := by omega
  have e2 : (j + 1300).toNat = (j - min i j).toNat + b := by omega
  have hX : sgn s (m * 2 ^ (i + 1300).toNat) = sgn s (m * 2 ^ (i - min i j).toNat) * ((2 ^ b : Nat) : Int) := by rw [e1, Nat.pow_add, ← Nat.mul_assoc, sgn_mul]
  have hY : sgn u (n * 2 ^ (j + 1300).toNat) = sgn u (n * 2 ^ (j - min i j).toNat) * ((2 ^ b : Nat) : Int) := by rw [e2, Nat.pow_add, ← Nat.mul_assoc, sgn_mul]
  rw [hX, hY, ← Int.add_mul]
  generalize sgn s (m * 2 ^ (i - min i j).toNat) + sgn u (n * 2 ^ (j - min i j).toNat) = T
  refine ⟨_, rfl, _, _, _, rfl, by omega, ?_⟩
  have e3 : (min i j + 1300).toNat = b := by omega
  rw [e3, sgn_mul]
  congr 1
  by_cases h0 : T = 0
  · subst h0; simp [sgn]
  · rw [if_neg h0]; exact (sgn_int T).symm
theorem Fin.opp {d : Datum} {X : Int} (h : Fin d X) : Fin d.opposite (-X) := by
  obtain ⟨s, m, i, rfl, hi, rfl⟩ := h
  refine ⟨!s, m, i, rfl, hi, ?_⟩
  unfold sgn; cases s <;> simp
theorem add_num {f : Format} {t : Ft} (ht : Fits f t) {x y : Nat} {a b : Int} (hx : Num f x a) (hy : Num f y b) (ha : a.natAbs < t.inf) (hb : b.natAbs < t.inf) : ∃ w, f.add x y = some w ∧ Num f w (SR t (sv t a + sv t b)) := by
  obtain ⟨r, e, hr⟩ := (hx.fin ht ha).sum (hy.fin ht hb)
  exact ⟨f.write r, by unfold Format.add; rw [e]; rfl, write_fin ht hr⟩
theorem sub_num {f : Format} {t : Ft} (ht : Fits f t) {x y : Nat} {a b : Int} (hx : Num f x a) (hy : Num f y b) (ha : a.natAbs < t.inf) (hb : b.natAbs < t.inf) : ∃ w, f.sub x y = some w ∧ Num f w (SR t (sv t a - sv t b)) := by
  obtain ⟨r, e, hr⟩ := (hx.fin ht ha).sum (hy.fin ht hb).opp
  exact ⟨f.write r, by unfold Format.sub; rw [e]; rfl, by rw [Int.sub_eq_add_neg]; exact write_fin ht hr⟩
/-- Times a power of two. -/
theorem mul_num {f : Format} {t : Ft} (ht : Fits f t) {x c : Nat} {a : Int} {j : Int} {n : Nat} (hx : Num f x a) (ha : a.natAbs < t.inf) (hc : f.read c = .number false (2 ^ t.fb) j) (hj : j + t.fb = n) (hl : (t.fb : Int) ≤ t.l0) : ∃ w, f.mul x c = some w ∧ Num f w (SR t (sv t a * ((2 ^ n : Nat) : Int))) := by
  obtain ⟨s, m, p, e1, _, e3, e4⟩ := hx.read ht ha
  refine ⟨f.write (.number (s ^^ false) (m * 2 ^ t.fb) (p + j)), by unfold Format.mul; rw [e1, hc]; rfl, write_fin ht ⟨s, m * 2 ^ t.fb, p + j, by simp, by omega, ?_⟩⟩
  rw [e4, ← sgn_mul]
  congr 1
  rw [Nat.mul_assoc, Nat.mul_assoc, ← Nat.pow_add, ← Nat.pow_add]
  congr 2; omega
/-- A power of two's share. -/
theorem div_num {f : Format} {t : Ft} (ht : Fits f t) {x c : Nat} {a X : Int} {j : Int} {n : Nat} (hx : Num f x a) (ha : a.natAbs < t.inf) (hc : f.read c = .number false (2 ^ t.fb) j) (hj : j + t.fb = n) (hX : X * ((2 ^ n : Nat) : Int) = sv t a) (hl : 2 * t.fb + 3 + n ≤ t.l0) : ∃ w, f.div x c = some w ∧ Num f w (SR t X) := by
  obtain ⟨s, m, p, e1, e2, e3, e4⟩ := hx.read ht ha
  have hlg : ((2 ^ t.fb : Nat)).log2 = t.fb := log2_of (Nat.le_refl _) (by rw [Nat.pow_succ]; have := Nat.two_pow_pos t.fb; omega)
  have hp0 := Nat.two_pow_pos t.fb
  have hml : m.log2 ≤ t.fb + 1 := by
    by_cases h0 : m = 0
    · subst h0; simp [Nat.log2_def]
    · have : m < 2 ^ (t.fb + 1) := by rw [Nat.pow_succ]; unfold Ft.B at e2; omega
      have := (Nat.log2_lt h0).2 this; omega
  have hmore : t.fb + 2 + ((2 ^ t.fb : Nat)).log2 - m.log2 = t.fb + (t.fb + 2 - m.log2) := by rw [hlg]; omega
  generalize hk : t.fb + 2 - m.log2 = k at hmore
  have hk2 : k ≤ t.fb + 2 := by omega
  refine ⟨f.write (.number (s ^^ false) (2 * (m * 2 ^ k)) (p - j - ((t.fb + k : Nat) : Int) - 1)), ?_, write_fin ht ⟨s, 2 * (m * 2 ^ k), p - j - ((t.fb + k : Nat) : Int) - 1, by simp, by omega, ?_⟩⟩
  · unfold Format.div
    rw [e1, hc]
    unfold Datum.quotient
    simp only [ht.fb]
    rw [if_neg (by omega), hmore, Nat.shiftLeft_eq, Nat.pow_add, Nat.mul_comm (2 ^ t.fb) (2 ^ k), ← Nat.mul_assoc, Nat.mul_div_cancel _ hp0, Nat.mul_mod_left]
    simp
  · have hpw : (0 : Int) < ((2 ^ n : Nat) : Int) := by exact_mod_cast Nat.two_pow_pos n
    apply Int.eq_of_mul_eq_mul_right (show ((2 ^ n : Nat) : Int) ≠ 0 by omega)
    rw [hX, e4, ← sgn_mul]
    congr 1
    rw [Nat.mul_comm 2, Nat.mul_assoc, Nat.mul_assoc, Nat.mul_assoc, show (2 : Nat) * (2 ^ (p - j - ((t.fb + k : Nat) : Int) - 1 + 1300).toNat * 2 ^ n) = 2 ^ (1 + ((p - j - ((t.fb + k : Nat) : Int) - 1 + 1300).toNat + n)) by rw [Nat.pow_add, Nat.pow_add], ← Nat.pow_add]
    congr 2
    omega

/-! ### What a format holds exactly -/
theorem rung_exact {t : Ft} {m q : Nat} (hm : m < 2 * t.B) (hq : t.l0 ≤ q) (hBI : t.B ≤ t.inf) (hb : (last t (m * 2 ^ q) - t.l0 + 2) * t.B ≤ t.inf) : val t (rung t (m * 2 ^ q)) = m * 2 ^ q ∧ rung t (m * 2 ^ q) < t.inf := by
  have hB := B_pos t
  by_cases h0 : m = 0
  · subst h0; rw [Nat.zero_mul, rung_zero, val_zero]; exact ⟨rfl, by omega⟩
  · have hN : m * 2 ^ q ≠ 0 := by
      have := Nat.two_pow_pos q
      intro e; rcases Nat.mul_eq_zero.1 e with e | e <;> omega
    have hml : m.log2 ≤ t.fb := by
      have : m < 2 ^ (t.fb + 1) := by rw [Nat.pow_succ]; unfold Ft.B at hm; omega
      have := (Nat.log2_lt h0).2 this; omega
    have hL : last t (m * 2 ^ q) ≤ q := by unfold last; rw [log2_scale h0]; omega
    have hlge : t.l0 ≤ last t (m * 2 ^ q) := by unfold last; omega
    have hk : m * 2 ^ q = m * 2 ^ (q - last t (m * 2 ^ q)) * 2 ^ last t (m * 2 ^ q) := by
      rw [Nat.mul_assoc, ← Nat.pow_add]; congr 2; omega
    have hr : rne (m * 2 ^ q) (last t (m * 2 ^ q)) = m * 2 ^ (q - last t (m * 2 ^ q)) := by
      have h := rne_exact (m * 2 ^ (q - last t (m * 2 ^ q))) (last t (m * 2 ^ q))
      rw [← hk] at h; exact h
    have h2 := kept_ge t (N := m * 2 ^ q) hN
    have h3 := kept_le t (N := m * 2 ^ q)
    rw [hr] at h2 h3
    have h4 : m * 2 ^ (q - last t (m * 2 ^ q)) < 2 * t.B := by
      have a1 : m * 2 ^ q < 2 ^ (t.fb + 1) * 2 ^ last t (m * 2 ^ q) := by
        rw [← Nat.pow_add]
        refine Nat.lt_of_lt_of_le Nat.lt_log2_self (Nat.pow_le_pow_right (by decide) ?_)
        unfold last; omega
      have a2 : m * 2 ^ (q - last t (m * 2 ^ q)) * 2 ^ last t (m * 2 ^ q) < 2 ^ (t.fb + 1) * 2 ^ last t (m * 2 ^ q) := by rw [← hk]; exact a1
      have a3 := Nat.lt_of_mul_lt_mul_right a2
      have a4 : 2 ^ (t.fb + 1) = 2 * t.B := by unfold Ft.B; rw [Nat.pow_succ]; omega
      omega
    have hrg : rung t (m * 2 ^ q) = (last t (m * 2 ^ q) - t.l0) * t.B + m * 2 ^ (q - last t (m * 2 ^ q)) := by
      unfold rung
      rw [if_neg hN, hr]
      have : (last t (m * 2 ^ q) - t.l0 + 2) * t.B = (last t (m * 2 ^ q) - t.l0) * t.B + 2 * t.B := by rw [Nat.add_mul]
      omega
    have hlt : rung t (m * 2 ^ q) < t.inf := by
      have : (last t (m * 2 ^ q) - t.l0 + 2) * t.B = (last t (m * 2 ^ q) - t.l0) * t.B + 2 * t.B := by rw [Nat.add_mul]
      omega
    refine ⟨?_, hlt⟩
    rw [hrg]
    conv => rhs; rw [hk]
    generalize last t (m * 2 ^ q) = L at *
    generalize m * 2 ^ (q - L) = k at *
    unfold val
    by_cases hc : t.l0 < L
    · have hkB := h2 hc
      obtain ⟨u, rfl⟩ : ∃ u, L = t.l0 + u := ⟨L - t.l0, by omega⟩
      have e1 : t.l0 + u - t.l0 = u := by omega
      rw [e1]
      obtain ⟨v, rfl⟩ : ∃ v, k = t.B + v := ⟨k - t.B, by omega⟩
      have hu : 0 < u := by omega
      have huB : t.B ≤ u * t.B := Nat.le_mul_of_pos_left _ hu
      have e2 : u * t.B + (t.B + v) = v + t.B * (u + 1) := by rw [Nat.mul_add, Nat.mul_comm u]; omega
      rw [if_neg (by omega), e2, Nat.add_mul_div_left _ _ hB, Nat.add_mul_mod_self_left, Nat.div_eq_of_lt (by omega), Nat.mod_eq_of_lt (by omega)]
      congr 2; omega
    · have e : L = t.l0 := by omega
      subst e
      rw [Nat.sub_self, Nat.zero_mul, Nat.zero_add]
      by_cases h5 : k < t.B
      · rw [if_pos h5]
      · rw [if_neg h5]
        obtain ⟨v, rfl⟩ : ∃ v, k = t.B + v := ⟨k - t.B, by omega⟩
        have e2 : t.B + v = v + t.B * 1 := by omega
        rw [e2, Nat.add_mul_div_left _ _ hB, Nat.add_mul_mod_self_left, Nat.div_eq_of_lt (by omega), Nat.mod_eq_of_lt (by omega)]
        congr 1
/-- Y is m times 2^q, in binary64 without rounding. -/
def Ex (Y : Int) : Prop := ∃ m q, Y.natAbs = m * 2 ^ q ∧ m < 9007199254740992 ∧ 226 ≤ q ∧ q ≤ 2200
theorem Ex.sr {Y : Int} (h : Ex Y) : sv D (SR D Y) = Y ∧ (SR D Y).natAbs < D.inf := by
  obtain ⟨m, q, e, hm, hq, hq2⟩ := h
  have hl : last D (m * 2 ^ q) ≤ 2200 := by
    by_cases h0 : m = 0
    · subst h0; rw [Nat.zero_mul]; decide +kernel
    · have : m < 2 ^ 53 := by omega
      have := (Nat.log2_lt h0).2 this
      unfold last; rw [log2_scale h0]
      show max (m.log2 + q - 52) 226 ≤ 2200
      omega
  have hb : (last D (m * 2 ^ q) - D.l0 + 2) * D.B ≤ D.inf := by
    have e1 : D.l0 = 226 := rfl
    have e2 : D.B = 4503599627370496 := by decide +kernel
    have e3 : D.inf = 9218868437227405312 := rfl
    rw [e1, e2, e3]; omega
  have hr := rung_exact (t := D) (m := m) (q := q) (by have : D.B = 4503599627370496 := by decide +kernel
                                                       omega) hq (by decide +kernel) hb
  rw [← e] at hr
  refine ⟨?_, by rw [SR_abs]; exact hr.2⟩
  unfold sv
  rw [SR_abs, hr.1]
  by_cases h0 : SR D Y < 0
  · rw [if_pos h0]; have := SR_neg h0; omega
  · rw [if_neg h0]
    by_cases h1 : Y < 0
    · have : SR D Y = -((rung D Y.natAbs : Nat) : Int) := by unfold SR; rw [if_pos h1]
      have h2 : rung D Y.natAbs = 0 := by omega
      rw [h2, val_zero] at hr
      omega
    · omega
/-- A sample's value. -/
theorem sv_S {r : Int} (h : r.natAbs < S.inf) : ∃ m q, (sv S r).natAbs = m * 2 ^ q ∧ m < 16777216 ∧ 1151 ≤ q ∧ q ≤ 1410 := by
  have hv : (sv S r).natAbs = val S r.natAbs := by unfold sv; split <;> omega
  rw [hv]
  have e2 : S.B = 8388608 := by decide +kernel
  have e3 : S.inf = 2139095040 := rfl
  have e4 : S.l0 = 1151 := rfl
  unfold val
  rw [e2, e4]
  rw [e3] at h
  split
  · exact ⟨r.natAbs, 1151, rfl, by omega, by omega, by omega⟩
  · exact ⟨8388608 + r.natAbs % 8388608, _, rfl, by omega, by omega, by omega⟩
theorem Ex.s {r : Int} (h : r.natAbs < S.inf) : Ex (sv S r) := by
  obtain ⟨m, q, e, h1, h2, h3⟩ := sv_S h
  exact ⟨m, q, e, by omega, by omega, by omega⟩
theorem Ex.s2 {r : Int} (h : r.natAbs < S.inf) (n : Nat) (hn : n ≤ 100) : Ex (sv S r * ((2 ^ n : Nat) : Int)) := by
  obtain ⟨m, q, e, h1, h2, h3⟩ := sv_S h
  exact ⟨m, q + n, by rw [Int.natAbs_mul, Int.natAbs_natCast, e, Nat.mul_assoc, ← Nat.pow_add], by omega, by omega, by omega⟩

/-! ### Conversions and comparisons -/
open Go
theorem widen {b : Nat} {r : Int} (h : Num single b r) (hr : r.natAbs < S.inf) : ∃ w, floatToFloatBits .f32 b .f64 = some w ∧ Num double w (SR D (sv S r)) := by
  obtain ⟨s, m, p, e1, e2, e3, e4⟩ := h.read fits_S hr
  have hw := write_fin fits_D (d := .number s m p) (X := sv S r) ⟨s, m, p, rfl, by have : S.l0 = 1151 := rfl; omega, e4⟩
  refine ⟨double.write (.number s m p), ?_, hw⟩
  unfold floatToFloatBits
  rw [if_neg (by decide)]
  have ed : FloatKind.f32.decode b = .number s m p := e1
  rw [ed]
  obtain ⟨s', m', p', e5, _⟩ := hw.read fits_D (Ex.s hr).sr.2
  have ed2 : FloatKind.f64.decode (FloatKind.f64.encode (.number s m p)) = .number s' m' p' := e5
  simp only [ed2]
  rfl
theorem narrow {b : Nat} {r : Int} (h : Num double b r) (hr : r.natAbs < D.inf) (hr2 : (SR S (sv D r)).natAbs < S.inf) : ∃ w, floatToFloatBits .f64 b .f32 = some w ∧ Num single w (SR S (sv D r)) := by
  obtain ⟨s, m, p, e1, e2, e3, e4⟩ := h.read fits_D hr
  have hw := write_fin fits_S (d := .number s m p) (X := sv D r) ⟨s, m, p, rfl, by have : D.l0 = 226 := rfl; omega, e4⟩
  refine ⟨single.write (.number s m p), ?_, hw⟩
  unfold floatToFloatBits
  rw [if_neg (by decide)]
  have ed : FloatKind.f64.decode b = .number s m p := e1
  rw [ed]
  obtain ⟨s', m', p', e5, _⟩ := hw.read fits_S hr2
  have ed2 : FloatKind.f32.decode (FloatKind.f32.encode (.number s m p)) = .number s' m' p' := e5
  simp only [ed2]
  rfl
theorem cmp_scale (a b : Int) {k : Int} (hk : 0 < k) : compare (a * k) (b * k) = compare a b := by
  show compareOfLessAndEq _ _ = compareOfLessAndEq _ _
  unfold compareOfLessAndEq
  have h1 : a * k < b * k ↔ a < b := ⟨fun h => Int.lt_of_mul_lt_mul_right h (Int.le_of_lt hk), fun h => Int.mul_lt_mul_of_pos_right h hk⟩
  have h2 : a * k = b * k ↔ a = b := Int.mul_eq_mul_right_iff (by omega)
  simp only [h1, h2]
theorem order_num {f : Format} {t : Ft} (ht : Fits f t) {x y : Nat} {a b : Int} (hx : Num f x a) (hy : Num f y b) (ha : a.natAbs < t.inf) (hb : b.natAbs < t.inf) : f.order x y = some (compare (sv t a) (sv t b)) := by
  obtain ⟨s, m, i, e1, hi, e2⟩ := hx.fin ht ha
  obtain ⟨u, n, j, e3, hj, e4⟩ := hy.fin ht hb
  unfold Format.order Datum.order
  rw [e1, e3]
  simp only [signed_sgn]
  obtain ⟨c, hc⟩ : ∃ c : Nat, min i j + 1300 = c := ⟨(min i j + 1300).toNat, by omega⟩
  have a1 : (i + 1300).toNat = (i - min i j).toNat + c := by omega
  have a2 : (j + 1300).toNat = (j - min i j).toNat + c := by omega
  have b1 : m * 2 ^ (i + 1300).toNat = m * 2 ^ (i - min i j).toNat * 2 ^ c := by rw [a1, Nat.pow_add, ← Nat.mul_assoc]
  have b2 : n * 2 ^ (j + 1300).toNat = n * 2 ^ (j - min i j).toNat * 2 ^ c := by rw [a2, Nat.pow_add, ← Nat.mul_assoc]
  rw [e2, e4, b1, b2, sgn_mul s (m * 2 ^ (i - min i j).toNat) (2 ^ c), sgn_mul u (n * 2 ^ (j - min i j).toNat) (2 ^ c), cmp_scale _ _ (by exact_mod_cast Nat.two_pow_pos c)]
end Fp
