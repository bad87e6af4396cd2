/- Whole numbers times powers of two, in binary64 by its bits; a sample's parts are its value. -/
import Derived.Test.YtiikkhbmhojbaaaSl
import Derived.Test.YtiikkhbmhojbaaaBt
namespace Ld
open Go Ieee Fv Fp Sl Sx Go.Proofs.Ytiikkhbmhojbaaa
set_option linter.unusedVariables false
theorem not63 : ~~~(BitVec.ofInt 64 9223372036854775808) = BitVec.ofInt 64 9223372036854775807 := by decide
/-- The sign's bit away. -/
theorem andn63 {X : Nat} (h : X < 18446744073709551616) : IntKind.u64.wrap ((BitVec.ofInt IntKind.u64.bits (X : Int) &&& ~~~(BitVec.ofInt IntKind.u64.bits 9223372036854775808)).toNat : Nat) = ((X % 9223372036854775808 : Nat) : Int) := by
  have e : IntKind.u64.bits = 64 := rfl
  rw [e, not63, BitVec.toNat_and, BitVec.toNat_ofInt, BitVec.toNat_ofInt]
  have e1 : ((X : Int) % ((2 ^ 64 : Nat) : Int)).toNat = X := by omega
  have e2 : ((9223372036854775807 : Int) % ((2 ^ 64 : Nat) : Int)).toNat = 2 ^ 63 - 1 := by decide
  rw [e1, e2, Nat.and_two_pow_sub_one_eq_mod, wu64]
  have : X % 2 ^ 63 ≤ X := Nat.mod_le _ _
  omega
set_option maxRecDepth 100000 in
/-- The exponent's bits away. -/
theorem andn52 {a f q : Nat} (ha : a < 2) (hf : f < 4503599627370496) (hq : q < 2048) : IntKind.u64.wrap ((BitVec.ofInt IntKind.u64.bits ((a * 9223372036854775808 + q * 4503599627370496 + f : Nat) : Int) &&& ~~~(BitVec.ofInt IntKind.u64.bits 9218868437227405312)).toNat : Nat) = ((a * 9223372036854775808 + f : Nat) : Int) := by
  have e : IntKind.u64.bits = 64 := rfl
  rw [e]
  have hb : (BitVec.ofInt 64 ((a * 9223372036854775808 + q * 4503599627370496 + f : Nat) : Int) &&& ~~~(BitVec.ofInt 64 9218868437227405312)) = BitVec.ofNat 64 (a * 9223372036854775808 + f) := by
    have hM : BitVec.ofInt 64 9218868437227405312 = BitVec.ofNat 64 9218868437227405312 := by decide
    have hX : BitVec.ofInt 64 ((a * 9223372036854775808 + q * 4503599627370496 + f : Nat) : Int) = BitVec.ofNat 64 (a * 9223372036854775808 + q * 4503599627370496 + f) := by
      apply BitVec.eq_of_toNat_eq; rw [BitVec.toNat_ofInt, BitVec.toNat_ofNat]; omega
    rw [hM, hX]
    apply BitVec.eq_of_getLsbD_eq
    intro i hi
    rw [BitVec.getLsbD_and, BitVec.getLsbD_not, BitVec.getLsbD_ofNat, BitVec.getLsbD_ofNat, BitVec.getLsbD_ofNat]
    have hm : Nat.testBit 9218868437227405312 i = decide (52 ≤ i ∧ i < 63) := by
      have : ∀ j, j < 64 → Nat.testBit 9218868437227405312 j = decide (52 ≤ j ∧ j < 63) := by decide +kernel
      exact this i hi
    rw [hm]
    have p52 : (4503599627370496 : Nat) = 2 ^ 52 := by decide
    have p63 : a * 9223372036854775808 = 4503599627370496 * (a * 2048) := by rw [Nat.mul_left_comm]
    have e1 : a * 9223372036854775808 + q * 4503599627370496 + f = 2 ^ 52 * (a * 2048 + q) + f := by rw [p63, Nat.mul_comm q, ← Nat.mul_add, p52]
    have e2 : a * 9223372036854775808 + f = 2 ^ 52 * (a * 2048) + f := by rw [p63, p52]
    have f52 : f < 2 ^ 52 := hf
    rw [e1, e2, Nat.testBit_two_pow_mul_add _ f52, Nat.testBit_two_pow_mul_add _ f52]
    by_cases h1 : i < 52
    · rw [if_pos h1, if_pos h1]; simp; intro _ h2; omega
    · rw [if_neg h1, if_neg h1]
      have e3 : a * 2048 + q = 2 ^ 11 * a + q := by omega
      have e4 : a * 2048 = 2 ^ 11 * a + 0 := by omega
      rw [e3, e4, Nat.testBit_two_pow_mul_add _ (by omega), Nat.testBit_two_pow_mul_add _ (by omega)]
      by_cases h2 : i < 63
      · rw [if_pos (by omega), if_pos (by omega)]; simp [h2, hi]; omega
      · rw [if_neg (by omega), if_neg (by omega)]; simp [h2, hi]
  rw [hb, BitVec.toNat_ofNat, wu64]; omega
/-- A word's size of 1 and more: its exponent's field and the rest. -/
theorem parts_of {N r : Nat} (hN : ∀ k : Nat, k = 1300 → 2 ^ k ≤ N) (hN2 : ∀ k : Nat, k = 1353 → N ≤ 2 ^ k) (hr : val D r = N) (hrl : r < D.inf) : 1023 ≤ r / 4503599627370496 ∧ r / 4503599627370496 ≤ 1076 := by
  have hB : D.B = 4503599627370496 := by decide +kernel
  have h0 : D.l0 = 226 := rfl
  unfold val at hr
  rw [hB, h0] at hr
  obtain ⟨k, hk⟩ : ∃ k : Nat, k = 1300 := ⟨_, rfl⟩
  obtain ⟨k2, hk2⟩ : ∃ k : Nat, k = 1353 := ⟨_, rfl⟩
  have hN := hN k hk; have hN2 := hN2 k2 hk2
  split at hr
  · exfalso
    obtain ⟨j, hj⟩ : ∃ j : Nat, j = 226 := ⟨_, rfl⟩
    rw [← hj] at hr
    have h1 : r * 2 ^ j < 2 ^ 52 * 2 ^ j := Nat.mul_lt_mul_of_pos_right (by omega) (Nat.two_pow_pos _)
    rw [← Nat.pow_add] at h1
    have h2 : 2 ^ (52 + j) ≤ 2 ^ k := Nat.pow_le_pow_right (by decide) (by omega)
    omega
  · have hm := Nat.mod_lt r (show 0 < 4503599627370496 by decide)
    generalize r % 4503599627370496 = f at *
    generalize hq : r / 4503599627370496 = q at *
    constructor
    · rcases Nat.lt_or_ge q 1023 with c | c
      · exfalso
        have h1 : (4503599627370496 + f) * 2 ^ (226 + (q - 1)) < 2 ^ 53 * 2 ^ (226 + (q - 1)) := Nat.mul_lt_mul_of_pos_right (by omega) (Nat.two_pow_pos _)
        rw [← Nat.pow_add] at h1
        have h2 : 2 ^ (53 + (226 + (q - 1))) ≤ 2 ^ k := Nat.pow_le_pow_right (by decide) (by omega)
        omega
      · exact c
    · rcases Nat.lt_or_ge 1076 q with c | c
      · exfalso
        have h1 : 2 ^ 52 * 2 ^ (226 + (q - 1)) ≤ (4503599627370496 + f) * 2 ^ (226 + (q - 1)) := Nat.mul_le_mul_right _ (by omega)
        rw [← Nat.pow_add] at h1
        have h2 : 2 ^ (k2 + 1) ≤ 2 ^ (52 + (226 + (q - 1))) := Nat.pow_le_pow_right (by decide) (by omega)
        have h3 : 2 ^ k2 < 2 ^ (k2 + 1) := Nat.pow_lt_pow_right (by decide) (by omega)
        omega
      · exact c
/-- Another exponent. -/
theorem val_shift {r e' : Nat} (hq : 1 ≤ r / 4503599627370496) (he : 1 ≤ e') : val D (r % 4503599627370496 + e' * 4503599627370496) * 2 ^ (r / 4503599627370496) = val D r * 2 ^ e' := by
  have hB : D.B = 4503599627370496 := by decide +kernel
  have h0 : D.l0 = 226 := rfl
  have hm := Nat.mod_lt r (show 0 < 4503599627370496 by decide)
  unfold val
  rw [hB, h0, if_neg (by omega), if_neg (by omega)]
  have e1 : (r % 4503599627370496 + e' * 4503599627370496) % 4503599627370496 = r % 4503599627370496 := by omega
  have e2 : (r % 4503599627370496 + e' * 4503599627370496) / 4503599627370496 = e' := by omega
  rw [e1, e2, Nat.mul_assoc, Nat.mul_assoc, ← Nat.pow_add, ← Nat.pow_add]
  congr 2; omega
/-- The value of a sample's parts. -/
theorem sv_parts {s : Int} (h : 0 ≤ s ∧ s < 4294967296) (hf : s / 8388608 % 256 ≠ 255) : sv S (rk s) = (Bt.prts s).1 * ((2 ^ ((Bt.prts s).2.1 + 1300).toNat : Nat) : Int) := by
  have hB : S.B = 8388608 := by decide +kernel
  have h0 : S.l0 = 1151 := rfl
  unfold Bt.prts
  rw [if_neg hf]
  have key : ∀ r : Nat, ((val S r : Nat) : Int) = (if (r : Int) / 8388608 % 256 = 0 then (r : Int) % 8388608 else (r : Int) % 8388608 + 8388608) * ((2 ^ ((if (r : Int) / 8388608 % 256 = 0 then (-149 : Int) else (r : Int) / 8388608 % 256 - 150) + 1300).toNat : Nat) : Int) ∨ 2139095040 ≤ r := by
    intro r
    rcases Nat.lt_or_ge r 2139095040 with hr | hr
    · left
      unfold val
      rw [hB, h0]
      by_cases c : r < 8388608
      · rw [if_pos c, if_pos (by omega), if_pos (by omega)]
        rw [show ((-149 : Int) + 1300).toNat = 1151 from rfl, Int.natCast_mul]
        congr 1; omega
      · rw [if_neg c, if_neg (by omega), if_neg (by omega)]
        rw [Int.natCast_mul]
        have e1 : ((r : Int) / 8388608 % 256 - 150 + 1300).toNat = 1151 + (r / 8388608 - 1) := by omega
        rw [e1]
        congr 1; omega
    · exact .inr hr
  unfold Bt.mant Bt.expo
  by_cases c : s < 2147483648
  · have hr : rk s = ((s.toNat : Nat) : Int) := by unfold rk; rw [if_pos c]; omega
    have hs : ((s.toNat : Nat) : Int) = s := by omega
    rcases key s.toNat with k | k
    · rw [hr]
      unfold sv
      rw [if_neg (by omega), if_neg (by omega)]
      rw [Int.natAbs_natCast, k, hs]
    · exfalso; omega
  · have hr : rk s = -(((s - 2147483648).toNat : Nat) : Int) := by unfold rk; rw [if_neg c]; omega
    have hs : (((s - 2147483648).toNat : Nat) : Int) = s - 2147483648 := by omega
    have d1 : (s - 2147483648) / 8388608 % 256 = s / 8388608 % 256 := by omega
    have d2 : (s - 2147483648) % 8388608 = s % 8388608 := by omega
    rcases key (s - 2147483648).toNat with k | k
    · rw [hs, d1, d2] at k
      rw [hr, sv_sym, if_pos (by omega)]
      unfold sv
      rw [if_neg (by omega), Int.natAbs_natCast, k, Int.neg_mul]
    · exfalso; omega
theorem cast_pow (k : Nat) : ((2 ^ k : Nat) : Int) = (2 : Int) ^ k := by rw [Int.natCast_pow]; rfl
theorem enc_val {M x : Int} (h0 : 0 < M) (h1 : M < 16777216) (hx : -149 ≤ x) (hx2 : x ≤ 104) (hq : 8388608 ≤ M ∨ x = -149) : 0 < Bt.enc M x ∧ Bt.enc M x < 2139095040 ∧ ((val S (Bt.enc M x).toNat : Nat) : Int) = M * ((2 ^ (x + 1300).toNat : Nat) : Int) ∧ (Bt.enc M x / 8388608 % 256 ≠ 0 ∨ Bt.enc M x % 8388608 ≠ 0) := by
  have hB : S.B = 8388608 := by decide +kernel
  have h2 : S.l0 = 1151 := rfl
  unfold Bt.enc
  by_cases c : M < 8388608
  · obtain rfl : x = -149 := by omega
    rw [if_pos c]
    refine ⟨h0, by omega, ?_, by omega⟩
    unfold val
    rw [hB, h2, if_pos (by omega), show ((-149 : Int) + 1300).toNat = 1151 from rfl, Int.natCast_mul]
    congr 1; omega
  · rw [if_neg c]
    refine ⟨by omega, by omega, ?_, by omega⟩
    unfold val
    rw [hB, h2, if_neg (by omega), Int.natCast_mul]
    have e1 : 1151 + (((x + 150) * 8388608 + (M - 8388608)).toNat / 8388608 - 1) = (x + 1300).toNat := by omega
    rw [e1]
    congr 1; omega
/-- Of what is told of a number and an exponent. -/
theorem fp_val {n e a : Int} (h : Bt.FP n e a true) (hn : n ≠ 0) (he : -1300 ≤ e) : sv S (rk a) = n * ((2 ^ (e + 1300).toNat : Nat) : Int) ∧ 0 ≤ a ∧ a < 4294967296 ∧ (rk a).natAbs < 2139095040 ∧ a / 8388608 % 256 ≠ 255 := by
  rcases h with ⟨h, _⟩ | ⟨_, o, f, v, h1, h2, h3, h4, h⟩
  · exact absurd h hn
  · rcases h with ⟨_, h, _⟩ | ⟨h5, h6, h7, j, h8, h9, h10, h⟩
    · cases h
    · rcases h with ⟨_, h, _⟩ | ⟨h11, _, rfl⟩
      · cases h
      · have hp := Bt.pow2 j
        have hM : 0 < o * 2 ^ j := Int.mul_pos h3 hp
        obtain ⟨e1, e2, e3, e4⟩ := enc_val hM h8 h9 h11 h10
        have hv : o * 2 ^ j * ((2 ^ (f - j + 1300).toNat : Nat) : Int) = (n.natAbs : Int) * ((2 ^ (e + 1300).toNat : Nat) : Int) := by
          rw [h1, cast_pow, cast_pow, Int.mul_assoc, Int.mul_assoc, ← Int.pow_add, ← Int.pow_add]
          congr 2; omega
        rw [hv] at e3
        unfold Bt.sgn
        generalize Bt.enc (o * 2 ^ j) (f - j) = E at *
        by_cases c : n < 0
        · rw [if_pos c]
          have hr : rk (2147483648 + E) = -E := by unfold rk; rw [if_neg (by omega)]; omega
          refine ⟨?_, by omega, by omega, by rw [hr]; omega, by omega⟩
          rw [hr, sv_sym]
          unfold sv
          rw [if_neg (by omega), show E.natAbs = E.toNat by omega, e3, ← Int.neg_mul]
          congr 1; omega
        · rw [if_neg c, Int.zero_add]
          have hr : rk E = E := by unfold rk; rw [if_pos (by omega)]
          refine ⟨?_, by omega, by omega, by rw [hr]; omega, by omega⟩
          rw [hr]
          unfold sv
          rw [if_neg (by omega), show E.natAbs = E.toNat by omega, e3]
          congr 1; omega
theorem fp_cls {n e a : Int} (h : Bt.FP n e a true) (hn : n ≠ 0) : Bt.cls a = 3 ∨ Bt.cls a = 4 := by
  rcases h with ⟨h, _⟩ | ⟨_, o, f, v, h1, h2, h3, h4, h⟩
  · exact absurd h hn
  · rcases h with ⟨_, h, _⟩ | ⟨h5, h6, h7, j, h8, h9, h10, h⟩
    · cases h
    · rcases h with ⟨_, h, _⟩ | ⟨h11, _, rfl⟩
      · cases h
      · have hM : 0 < o * 2 ^ j := Int.mul_pos h3 (Bt.pow2 j)
        obtain ⟨e1, e2, _, e4⟩ := enc_val hM h8 h9 h11 h10
        unfold Bt.sgn
        generalize Bt.enc (o * 2 ^ j) (f - j) = E at *
        unfold Bt.cls
        split
        · rw [if_neg (by omega)]; split
          · rw [if_neg (by omega)]; exact .inr rfl
          · exact .inl rfl
        · rw [if_neg (by omega)]; split
          · rw [if_neg (by omega)]; exact .inr rfl
          · exact .inl rfl
theorem fp_bad {n e a : Int} (h : Bt.FP n e a false) : a = 0 := by
  rcases h with ⟨_, _, h⟩ | ⟨_, o, f, v, h1, h2, h3, h4, h⟩
  · cases h
  · rcases h with ⟨_, _, h⟩ | ⟨h5, h6, h7, j, h8, h9, h10, h⟩
    · exact h
    · rcases h with ⟨_, _, h⟩ | ⟨_, h, _⟩
      · exact h
      · cases h
theorem fp_zero {e a : Int} {ok : Bool} (h : Bt.FP 0 e a ok) : a = 0 ∧ ok = true := by
  rcases h with ⟨_, h, h'⟩ | ⟨h, _⟩
  · exact ⟨h, h'⟩
  · exact absurd rfl h
/-- A sample's own parts tell it. -/
theorem fp_parts {s : Int} (h : 0 ≤ s ∧ s < 4294967296) (hf : s / 8388608 % 256 ≠ 255) (hn : (Bt.prts s).1 ≠ 0) : Bt.FP (Bt.prts s).1 (Bt.prts s).2.1 s true := by
  unfold Bt.prts at *
  rw [if_neg hf] at *
  have hm0 : 0 ≤ Bt.mant s ∧ Bt.mant s < 16777216 := by unfold Bt.mant; split <;> omega
  have hx : -149 ≤ Bt.expo s ∧ Bt.expo s ≤ 104 := by unfold Bt.expo; split <;> omega
  have hq : 8388608 ≤ Bt.mant s ∨ Bt.expo s = -149 := by unfold Bt.mant Bt.expo; split <;> omega
  have he : Bt.enc (Bt.mant s) (Bt.expo s) = s % 2147483648 := by unfold Bt.enc Bt.mant Bt.expo; split <;> split <;> omega
  have hne : Bt.mant s ≠ 0 := by
    intro q; apply hn; show (if 2147483648 ≤ s then -Bt.mant s else Bt.mant s) = 0
    rw [q]; split <;> rfl
  have habs : ((if 2147483648 ≤ s then -Bt.mant s else Bt.mant s : Int).natAbs : Int) = Bt.mant s := by split <;> omega
  have hsg : Bt.sgn (if 2147483648 ≤ s then -Bt.mant s else Bt.mant s) = s - s % 2147483648 := by unfold Bt.sgn; split <;> (first | rw [if_pos (by omega)] | rw [if_neg (by omega)]) <;> omega
  obtain ⟨o, v, h1, h2, h3⟩ := Bt.odd_part ((Bt.mant s).toNat + 1) (Bt.mant s) (by omega) (by omega)
  have hv := Bt.pow_le 24 h3 h1 (by show Bt.mant s < 16777216; omega)
  refine .inr ⟨hn, o, Bt.expo s + v, v, by dsimp only; rw [habs, h1], h2, h3, rfl, .inr ⟨?_, by omega, by omega, v, ?_, by omega, ?_, .inr ⟨by omega, rfl, ?_⟩⟩⟩
  · have hp := Bt.pow2 v
    have : o ≤ o * 2 ^ v := by have := Int.mul_le_mul_of_nonneg_left (show (1 : Int) ≤ 2 ^ v by omega) (show 0 ≤ o by omega); omega
    omega
  · rw [← h1]; omega
  · rw [← h1]; omega
  · rw [← h1, show Bt.expo s + (v : Int) - (v : Int) = Bt.expo s by omega, he, hsg]; omega
theorem parts_zero {s : Int} (h : 0 ≤ s ∧ s < 4294967296) : (Bt.prts s).1 = 0 → (Bt.prts s).2.2 = true → s = 0 ∨ s = 2147483648 := by
  unfold Bt.prts Bt.mant
  split
  · intro _ q; cases q
  · intro q _; dsimp only at q; split at q <;> split at q <;> omega
/-! ### Times a power of two -/
/-- A whole number as a float: its word, told by sign and size. -/
theorem int_word {m : Int} (h : m ≠ 0) (hm : m.natAbs ≤ 9007199254740992) : ∃ (s : Bool) (r : Nat), floatOfInt .f64 m = double.word s r ∧ r < D.inf ∧ (s = true ↔ m < 0) ∧ ∀ k : Nat, k = 1300 → val D r = m.natAbs * 2 ^ k := by
  have key : ∀ k : Nat, k = 1300 → ∃ (s : Bool) (r : Nat), floatOfInt .f64 m = double.word s r ∧ r < D.inf ∧ (s = true ↔ m < 0) ∧ val D r = m.natAbs * 2 ^ k := by
    intro k hk
    have hw : floatOfInt .f64 m = double.word (decide (m < 0)) (rung D (m.natAbs * 2 ^ k)) := by
      show double.nearest (decide (m < 0)) m.natAbs 0 = _
      rw [nearest_rung fits_D _ _ (by omega), show ((0 : Int) + 1300).toNat = k by omega]
    have hEx : Ex ((m.natAbs : Int) * ((2 ^ k : Nat) : Int)) := by
      rcases Nat.lt_or_ge m.natAbs 9007199254740992 with c | c
      · exact ⟨m.natAbs, k, by rw [Int.natAbs_mul, Int.natAbs_natCast, Int.natAbs_natCast], c, by omega, by omega⟩
      · refine ⟨4503599627370496, k + 1, ?_, by omega, by omega, by omega⟩
        rw [Int.natAbs_mul, Int.natAbs_natCast, Int.natAbs_natCast, Nat.pow_succ, show m.natAbs = 2 * 4503599627370496 by omega, Nat.mul_assoc, Nat.mul_comm 2, Nat.mul_assoc]
    obtain ⟨e1, e2⟩ := hEx.sr
    have hp : (0 : Int) < (m.natAbs : Int) * ((2 ^ k : Nat) : Int) := Int.mul_pos (by omega) (by exact_mod_cast Nat.two_pow_pos k)
    have hN : ((m.natAbs : Int) * ((2 ^ k : Nat) : Int)).natAbs = m.natAbs * 2 ^ k := by rw [Int.natAbs_mul, Int.natAbs_natCast, Int.natAbs_natCast]
    have hSR : SR D ((m.natAbs : Int) * ((2 ^ k : Nat) : Int)) = ((rung D (m.natAbs * 2 ^ k) : Nat) : Int) := by unfold SR; rw [if_neg (by omega), hN]
    rw [hSR] at e1 e2
    refine ⟨_, _, hw, by rw [Int.natAbs_natCast] at e2; exact e2, by simp, ?_⟩
    unfold sv at e1
    rw [if_neg (by omega), Int.natAbs_natCast] at e1
    have := congrArg Int.natAbs e1
    rw [Int.natAbs_natCast, hN] at this; exact this
  obtain ⟨s, r, h1, h2, h3, h4⟩ := key 1300 rfl
  exact ⟨s, r, h1, h2, h3, fun k hk => by rw [hk]; exact h4⟩
/-- A word by its sign's bit and its rung. -/
def wd (a r : Nat) : Nat := a * 9223372036854775808 + r
theorem word_wd (s : Bool) (r : Nat) : double.word s r = wd s.toNat r := by
  have e : double.signWeight = 9223372036854775808 := by decide +kernel
  unfold wd Format.word
  cases s
  · show r = 0 * _ + r; rw [Nat.zero_mul, Nat.zero_add]
  · show double.signWeight + r = 1 * _ + r; rw [e, Nat.one_mul]
theorem wd_lt {a r : Nat} (ha : a < 2) (hr : r < 9218868437227405312) : wd a r < 18446744073709551616 := by unfold wd; omega
theorem wd_mod {a r : Nat} (hr : r < 9218868437227405312) : wd a r % 9223372036854775808 = r := by unfold wd; omega
theorem wd_num {a r : Nat} (ha : a < 2) (h : a = 0 ∨ 0 < r) : Num double (wd a r) (if a = 0 then (r : Int) else -(r : Int)) := by
  rcases Nat.lt_or_ge a 1 with c | c
  · obtain rfl : a = 0 := by omega
    exact ⟨false, by rw [word_wd]; simp, by simp, by simp⟩
  · obtain rfl : a = 1 := by omega
    exact ⟨true, by rw [word_wd]; simp, by simp, by simp⟩
theorem wd_read {a r : Nat} (ha : a < 2) (hr : r < 9218868437227405312) : ∃ m p, double.read (wd a r) = .number (a == 1) m p ∧ (226 : Int) - 1300 ≤ p ∧ m * 2 ^ (p + 1300).toNat = val D r := by
  obtain ⟨m, p, e, h1, h2, h3⟩ := read_word fits_D (a == 1) (r := r) hr
  have : (a == 1).toNat = a := by
    rcases Nat.lt_or_ge a 1 with c | c
    · obtain rfl : a = 0 := by omega
      rfl
    · obtain rfl : a = 1 := by omega
      rfl
  rw [word_wd, this] at e
  exact ⟨m, p, e, h2, h3⟩
theorem wd_is {a r : Nat} (ha : a < 2) (hr : r < 9218868437227405312) : Is .f64 (wd a r) (some (wd a r)) := by
  obtain ⟨m, p, e, _⟩ := wd_read ha hr
  refine ⟨rfl, ?_⟩
  unfold nanB
  have e' : FloatKind.f64.decode (wd a r) = .number (a == 1) m p := e
  rw [e']; rfl
theorem rung_is {r : Nat} (hr : r < 9218868437227405312) : Is .f64 r (some r) := by have := wd_is (a := 0) (by omega) hr; unfold wd at this; simpa using this
theorem ord_rung {r c : Nat} (hr : r < 9218868437227405312) (hc : c < 9218868437227405312) : ord .f64 (some r) (some c) = some (compare (sv D (r : Int)) (sv D (c : Int))) := by
  have h1 := wd_num (a := 0) (r := r) (by omega) (.inl rfl)
  have h2 := wd_num (a := 0) (r := c) (by omega) (.inl rfl)
  unfold wd at h1 h2
  rw [if_pos rfl, Nat.zero_mul, Nat.zero_add] at h1 h2
  exact order_num fits_D h1 h2 (by rw [Int.natAbs_natCast]; exact hr) (by rw [Int.natAbs_natCast]; exact hc)
theorem not_gt {r c : Nat} (h : r ≤ c) (hc : c < 9218868437227405312) : (ord .f64 (some r) (some c) == some .gt) = false := by
  rw [ord_rung (by omega) hc]
  have := sv_mono D (show (r : Int) ≤ (c : Int) by omega) (by omega) (by show (c : Int) ≤ 9218868437227405312; omega)
  rcases Int.lt_or_eq_of_le this with q | q
  · rw [Int.compare_eq_lt.2 q]; rfl
  · rw [q, Int.compare_eq_eq.2 rfl]; rfl
theorem not_lt {r c : Nat} (h : c ≤ r) (hr : r < 9218868437227405312) : (ord .f64 (some r) (some c) == some .lt) = false := by
  rw [ord_rung hr (by omega)]
  have := sv_mono D (show (c : Int) ≤ (r : Int) by omega) (by omega) (by show (r : Int) ≤ 9218868437227405312; omega)
  rcases Int.lt_or_eq_of_le this with q | q
  · rw [Int.compare_eq_gt.2 q]; rfl
  · rw [q, Int.compare_eq_eq.2 rfl]; rfl
theorem val_pos {r : Nat} (h : 0 < r) : val D r ≠ 0 := by
  have := val_lt D (r := 0) (r' := r) h
  rw [val_zero] at this
  rcases Nat.lt_or_ge D.inf r with c | c
  · unfold val
    have hp := Nat.two_pow_pos D.l0
    split
    · exact Nat.ne_of_gt (Nat.mul_pos h hp)
    · exact Nat.ne_of_gt (Nat.mul_pos (by have := B_pos D; omega) (Nat.two_pow_pos _))
  · have := this c; omega
theorem sv_ne {r : Nat} (h : 0 < r) : sv D (r : Int) ≠ 0 := by
  intro q; unfold sv at q
  rw [if_neg (Int.not_lt.2 (Int.natCast_nonneg r)), Int.natAbs_natCast] at q
  exact val_pos h (Int.ofNat.inj q)
theorem sv_zero : sv D 0 = 0 := by unfold sv; simp [val_zero]
theorem cmp_ne {X : Int} (h : X ≠ 0) : (some (compare X 0) == some Ordering.eq) = false := by
  rcases Int.lt_trichotomy X 0 with q | q | q
  · rw [Int.compare_eq_lt.2 q]; rfl
  · exact absurd q h
  · rw [Int.compare_eq_gt.2 q]; rfl
theorem ne_zero {a r : Nat} (ha : a < 2) (h0 : 0 < r) (hr : r < 9218868437227405312) : (ord .f64 (some (wd a r)) (some 0) == some .eq) = false := by
  have h2 := wd_num (a := 0) (r := 0) (by omega) (.inl rfl)
  unfold wd at h2
  rw [if_pos rfl] at h2
  have h2' : Num double 0 0 := by simpa using h2
  rcases Nat.lt_or_ge a 1 with c | c
  · obtain rfl : a = 0 := by omega
    have h1 := wd_num (a := 0) (r := r) ha (.inr h0)
    rw [if_pos rfl] at h1
    have e : ord .f64 (some (wd 0 r)) (some 0) = some (compare (sv D (r : Int)) (sv D 0)) := order_num fits_D h1 h2' (by rw [Int.natAbs_natCast]; exact hr) (by decide)
    rw [e, sv_zero]; exact cmp_ne (sv_ne h0)
  · obtain rfl : a = 1 := by omega
    have h1 := wd_num (a := 1) (r := r) ha (.inr h0)
    rw [if_neg (by decide)] at h1
    have e : ord .f64 (some (wd 1 r)) (some 0) = some (compare (sv D (-(r : Int))) (sv D 0)) := order_num fits_D h1 h2' (by rw [Int.natAbs_neg, Int.natAbs_natCast]; exact hr) (by decide)
    rw [e, sv_zero, sv_sym]; exact cmp_ne (Int.neg_ne_zero.2 (sv_ne h0))
theorem one_read : double.read 4607182418800017408 = .number false (2 ^ 52) (-52) := by decide +kernel
theorem write_number (f : Format) (s : Bool) (m : Nat) (p : Int) : f.write (.number s m p) = f.nearest s m p := rfl
theorem near_word {s : Bool} {m r : Nat} {p : Int} (hp : -1300 ≤ p) (hr : r ≤ D.inf) (h : m * 2 ^ (p + 1300).toNat = val D r) : double.nearest s m p = double.word s r := by
  rw [nearest_rung fits_D _ _ hp, h, rung_val D hr]
theorem xor_one (a : Nat) (ha : a < 2) : (false ^^ (a == 1)).toNat = a := by
  rcases Nat.lt_or_ge a 1 with c | c
  · obtain rfl : a = 0 := by omega
    rfl
  · obtain rfl : a = 1 := by omega
    rfl
theorem mul_shift {m v k : Nat} {p : Int} (hx : (p + 1300).toNat = 52 + (-52 + p + 1300).toNat) (hv : m * 2 ^ (p + 1300).toNat = v) (hk : k = 2 ^ 52) : k * m * 2 ^ (-52 + p + 1300).toNat = v := by
  rw [← hv, hx, Nat.pow_add, Nat.mul_comm k m, Nat.mul_assoc, hk]
theorem op_of {c X Y : Nat} (e : double.mul c X = some Y) : op .mul .f64 (some c) (some X) = some Y := e
theorem mul_of {c X m' : Nat} {s' s : Bool} {m : Nat} {p' p : Int} (h1 : double.read c = .number s' m' p') (e : double.read X = .number s m p) : double.mul c X = some (double.nearest (s' ^^ s) (m' * m) (p' + p)) := by
  unfold Format.mul
  rw [h1, e]; rfl
theorem mul_one {a r : Nat} (ha : a < 2) (hr : r < D.inf) : op .mul .f64 (some 4607182418800017408) (some (wd a r)) = some (wd a r) := by
  obtain ⟨m, p, e, hp, hv⟩ := wd_read ha hr
  have hp2 : -1300 ≤ -52 + p := by clear hv; omega
  have hx : (p + 1300).toNat = 52 + (-52 + p + 1300).toNat := by clear hv; omega
  obtain ⟨k, hk⟩ : ∃ k : Nat, k = 2 ^ 52 := ⟨_, rfl⟩
  have h1 := one_read
  rw [← hk] at h1
  have hn := near_word (s := false ^^ (a == 1)) hp2 (Nat.le_of_lt hr) (mul_shift hx hv hk)
  have e2 := mul_of h1 e
  rw [hn, word_wd, xor_one a ha] at e2
  exact op_of e2
/-- What Ldexp tells. -/
def ldx (a r : Nat) (e : Int) : Nat := wd a (r % 4503599627370496 + (e + (r / 4503599627370496 : Nat)).toNat * 4503599627370496)
theorem ldx_val {r n e' : Nat} {e : Int} {k : Nat} (hk : k = 1300) (hv : val D r = n * 2 ^ k) (hq : 1 ≤ r / 4503599627370496) (he1 : 1 ≤ e') (hx : k + e' = (e + 1300).toNat + r / 4503599627370496) : val D (r % 4503599627370496 + e' * 4503599627370496) = n * 2 ^ (e + 1300).toNat := by
  have hsh := val_shift hq he1
  apply Nat.eq_of_mul_eq_mul_right (Nat.two_pow_pos (r / 4503599627370496))
  rw [hsh, hv, Nat.mul_assoc, Nat.mul_assoc, ← Nat.pow_add, ← Nat.pow_add, hx]
theorem sv_nat (r : Nat) : sv D (r : Int) = ((val D r : Nat) : Int) := by unfold sv; rw [if_neg (Int.not_lt.2 (Int.natCast_nonneg r)), Int.natAbs_natCast]
theorem ldx_at {m e : Int} {a r : Nat} (hm : m ≠ 0) (hm2 : m.natAbs ≤ 9007199254740992) (he : -300 ≤ e ∧ e ≤ 300) (ha : a < 2) (hs : a = 1 ↔ m < 0) (hr : r < 9218868437227405312) (hv : ∀ k : Nat, k = 1300 → val D r = m.natAbs * 2 ^ k) (hq : 1023 ≤ r / 4503599627370496 ∧ r / 4503599627370496 ≤ 1076) :
    At (some (ldx a r e)) (m * ((2 ^ (e + 1300).toNat : Nat) : Int)) := by
  obtain ⟨k, hk⟩ : ∃ k : Nat, k = 1300 := ⟨_, rfl⟩
  obtain ⟨e', he'⟩ : ∃ e' : Nat, (e + (r / 4503599627370496 : Nat)).toNat = e' := ⟨_, rfl⟩
  have hm' := Nat.mod_lt r (show 0 < 4503599627370496 by decide)
  have hr' : r % 4503599627370496 + e' * 4503599627370496 < 9218868437227405312 := by omega
  have hp' : 0 < r % 4503599627370496 + e' * 4503599627370496 := by omega
  have hq1 : 1 ≤ r / 4503599627370496 := by omega
  have he1 : 1 ≤ e' := by omega
  have hx : k + e' = (e + 1300).toNat + r / 4503599627370496 := by omega
  have hms : ¬ a = 0 → m = -((m.natAbs : Nat) : Int) := fun c => by have := hs.1 (by omega); omega
  have hms' : a = 0 → m = ((m.natAbs : Nat) : Int) := fun c => by
    have : ¬ m < 0 := fun q => by have := hs.2 q; omega
    omega
  have hval := ldx_val (e := e) hk (hv k hk) hq1 he1 hx
  unfold ldx
  rw [he']
  generalize r % 4503599627370496 + e' * 4503599627370496 = R at *
  have hnum := wd_num (a := a) (r := R) ha (.inr hp')
  by_cases c : a = 0
  · rw [if_pos c] at hnum
    refine ⟨_, _, rfl, hnum, by rw [Int.natAbs_natCast]; exact hr', ?_⟩
    rw [sv_nat, hval, Int.natCast_mul, ← hms' c]
  · rw [if_neg c] at hnum
    refine ⟨_, _, rfl, hnum, by rw [Int.natAbs_neg, Int.natAbs_natCast]; exact hr', ?_⟩
    rw [sv_sym, sv_nat, hval, Int.natCast_mul, ← Int.neg_mul, ← hms c]
theorem same_ne {x y : Option Nat} {X : Int} (hx : At x X) (hy : At y X) : (ord .f64 x y != some .eq) = false ∧ (ord .f64 x y == some .eq) = true := by
  obtain ⟨w, r, rfl, hw, hr, hX⟩ := hx
  obtain ⟨w', r', rfl, hw', hr', hY⟩ := hy
  have e : ord .f64 (some w) (some w') = some (compare (sv D r) (sv D r')) := order_num fits_D hw hw' hr hr'
  rw [e, hX, hY, Int.compare_eq_eq.2 rfl]; exact ⟨rfl, rfl⟩
theorem at_is {u : Nat} {X : Int} (h : At (some u) X) : Is .f64 u (some u) := by
  obtain ⟨w, r, e, hw, hr, _⟩ := h
  cases e
  obtain ⟨g, m, p, e2, _⟩ := hw.read fits_D hr
  refine ⟨rfl, ?_⟩
  unfold nanB
  have e' : FloatKind.f64.decode u = .number g m p := e2
  rw [e']; rfl
/-! ### Finite, by x == x and x - x == 0 -/
theorem fin_self {s : Int} (h : 0 ≤ s ∧ s < 4294967296) (hf : s / 8388608 % 256 ≠ 255) : (ord .f32 (rd .f32 s.toNat) (rd .f32 s.toNat) == some .eq) = true ∧ (ord .f32 (op .sub .f32 (rd .f32 s.toNat) (rd .f32 s.toNat)) (some 0) == some .eq) = true := by
  have hr : (rk s).natAbs < S.inf := by show _ < 2139095040; unfold rk; split <;> omega
  have hn := num_rk h
  rw [rd_fin h hr]
  constructor
  · have e : ord .f32 (some s.toNat) (some s.toNat) = some (compare (sv S (rk s)) (sv S (rk s))) := order_num fits_S hn hn hr hr
    rw [e, Int.compare_eq_eq.2 rfl]; rfl
  · obtain ⟨w, hw, hw2⟩ := sub_num fits_S hn hn hr hr
    rw [Int.sub_self] at hw2
    have h0 : SR S 0 = 0 := by unfold SR; simp [rung_zero]
    rw [h0] at hw2
    have e0 : op .sub .f32 (some s.toNat) (some s.toNat) = some w := hw
    have hz : Num single 0 0 := ⟨false, by decide +kernel, by simp, by simp⟩
    have e : ord .f32 (some w) (some 0) = some (compare (sv S 0) (sv S 0)) := order_num fits_S hw2 hz (by decide) (by decide)
    rw [e0, e, Int.compare_eq_eq.2 rfl]; rfl
theorem inf_self {s : Int} (h : 0 ≤ s ∧ s < 4294967296) (hf : s / 8388608 % 256 = 255) (h0 : s % 8388608 = 0) : (ord .f32 (rd .f32 s.toNat) (rd .f32 s.toNat) == some .eq) = true ∧ (ord .f32 (op .sub .f32 (rd .f32 s.toNat) (rd .f32 s.toNat)) (some 0) == some .eq) = false := by
  have hs : s = 2139095040 ∨ s = 4286578688 := by omega
  rcases hs with rfl | rfl
  · exact ⟨by decide +kernel, by decide +kernel⟩
  · exact ⟨by decide +kernel, by decide +kernel⟩
theorem nan_self {s : Int} (h : 0 ≤ s ∧ s < 4294967296) (hf : s / 8388608 % 256 = 255) (h0 : s % 8388608 ≠ 0) : (ord .f32 (rd .f32 s.toNat) (rd .f32 s.toNat) == some .eq) = false := by
  rw [rd_nan h (by show 2139095040 < _; unfold rk; split <;> omega)]; rfl
/-! ### Bits, by their places -/
theorem wd_div {a r : Nat} (ha : a < 2) (hr : r < 9218868437227405312) : wd a r / 4503599627370496 = a * 2048 + r / 4503599627370496 ∧ r / 4503599627370496 < 2048 := by
  unfold wd; omega
theorem low11 {a r : Nat} (ha : a < 2) (hr : r < 9218868437227405312) : IntKind.i64.wrap (if BinOp.and = BinOp.and then (BitVec.ofInt IntKind.i64.bits ((wd a r / 4503599627370496 : Nat) : Int) &&& BitVec.ofInt IntKind.i64.bits 2047).toNat else (BitVec.ofInt IntKind.i64.bits ((wd a r / 4503599627370496 : Nat) : Int) ||| BitVec.ofInt IntKind.i64.bits 2047).toNat : Nat) = ((r / 4503599627370496 : Nat) : Int) := by
  rw [if_pos rfl]
  obtain ⟨h1, h2⟩ := wd_div ha hr
  rw [h1]
  generalize r / 4503599627370496 = q at *
  have e : IntKind.i64.bits = 64 := rfl
  rw [e, BitVec.toNat_and, BitVec.toNat_ofInt, BitVec.toNat_ofInt]
  have e1 : (((a * 2048 + q : Nat) : Int) % ((2 ^ 64 : Nat) : Int)).toNat = a * 2048 + q := by omega
  have e2 : ((2047 : Int) % ((2 ^ 64 : Nat) : Int)).toNat = 2 ^ 11 - 1 := by decide
  rw [e1, e2, Nat.and_two_pow_sub_one_eq_mod, show (a * 2048 + q) % 2 ^ 11 = q by omega]
  exact w64 (by omega)
theorem andn52' {a r : Nat} (ha : a < 2) (hr : r < 9218868437227405312) : IntKind.u64.wrap ((BitVec.ofInt IntKind.u64.bits ((wd a r : Nat) : Int) &&& ~~~(BitVec.ofInt IntKind.u64.bits 9218868437227405312)).toNat : Nat) = ((a * 9223372036854775808 + r % 4503599627370496 : Nat) : Int) := by
  have h := andn52 (a := a) (f := r % 4503599627370496) (q := r / 4503599627370496) ha (Nat.mod_lt _ (by decide)) (wd_div ha hr).2
  have e : a * 9223372036854775808 + r / 4503599627370496 * 4503599627370496 + r % 4503599627370496 = wd a r := by unfold wd; omega
  rw [e] at h; exact h
theorem or52 {a r : Nat} {e : Int} (ha : a < 2) (hr : r < 9218868437227405312) (h1 : 1 ≤ (e + ((r / 4503599627370496 : Nat) : Int)).toNat) (h2 : (e + ((r / 4503599627370496 : Nat) : Int)).toNat < 2047) :
    IntKind.u64.wrap (if BinOp.or = BinOp.and then (BitVec.ofInt IntKind.u64.bits ((a * 9223372036854775808 + r % 4503599627370496 : Nat) : Int) &&& BitVec.ofInt IntKind.u64.bits ((((e + ((r / 4503599627370496 : Nat) : Int)).toNat : Nat) : Int) * 4503599627370496)).toNat else (BitVec.ofInt IntKind.u64.bits ((a * 9223372036854775808 + r % 4503599627370496 : Nat) : Int) ||| BitVec.ofInt IntKind.u64.bits ((((e + ((r / 4503599627370496 : Nat) : Int)).toNat : Nat) : Int) * 4503599627370496)).toNat : Nat) = ((ldx a r e : Nat) : Int) := by
  rw [if_neg (by decide)]
  unfold ldx wd
  have hf : r % 4503599627370496 < 4503599627370496 := Nat.mod_lt _ (by decide)
  generalize (e + ((r / 4503599627370496 : Nat) : Int)).toNat = q at *
  generalize r % 4503599627370496 = f at *
  have eb : IntKind.u64.bits = 64 := rfl
  rw [eb, BitVec.toNat_or, BitVec.toNat_ofInt, BitVec.toNat_ofInt]
  have e1 : (((a * 9223372036854775808 + f : Nat) : Int) % ((2 ^ 64 : Nat) : Int)).toNat = a * 9223372036854775808 + f := by omega
  have e2 : (((q : Nat) : Int) * 4503599627370496 % ((2 ^ 64 : Nat) : Int)).toNat = q * 4503599627370496 := by omega
  rw [e1, e2]
  have key : (a * 9223372036854775808 + f) ||| (q * 4503599627370496) = a * 9223372036854775808 + (f + q * 4503599627370496) := by
    have p52 : (4503599627370496 : Nat) = 2 ^ 52 := by decide
    have f52 : f < 2 ^ 52 := hf
    have q11 : q < 2 ^ 11 := by show q < 2048; omega
    have p63 : a * 9223372036854775808 = 4503599627370496 * (2048 * a) := by rw [← Nat.mul_assoc, Nat.mul_comm]
    have g1 : a * 9223372036854775808 + f = 2 ^ 52 * (2048 * a) + f := by rw [p63, p52]
    have g2 : q * 4503599627370496 = 2 ^ 52 * q + 0 := by rw [Nat.mul_comm, p52, Nat.add_zero]
    have g3 : a * 9223372036854775808 + (f + q * 4503599627370496) = 2 ^ 52 * (2048 * a + q) + f := by rw [p63, Nat.mul_comm q, Nat.add_comm f, ← Nat.add_assoc, ← Nat.mul_add, p52]
    have g4 : 2048 * a = 2 ^ 11 * a + 0 := by omega
    have g5 : 2048 * a + q = 2 ^ 11 * a + q := by omega
    rw [g3, g1, g2]
    apply Nat.eq_of_testBit_eq
    intro i
    rw [Nat.testBit_or, Nat.testBit_two_pow_mul_add _ f52, Nat.testBit_two_pow_mul_add _ (Nat.two_pow_pos 52), Nat.testBit_two_pow_mul_add _ f52]
    have t1 : ∀ j, (2048 * a).testBit j = if j < 11 then Nat.testBit 0 j else a.testBit (j - 11) := fun j => by
      rw [g4]; exact Nat.testBit_two_pow_mul_add _ (Nat.two_pow_pos 11) j
    have t2 : ∀ j, (2048 * a + q).testBit j = if j < 11 then q.testBit j else a.testBit (j - 11) := fun j => by
      rw [g5]; exact Nat.testBit_two_pow_mul_add _ q11 j
    by_cases c : i < 52
    · rw [if_pos c, if_pos c, if_pos c]; simp
    · rw [if_neg c, if_neg c, if_neg c, t1, t2]
      by_cases c2 : i - 52 < 11
      · rw [if_pos c2, if_pos c2]; simp
      · rw [if_neg c2, if_neg c2]
        have : q.testBit (i - 52) = false := Nat.testBit_lt_two_pow (Nat.lt_of_lt_of_le q11 (Nat.pow_le_pow_right (by decide) (by omega)))
        rw [this]; simp
  rw [key, wu64b (by omega)]
theorem shl52 {q : Nat} (h1 : 1 ≤ q) (h2 : q < 2047) : IntKind.u64.wrap (((q : Nat) : Int) * 2 ^ 52) = ((q : Nat) : Int) * 4503599627370496 := by
  rw [show ((2 : Int) ^ 52) = 4503599627370496 by decide]; exact wu64b (by omega)
theorem ldx_rung {a r : Nat} {e : Int} (h2 : (e + ((r / 4503599627370496 : Nat) : Int)).toNat < 2047) : r % 4503599627370496 + (e + (r / 4503599627370496 : Nat)).toNat * 4503599627370496 < 9218868437227405312 := by
  have := Nat.mod_lt r (show 0 < 4503599627370496 by decide)
  omega
theorem rd_some {X : Nat} (h : Is .f64 X (some X)) : rd .f64 X = some X := by unfold rd; rw [if_neg (by rw [h.2]; decide)]
theorem rd_ldx {a r : Nat} {e : Int} (ha : a < 2) (hr : r < 9218868437227405312) (h1 : 1 ≤ (e + ((r / 4503599627370496 : Nat) : Int)).toNat) (h2 : (e + ((r / 4503599627370496 : Nat) : Int)).toNat < 2047) : rd .f64 (ldx a r e) = some (ldx a r e) := rd_some (wd_is ha (ldx_rung (a := a) h2))
theorem ldx_one {a r : Nat} {e : Int} (ha : a < 2) (hr : r < 9218868437227405312) (h1 : 1 ≤ (e + ((r / 4503599627370496 : Nat) : Int)).toNat) (h2 : (e + ((r / 4503599627370496 : Nat) : Int)).toNat < 2047) : op .mul .f64 (some 4607182418800017408) (some (ldx a r e)) = some (ldx a r e) := mul_one ha (ldx_rung (a := a) h2)
theorem int_zero : floatOfInt .f64 0 = 0 := by decide +kernel
theorem at_zero : At (some 0) 0 := ⟨0, 0, rfl, ⟨false, by decide +kernel, by simp, by simp⟩, by decide, sv_zero⟩
theorem int_parts {m : Int} {r : Nat} (h : m ≠ 0) (hm : m.natAbs ≤ 9007199254740992) (hr : r < D.inf) (hv : ∀ k : Nat, k = 1300 → val D r = m.natAbs * 2 ^ k) : 1023 ≤ r / 4503599627370496 ∧ r / 4503599627370496 ≤ 1076 := by
  obtain ⟨k, hk⟩ : ∃ k : Nat, k = 1300 := ⟨_, rfl⟩
  have hv := hv k hk
  refine parts_of (N := m.natAbs * 2 ^ k) (fun j hj => ?_) (fun j hj => ?_) hv hr
  · rw [show j = k by omega]; exact Nat.le_mul_of_pos_left _ (by clear hv; omega)
  · rw [show j = 53 + k by clear hv; omega, Nat.pow_add]; exact Nat.mul_le_mul_right _ hm
theorem toNat_two (s : Bool) : s.toNat < 2 := by cases s <;> decide
theorem toNat_one (s : Bool) {m : Int} (h : s = true ↔ m < 0) : s.toNat = 1 ↔ m < 0 := by rw [← h]; cases s <;> simp
/-! ### A sample's parts, there and back -/
theorem prts_ok {s : Int} (hf : s / 8388608 % 256 ≠ 255) : (Bt.prts s).2.2 = true := by unfold Bt.prts; rw [if_neg hf]
theorem prts_no {s : Int} (hf : s / 8388608 % 256 = 255) : (Bt.prts s).2.2 = false := by unfold Bt.prts; rw [if_pos hf]
theorem prts_bd {s : Int} (h : 0 ≤ s ∧ s < 4294967296) : (Bt.prts s).1.natAbs ≤ 16777216 ∧ -149 ≤ (Bt.prts s).2.1 ∧ (Bt.prts s).2.1 ≤ 104 := by
  unfold Bt.prts Bt.mant Bt.expo
  split
  · dsimp only; omega
  · dsimp only; split <;> split <;> omega
theorem V_parts {s : Int} (h : 0 ≤ s ∧ s < 4294967296) (hf : s / 8388608 % 256 ≠ 255) : At (cv .f32 .f64 (rd .f32 s.toNat)) ((Bt.prts s).1 * ((2 ^ ((Bt.prts s).2.1 + 1300).toNat : Nat) : Int)) := by
  rw [← sv_parts h hf]
  exact V_at h (by unfold rk; split <;> omega)
theorem fp_at {n e a : Int} {ok : Bool} (h : Bt.FP n e a ok) (hk : ok = true) (hn : n ≠ 0) (he : -1300 ≤ e) : At (cv .f32 .f64 (rd .f32 a.toNat)) (n * ((2 ^ (e + 1300).toNat : Nat) : Int)) := by
  rw [hk] at h
  obtain ⟨h1, h2, h3, h4, _⟩ := fp_val h hn he
  rw [← h1]; exact V_at ⟨h2, h3⟩ h4
theorem back_all {s a : Int} {ok : Bool} (hs : 0 ≤ s ∧ s < 4294967296) (hf : s / 8388608 % 256 ≠ 255) (h : Bt.FP (Bt.prts s).1 (Bt.prts s).2.1 a ok) : ok = true ∧ (a = s ∨ ((Bt.prts s).1 = 0 ∧ a = 0)) := by
  by_cases h0 : (Bt.prts s).1 = 0
  · rw [h0] at h; obtain ⟨h1, h2⟩ := fp_zero h; exact ⟨h2, .inr ⟨h0, h1⟩⟩
  · obtain ⟨h1, h2⟩ := h.uniq (fp_parts hs hf h0); exact ⟨h2, .inl h1⟩
end Ld
