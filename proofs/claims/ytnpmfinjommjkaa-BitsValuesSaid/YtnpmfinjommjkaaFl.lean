/- How two samples' values stand to one another, out of the model's order of binary32. No program is named here. -/
import Derived.Test.YtnpmfinjommjkaaBt
namespace Go.Proofs.Ytnpmfinjommjkaa.Bt
set_option linter.unusedVariables false

/-- A rung's magnitude, in units of 2^-149 (infinity's too: it is above all others). -/
def mg (r : Nat) : Nat := if r < 8388608 then r else (8388608 + r % 8388608) * 2 ^ (r / 8388608 - 1)
def sval (a : Int) : Int := if a < 2147483648 then ((mg a.toNat : Nat) : Int) else -((mg (a - 2147483648).toNat : Nat) : Int)
theorem mg_lt {r s : Nat} (h : r < s) : mg r < mg s := by
  unfold mg
  split
  · split
    · exact h
    · have := Nat.one_le_two_pow (n := s / 8388608 - 1)
      calc r < 8388608 * 1 := by omega
        _ ≤ (8388608 + s % 8388608) * 2 ^ (s / 8388608 - 1) := Nat.mul_le_mul (by omega) this
  · rw [if_neg (by omega)]
    rcases Nat.lt_or_ge (r / 8388608) (s / 8388608) with h1 | h1
    · obtain ⟨k, hk⟩ : ∃ k, s / 8388608 - 1 = r / 8388608 - 1 + 1 + k := ⟨s / 8388608 - 1 - (r / 8388608 - 1 + 1), by omega⟩
      rw [hk, Nat.pow_add, Nat.pow_succ]
      have h2 := Nat.one_le_two_pow (n := k)
      have h3 := Nat.one_le_two_pow (n := r / 8388608 - 1)
      generalize 2 ^ (r / 8388608 - 1) = p at h3 ⊢
      generalize 2 ^ k = q at h2 ⊢
      calc (8388608 + r % 8388608) * p < (8388608 * 2) * p := Nat.mul_lt_mul_of_pos_right (by omega) h3
        _ = 8388608 * (p * 2 * 1) := by rw [Nat.mul_one, Nat.mul_comm p 2, Nat.mul_assoc]
        _ ≤ (8388608 + s % 8388608) * (p * 2 * q) := Nat.mul_le_mul (by omega) (Nat.mul_le_mul_left _ h2)
    · have e : r / 8388608 = s / 8388608 := by omega
      rw [e]
      exact Nat.mul_lt_mul_of_pos_right (by omega) (Nat.two_pow_pos _)
theorem mg_le {r s : Nat} (h : r ≤ s) : mg r ≤ mg s := by
  rcases Nat.lt_or_ge r s with h1 | h1
  · exact Nat.le_of_lt (mg_lt h1)
  · have : r = s := by omega
    rw [this]; exact Nat.le_refl _
theorem mg_inj {r s : Nat} (h : mg r = mg s) : r = s := by
  rcases Nat.lt_trichotomy r s with h1 | h1 | h1
  · have := mg_lt h1; omega
  · exact h1
  · have := mg_lt h1; omega
theorem mg_zero : mg 0 = 0 := rfl
theorem sval_lt {a b : Int} (ha : 0 ≤ a ∧ a < 4294967296) (hb : 0 ≤ b ∧ b < 4294967296) (h : sval a < sval b) : key a < key b := by
  unfold sval at h
  unfold key
  split at h <;> split at h
  · rw [if_pos (by assumption), if_pos (by assumption)]
    rcases Int.lt_or_le a b with h1 | h1
    · omega
    · have := mg_le (show b.toNat ≤ a.toNat by omega); omega
  · omega
  · rw [if_neg (by assumption), if_pos (by assumption)]; omega
  · rw [if_neg (by assumption), if_neg (by assumption)]
    rcases Int.lt_or_le b a with h1 | h1
    · omega
    · have := mg_le (show (a - 2147483648).toNat ≤ (b - 2147483648).toNat by omega); omega
theorem cls_zero {a : Int} (ha : 0 ≤ a ∧ a < 4294967296) (h : a = 0 ∨ a = 2147483648) : cls a = 5 := by rcases h with rfl | rfl <;> decide
theorem sval_eq {a b : Int} (ha : 0 ≤ a ∧ a < 4294967296) (hb : 0 ≤ b ∧ b < 4294967296) (h : sval a = sval b) (hne : a ≠ b) : cls a = 5 ∧ cls b = 5 := by
  have hz : ∀ r : Nat, mg r = 0 → r = 0 := fun r h => mg_inj (h.trans mg_zero.symm)
  unfold sval at h
  split at h <;> split at h
  · have := mg_inj (show mg a.toNat = mg b.toNat by omega); omega
  · have h1 := hz a.toNat (by omega); have h2 := hz (b - 2147483648).toNat (by omega)
    exact ⟨cls_zero ha (by omega), cls_zero hb (by omega)⟩
  · have h1 := hz b.toNat (by omega); have h2 := hz (a - 2147483648).toNat (by omega)
    exact ⟨cls_zero ha (by omega), cls_zero hb (by omega)⟩
  · have := mg_inj (show mg (a - 2147483648).toNat = mg (b - 2147483648).toNat by omega); omega

/-! ### The model's order -/
open Ieee
theorem cmp_scale (a b : Int) {k : Int} (hk : 0 < k) : compare (a * k) (b * k) = compare a b := by
  show compareOfLessAndEq _ _ = compareOfLessAndEq _ _
  unfold compareOfLessAndEq
  have h1 : a * k < b * k ↔ a < b := ⟨fun h => Int.lt_of_mul_lt_mul_right h (Int.le_of_lt hk), fun h => Int.mul_lt_mul_of_pos_right h hk⟩
  have h2 : a * k = b * k ↔ a = b := Int.mul_eq_mul_right_iff (by omega)
  simp only [h1, h2]
/-- A word that is no NaN: its sign and its magnitude in units of 2^-149. -/
def sm (s : Bool) (m : Nat) : Int := if s then -(m : Int) else (m : Int)
theorem signed_sm (s : Bool) (m k : Nat) : signed s m k = sm s (m * 2 ^ k) := by unfold signed sm; rw [Nat.shiftLeft_eq]
theorem sm_mul (s : Bool) (m k : Nat) : sm s (m * k) = sm s m * (k : Int) := by unfold sm; split <;> simp [Int.neg_mul]
inductive Rep : Datum → Bool → Nat → Prop
  | num {s : Bool} {m : Nat} {i : Int} (h : -149 ≤ i) (hb : m * 2 ^ (i + 149).toNat < mg 2139095040) : Rep (.number s m i) s (m * 2 ^ (i + 149).toNat)
  | inf {s : Bool} : Rep (.infinity s) s (mg 2139095040)
theorem order_rep {d e : Datum} {s t : Bool} {m n : Nat} (h : Rep d s m) (h' : Rep e t n) : d.order e = some (compare (sm s m) (sm t n)) := by
  cases h with
  | num hi hb =>
    rename_i m i
    cases h' with
    | num hj hb' =>
      rename_i n j
      unfold Datum.order
      congr 1
      dsimp only
      rw [signed_sm, signed_sm]
      obtain ⟨k, hk⟩ : ∃ k : Nat, min i j + 149 = (k : Int) := ⟨(min i j + 149).toNat, by omega⟩
      have e1 : m * 2 ^ (i + 149).toNat = (m * 2 ^ (i - min i j).toNat) * 2 ^ k := by
        rw [Nat.mul_assoc, ← Nat.pow_add]; congr 2; omega
      have e2 : n * 2 ^ (j + 149).toNat = (n * 2 ^ (j - min i j).toNat) * 2 ^ k := by
        rw [Nat.mul_assoc, ← Nat.pow_add]; congr 2; omega
      rw [e1, e2, sm_mul s _ (2 ^ k), sm_mul t _ (2 ^ k)]
      exact congrArg some (cmp_scale _ _ (k := ((2 ^ k : Nat) : Int)) (by have := Nat.two_pow_pos k; omega)).symm
    | inf =>
      show some (if t then Ordering.gt else .lt) = some (compareOfLessAndEq _ _)
      refine congrArg some ?_
      unfold sm
      have h0 : (0 : Int) ≤ ((m * 2 ^ (i + 149).toNat : Nat) : Int) := Int.natCast_nonneg _
      generalize m * 2 ^ (i + 149).toNat = x at hb h0 ⊢
      generalize mg 2139095040 = y at hb ⊢
      unfold compareOfLessAndEq
      cases s <;> cases t <;> simp only [Bool.false_eq_true, if_true, if_false, Bool.toNat_true, Bool.toNat_false] <;> (repeat' split) <;> first | rfl | (exfalso; omega)
  | inf =>
    cases h' with
    | num hj hb' =>
      rename_i n j
      show some (if s then Ordering.lt else .gt) = some (compareOfLessAndEq _ _)
      refine congrArg some ?_
      unfold sm
      have h0 : (0 : Int) ≤ ((n * 2 ^ (j + 149).toNat : Nat) : Int) := Int.natCast_nonneg _
      generalize n * 2 ^ (j + 149).toNat = x at hb' h0 ⊢
      generalize mg 2139095040 = y at hb' ⊢
      unfold compareOfLessAndEq
      cases s <;> cases t <;> simp only [Bool.false_eq_true, if_true, if_false, Bool.toNat_true, Bool.toNat_false] <;> (repeat' split) <;> first | rfl | (exfalso; omega)
    | inf =>
      have hy : 0 < mg 2139095040 := mg_lt (r := 0) (by decide)
      show some (compareOfLessAndEq _ _) = some (compareOfLessAndEq _ _)
      refine congrArg some ?_
      unfold sm
      generalize mg 2139095040 = y at hy ⊢
      unfold compareOfLessAndEq
      cases s <;> cases t <;> simp only [Bool.false_eq_true, if_true, if_false, Bool.toNat_true, Bool.toNat_false] <;> (repeat' split) <;> first | rfl | (exfalso; omega)
theorem rep_of {a : Int} (ha : 0 ≤ a ∧ a < 4294967296) (hc : cls a ≠ 1) : Rep (single.read a.toNat) (decide (2147483648 ≤ a)) (mg (a % 2147483648).toNat) := by
  have hr : (a % 2147483648).toNat ≤ 2139095040 := by
    unfold cls at hc
    split at hc
    · split at hc
      · omega
      · exact absurd rfl hc
    · omega
  unfold Format.read
  have e1 : single.signWeight = 2147483648 := by decide
  have e2 : single.binade = 8388608 := by decide
  have e3 : single.infRung = 2139095040 := by decide
  have e4 : single.leastPlace = -149 := by decide
  simp only [e1, e2, e3, e4]
  have e5 : (a.toNat / 2147483648 % 2 == 1) = decide (2147483648 ≤ a) := by
    rcases Int.lt_or_le a 2147483648 with h | h
    · rw [decide_eq_false (by omega), show a.toNat / 2147483648 = 0 by omega]; rfl
    · rw [decide_eq_true h, show a.toNat / 2147483648 = 1 by omega]; rfl
  have e6 : (a % 2147483648).toNat = a.toNat % 2147483648 := by omega
  rw [e5, e6]
  rw [e6] at hr
  generalize a.toNat % 2147483648 = r at hr ⊢
  split
  · have e7 : mg r = r * 2 ^ ((-149 : Int) + 149).toNat := by unfold mg; rw [if_pos (by assumption)]; simp
    have := Rep.num (s := decide (2147483648 ≤ a)) (m := r) (i := -149) (by omega) (by rw [← e7]; exact mg_lt (by omega))
    rw [← e7] at this; exact this
  · split
    · have e7 : mg r = (8388608 + r % 8388608) * 2 ^ ((-149 : Int) + ((r / 8388608 - 1 : Nat) : Int) + 149).toNat := by
        unfold mg; rw [if_neg (by assumption)]; congr 2; omega
      have := Rep.num (s := decide (2147483648 ≤ a)) (m := 8388608 + r % 8388608) (i := -149 + ((r / 8388608 - 1 : Nat) : Int)) (by omega) (by rw [← e7]; exact mg_lt (by omega))
      rw [← e7] at this; exact this
    · rw [if_pos (by omega), show r = 2139095040 by omega]
      exact Rep.inf
theorem sm_sval {a : Int} (ha : 0 ≤ a ∧ a < 4294967296) : sm (decide (2147483648 ≤ a)) (mg (a % 2147483648).toNat) = sval a := by
  unfold sm sval
  rcases Int.lt_or_le a 2147483648 with h | h
  · rw [decide_eq_false (by omega), if_pos h, show a % 2147483648 = a by omega]; rfl
  · rw [decide_eq_true h, if_pos rfl, if_neg (by omega), show a % 2147483648 = a - 2147483648 by omega]
theorem order_single {a b : Int} (ha : 0 ≤ a ∧ a < 4294967296) (hb : 0 ≤ b ∧ b < 4294967296) (hca : cls a ≠ 1) (hcb : cls b ≠ 1) : Go.FloatKind.f32.format.order a.toNat b.toNat = some (compare (sval a) (sval b)) := by
  show (single.read a.toNat).order (single.read b.toNat) = _
  rw [order_rep (rep_of ha hca) (rep_of hb hcb), sm_sval ha, sm_sval hb]
theorem order_nan {a b : Int} (ha : 0 ≤ a ∧ a < 4294967296) (hca : cls a = 1) : Go.FloatKind.f32.format.order a.toNat b.toNat = none := by
  show (single.read a.toNat).order (single.read b.toNat) = _
  have hr : 2139095040 < a.toNat % 2147483648 := by
    unfold cls at hca
    split at hca
    · split at hca
      · exact absurd hca (by decide)
      · omega
    · split at hca
      · split at hca <;> exact absurd hca (by decide)
      · exact absurd hca (by decide)
  have : ∃ s f, single.read a.toNat = .nan s f := by
    unfold Format.read
    have e1 : single.signWeight = 2147483648 := by decide
    have e2 : single.binade = 8388608 := by decide
    have e3 : single.infRung = 2139095040 := by decide
    simp only [e1, e2, e3]
    rw [if_neg (by omega), if_neg (by omega), if_neg (by omega)]
    exact ⟨_, _, rfl⟩
  obtain ⟨s, f, e⟩ := this
  rw [e]; rfl
theorem ne_self {a : Int} (ha : 0 ≤ a ∧ a < 4294967296) : (Go.FloatKind.f32.format.order a.toNat a.toNat != some .eq) = decide (cls a = 1) := by
  by_cases h : cls a = 1
  · rw [order_nan ha h, decide_eq_true h]; rfl
  · rw [order_single ha ha h h, decide_eq_false h]
    have : compare (sval a) (sval a) = .eq := by
      show compareOfLessAndEq _ _ = _
      unfold compareOfLessAndEq; simp
    rw [this]; rfl
theorem lt_val {a b : Int} (ha : 0 ≤ a ∧ a < 4294967296) (hb : 0 ≤ b ∧ b < 4294967296) (hca : cls a ≠ 1) (hcb : cls b ≠ 1) : (Go.FloatKind.f32.format.order a.toNat b.toNat == some .lt) = decide (sval a < sval b) := by
  rw [order_single ha hb hca hcb]
  show (some (compareOfLessAndEq _ _) == _) = _
  unfold compareOfLessAndEq
  split
  · rw [decide_eq_true (by assumption)]; rfl
  · rw [decide_eq_false (by assumption)]; split <;> rfl
theorem ne_val {a b : Int} (ha : 0 ≤ a ∧ a < 4294967296) (hb : 0 ≤ b ∧ b < 4294967296) (hca : cls a ≠ 1) (hcb : cls b ≠ 1) : (Go.FloatKind.f32.format.order a.toNat b.toNat != some .eq) = decide (sval a ≠ sval b) := by
  rw [order_single ha hb hca hcb]
  show (some (compareOfLessAndEq _ _) != _) = _
  unfold compareOfLessAndEq
  split
  · rw [decide_eq_true (by omega)]; rfl
  · split
    · rw [decide_eq_false (by simpa using by assumption)]; rfl
    · rw [decide_eq_true (by assumption)]; rfl
end Go.Proofs.Ytnpmfinjommjkaa.Bt
