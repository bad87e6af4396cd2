/- The scale of powers of two and back, as the document has them. -/
import Derived.Test.YtbhjadkgeadpiaaLg
import Derived.Test.YtbhjadkgeadpiaaLd
namespace Lh
open Go Ieee Fv Fp Sl Lg Go.Proofs.Ytbhjadkgeadpiaa
set_option linter.unusedVariables false
theorem LG_eq {a : Int} (h : 0 ≤ a ∧ a < 4294967296) : LG a = if 2139095040 < a % 2147483648 ∨ rk a < 0 then 2143289344 else if rk a = 0 then 4286578688 else if a = 2139095040 then a else T (lq a) := by
  unfold LG
  by_cases hn : (rk a).natAbs ≤ 2139095040
  · rw [ord_K h hn k0 (by omega)]
    rcases Int.lt_trichotomy (rk a) 0 with q | q | q
    · rw [Int.compare_eq_lt.2 q, if_neg (by decide), if_pos (by decide), if_pos (.inr q)]
    · have hm0 : ¬ (2139095040 < a % 2147483648 ∨ (0 : Int) < 0) := by unfold rk at q; split at q <;> omega
      rw [q, if_pos (by decide), if_neg hm0, if_pos rfl]
    · have hm : ¬ (2139095040 < a % 2147483648 ∨ rk a < 0) := by unfold rk at hn q ⊢; split at hn <;> omega
      rw [Int.compare_eq_gt.2 q, if_neg (by decide), if_neg (by decide), if_neg hm, if_neg (show ¬ rk a = 0 by omega)]
  · have hm : 2139095040 < a % 2147483648 ∨ rk a < 0 := by left; unfold rk at hn; split at hn <;> omega
    rw [V_nan h hn, if_pos hm]; rfl
theorem lq_zero : T (lq 1065353216) = 0 := by decide +kernel
theorem lq_told {a : Int} (h : 0 < a ∧ a < 2139095040) (hn : a ≠ 1065353216) : T (lq a) = Lg.sg (decide (a - 1065353216 < 0)) + ((RD (a - 1065353216).natAbs (-23) : Nat) : Int) := by
  have h1 := scale_le (show a - 1065353216 ≤ 1073741824 by omega) (2 ^ 1277)
  have h2 := scale_le (show -1065353216 ≤ a - 1065353216 by omega) (2 ^ 1277)
  have ht := told_bits (n := a - 1065353216) (v := (a - 1065353216).natAbs) (e := -23) (lo := -1123942400) (hi := 1124073472) (lq_at (a := a) (by omega)) (by rw [show ((-23 : Int) + 1300).toNat = 1277 from rfl]) (by omega) rfl (by omega) (by omega) (by rw [bd_m127]; exact h2) (by rw [bd_128]; exact h1) (by omega) (by omega) (by omega) (by omega)
  rw [ht]; unfold Lg.sg
  by_cases c : a - 1065353216 < 0
  · rw [if_pos c, if_pos (decide_eq_true c)]
  · rw [if_neg c, if_neg (by rw [decide_eq_false c]; decide)]
def near (m : Nat) (E : Int) : Nat := if 0 ≤ E then m * 2 ^ E.toNat else rne m (-E).toNat
theorem rne_near {m : Nat} {E : Int} (hE : -1000 ≤ E) : rne (m * 2 ^ (E + 1300).toNat) 1300 = near m E := by
  obtain ⟨k, hk⟩ : ∃ k : Nat, k = 1300 := ⟨_, rfl⟩
  unfold near
  split
  · rw [show (E + 1300).toNat = E.toNat + k by omega, Nat.pow_add, ← Nat.mul_assoc, ← hk, rne_exact]
  · have e1 : rne (m * 2 ^ (E + 1300).toNat) ((-E).toNat + (E + 1300).toNat) = rne m (-E).toNat := rne_scale _ _ _
    rw [← e1]; congr 1; omega
theorem EX_eq {a : Int} (h : 0 ≤ a ∧ a < 4294967296) : EX a = if 2139095040 < a % 2147483648 then 2143289344 else if 1124073472 ≤ rk a then 2139095040 else if rk a < -1123942400 then 0 else RN (sv S (rk a) * ((2 ^ 23 : Nat) : Int)) + 1065353216 := by
  unfold EX
  by_cases hn : (rk a).natAbs ≤ 2139095040
  · have hm : ¬ 2139095040 < a % 2147483648 := by unfold rk at hn; split at hn <;> omega
    rw [if_neg hm, not_none h hn, ord_K h hn k128 (by omega), ord_K h hn km127 (by omega), if_neg (by decide)]
    by_cases c1 : 1124073472 ≤ rk a
    · rw [if_pos c1, if_pos]
      rcases Int.lt_or_eq_of_le c1 with q | q
      · rw [Int.compare_eq_gt.2 q]; rfl
      · rw [← q]; rfl
    · rw [if_neg c1, if_neg (by rw [Int.compare_eq_lt.2 (by omega)]; decide)]
      by_cases c2 : rk a < -1123942400
      · rw [if_pos c2, if_pos (by rw [Int.compare_eq_lt.2 c2]; rfl)]
      · have hc : ¬ (some (compare (rk a) (-1123942400)) == some Ordering.lt) = true := by
          intro q
          have q2 : compare (rk a) (-1123942400) = .lt := by simpa using q
          exact c2 (Int.compare_eq_lt.1 q2)
        rw [if_neg c2, if_neg hc]
        obtain ⟨ha, b1, b2⟩ := ex_at h (by omega) (by omega)
        rw [RI_at ha]
  · have hm : 2139095040 < a % 2147483648 := by unfold rk at hn; split at hn <;> omega
    rw [V_nan h hn, if_pos hm]; rfl
theorem RN_parts {a : Int} (h : 0 ≤ a ∧ a < 4294967296) (hf : a / 8388608 % 256 ≠ 255) : RN (sv S (rk a) * ((2 ^ 23 : Nat) : Int)) = if 2147483648 ≤ a then -((near (Bt.mant a).toNat (Bt.expo a + 23) : Nat) : Int) else ((near (Bt.mant a).toNat (Bt.expo a + 23) : Nat) : Int) := by
  have hm : 0 ≤ Bt.mant a := by unfold Bt.mant; split <;> omega
  have hx : -149 ≤ Bt.expo a := by unfold Bt.expo; split <;> omega
  have hs := Ld.sv_parts h hf
  have hp : Bt.prts a = (if 2147483648 ≤ a then -Bt.mant a else Bt.mant a, Bt.expo a, true) := by unfold Bt.prts; rw [if_neg hf]
  rw [hp] at hs
  obtain ⟨k, hk⟩ : ∃ k : Nat, (Bt.expo a + 1300).toNat = k := ⟨_, rfl⟩
  have hk2 : (Bt.expo a + 23 + 1300).toNat = k + 23 := by omega
  have habs : (sv S (rk a) * ((2 ^ 23 : Nat) : Int)).natAbs = (Bt.mant a).toNat * 2 ^ (Bt.expo a + 23 + 1300).toNat := by
    rw [hs, hk, hk2, Int.natAbs_mul, Int.natAbs_mul, Int.natAbs_natCast, Int.natAbs_natCast, Nat.mul_assoc, ← Nat.pow_add]
    congr 1
    dsimp only; split <;> omega
  have hr := rne_near (m := (Bt.mant a).toNat) (E := Bt.expo a + 23) (by omega)
  unfold RN
  rw [habs, hr]
  have hsign : sv S (rk a) * ((2 ^ 23 : Nat) : Int) < 0 ↔ (2147483648 ≤ a ∧ Bt.mant a ≠ 0) := by
    have p2 : (0 : Int) < ((2 ^ 23 : Nat) : Int) := by decide
    have p1 : (0 : Int) < ((2 ^ k : Nat) : Int) := Int.natCast_pos.2 (Nat.two_pow_pos _)
    rw [hs, hk]
    dsimp only
    have p3 : (0 : Int) < ((2 ^ k : Nat) : Int) * ((2 ^ 23 : Nat) : Int) := Int.mul_pos p1 p2
    rw [Int.mul_assoc]
    generalize ((2 ^ k : Nat) : Int) * ((2 ^ 23 : Nat) : Int) = z at *
    by_cases c : 2147483648 ≤ a
    · rw [if_pos c]
      by_cases c2 : Bt.mant a = 0
      · rw [c2]; simp
      · have := Int.mul_neg_of_neg_of_pos (show -Bt.mant a < 0 by omega) p3
        exact ⟨fun _ => ⟨c, c2⟩, fun _ => this⟩
    · rw [if_neg c]
      have := Int.mul_nonneg hm (Int.le_of_lt p3)
      exact ⟨fun q => by omega, fun q => absurd q.1 c⟩
  have hK0 : Bt.mant a = 0 → near (Bt.mant a).toNat (Bt.expo a + 23) = 0 := by
    intro q; rw [q]; unfold near; split
    · simp
    · exact rne_0 _
  unfold sgn
  by_cases c : 2147483648 ≤ a
  · rw [if_pos c]
    by_cases c2 : Bt.mant a = 0
    · rw [hK0 c2]; simp
    · rw [decide_eq_true (hsign.2 ⟨c, c2⟩), if_pos rfl]
  · rw [if_neg c, decide_eq_false (fun q => c (hsign.1 q).1), if_neg (by decide)]
theorem near_0 {m : Int} {E : Int} (h : m = 0) : near m.toNat E = 0 := by
  rw [h]; unfold near; split
  · simp
  · exact rne_0 _
theorem near_pos {m n : Nat} {E : Int} (h : E = ((n : Nat) : Int)) : near m E = m * 2 ^ n := by unfold near; rw [if_pos (by omega), h]; simp
theorem near_neg {m n : Nat} {E : Int} (h : E = -((n : Nat) : Int)) (hn : 1 ≤ n) : near m E = rne m n := by unfold near; rw [if_neg (by omega), h]; congr 1; omega
theorem sgn_if {a : Int} {K : Nat} (h : 0 ≤ a ∧ a < 4294967296) : (if decide (a / 2147483648 % 2 = 1) = true then -((K : Nat) : Int) else ((K : Nat) : Int)) = sgn (decide (2147483648 ≤ a)) K := by
  unfold sgn
  by_cases c : 2147483648 ≤ a
  · rw [decide_eq_true c, decide_eq_true (by omega)]
  · rw [decide_eq_false c, decide_eq_false (by omega)]
theorem RN_parts' {a : Int} (h : 0 ≤ a ∧ a < 4294967296) (hf : a / 8388608 % 256 ≠ 255) : RN (sv S (rk a) * ((2 ^ 23 : Nat) : Int)) = sgn (decide (2147483648 ≤ a)) (near (Bt.mant a).toNat (Bt.expo a + 23)) := by
  rw [RN_parts h hf]; unfold sgn
  by_cases c : 2147483648 ≤ a
  · rw [if_pos c, decide_eq_true c, if_pos rfl]
  · rw [if_neg c, decide_eq_false c, if_neg (by decide)]
theorem near_bd {a : Int} (h : 0 ≤ a ∧ a < 4294967296) (hf : a / 8388608 % 256 ≠ 255) (h1 : rk a < 1124073472) (h2 : -1123942400 ≤ rk a) : -1065353216 ≤ sgn (decide (2147483648 ≤ a)) (near (Bt.mant a).toNat (Bt.expo a + 23)) ∧ sgn (decide (2147483648 ≤ a)) (near (Bt.mant a).toNat (Bt.expo a + 23)) ≤ 1073741824 := by
  rw [← RN_parts' h hf]; exact (ex_at h h2 (by omega)).2
end Lh
