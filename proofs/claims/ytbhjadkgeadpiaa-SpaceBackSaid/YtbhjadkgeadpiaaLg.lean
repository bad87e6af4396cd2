/- Whole numbers' bits and their rounding to binary32, in plain Lean. -/
import Derived.Test.YtbhjadkgeadpiaaSl
namespace Lg
open Go Ieee Fv Fp Sl
set_option linter.unusedVariables false
def bt (v i : Nat) : Nat := v / 2 ^ i % 2
theorem bt_lt (v i : Nat) : bt v i < 2 := Nat.mod_lt _ (by decide)
theorem mod_succ (v i : Nat) : v % 2 ^ (i + 1) = bt v i * 2 ^ i + v % 2 ^ i := by
  unfold bt; rw [Nat.pow_succ, Nat.mod_mul, Nat.mul_comm, Nat.add_comm]
theorem low_step {v i : Nat} (h : v % 2 ^ i = 0) : v % 2 ^ (i + 1) ≠ 0 ↔ bt v i = 1 := by
  have hp := Nat.two_pow_pos i
  have hb := bt_lt v i
  rw [mod_succ, h]
  constructor
  · intro q; rcases Nat.lt_or_ge (bt v i) 1 with c | c
    · have : bt v i = 0 := by omega
      rw [this] at q; omega
    · omega
  · intro q; rw [q]; omega
theorem low_mono {v i j : Nat} (h : i ≤ j) (h2 : v % 2 ^ i ≠ 0) : v % 2 ^ j ≠ 0 := by
  intro q; apply h2
  obtain ⟨k, rfl⟩ : ∃ k, j = i + k := ⟨j - i, by omega⟩
  rw [Nat.pow_add] at q
  have := Nat.mod_mul_right_mod v (2 ^ i) (2 ^ k)
  rw [q] at this; rw [← this]; simp
theorem rne_bits {v d : Nat} (hd : 1 ≤ d) : rne v d = v / 2 ^ d + (if bt v (d - 1) = 1 ∧ (v % 2 ^ (d - 1) ≠ 0 ∨ v / 2 ^ d % 2 = 1) then 1 else 0) := by
  obtain ⟨k, rfl⟩ : ∃ k, d = k + 1 := ⟨d - 1, by omega⟩
  unfold rne
  congr 1
  rw [Nat.add_sub_cancel]
  have hp := Nat.two_pow_pos k
  have hb := bt_lt v k
  have hr := Nat.mod_lt v hp
  have e2 : 2 ^ (k + 1) = 2 * 2 ^ k := by rw [Nat.pow_succ]; omega
  rw [mod_succ, e2]
  generalize v % 2 ^ k = r at *
  generalize v / (2 * 2 ^ k) % 2 = o at *
  generalize 2 ^ k = E at *
  rcases Nat.lt_or_ge (bt v k) 1 with c | c
  · have : bt v k = 0 := by omega
    rw [this]
    rw [if_neg (by omega), if_neg (by omega)]
  · have : bt v k = 1 := by omega
    rw [this]
    by_cases h : r ≠ 0 ∨ o = 1
    · rw [if_pos (by omega), if_pos ⟨rfl, h⟩]
    · rw [if_neg (by omega), if_neg (by intro q; exact h q.2)]
/-- A whole number times a power of two, rounded to binary32: its rung. -/
def RD (v : Nat) (e : Int) : Nat := rung S (v * 2 ^ (e + 1300).toNat)
theorem RD_eq {v : Nat} {e : Int} (h0 : 0 < v) (hv : v < 4294967296) (he : -100 ≤ e ∧ e ≤ 60) : RD v e = ((Nat.log2 v : Int) + e + 126).toNat * 8388608 + (if 24 ≤ Nat.log2 v then rne v (Nat.log2 v - 23) else v * 2 ^ (23 - Nat.log2 v)) ∧ (if 24 ≤ Nat.log2 v then rne v (Nat.log2 v - 23) else v * 2 ^ (23 - Nat.log2 v)) ≤ 16777216 ∧ 8388608 ≤ (if 24 ≤ Nat.log2 v then rne v (Nat.log2 v - 23) else v * 2 ^ (23 - Nat.log2 v)) ∧ Nat.log2 v ≤ 31 := by
  have hne : v ≠ 0 := by omega
  have hl : Nat.log2 v ≤ 31 := by
    have : v < 2 ^ 32 := hv
    have := (Nat.log2_lt hne).2 this; omega
  have h1 := Nat.log2_self_le hne
  have h2 : v < 2 ^ (Nat.log2 v + 1) := Nat.lt_log2_self
  have hB : S.B = 8388608 := by decide +kernel
  have hl0 : S.l0 = 1151 := rfl
  have hfb : S.fb = 23 := rfl
  have hinf : S.inf = 2139095040 := rfl
  obtain ⟨k, hk⟩ : ∃ k : Nat, (e + 1300).toNat = k := ⟨_, rfl⟩
  have hlast : last S (v * 2 ^ k) = Nat.log2 v + k - 23 := by unfold last; rw [log2_scale hne, hfb, hl0]; omega
  have hkept : rne (v * 2 ^ k) (Nat.log2 v + k - 23) = (if 24 ≤ Nat.log2 v then rne v (Nat.log2 v - 23) else v * 2 ^ (23 - Nat.log2 v)) := by
    split
    · rw [show Nat.log2 v + k - 23 = (Nat.log2 v - 23) + k by omega, rne_scale]
    · have e1 : v * 2 ^ k = v * 2 ^ (23 - Nat.log2 v) * 2 ^ (Nat.log2 v + k - 23) := by
        rw [Nat.mul_assoc, ← Nat.pow_add]; congr 2; omega
      rw [e1, rne_exact]
  have b1 : (if 24 ≤ Nat.log2 v then rne v (Nat.log2 v - 23) else v * 2 ^ (23 - Nat.log2 v)) ≤ 16777216 := by
    split
    · have := (rne_le v (Nat.log2 v - 23)).2
      have hq : v / 2 ^ (Nat.log2 v - 23) < 2 ^ 24 := by
        rw [Nat.div_lt_iff_lt_mul (Nat.two_pow_pos _), ← Nat.pow_add, show 24 + (Nat.log2 v - 23) = Nat.log2 v + 1 by omega]; exact h2
      omega
    · have : v * 2 ^ (23 - Nat.log2 v) < 2 ^ (Nat.log2 v + 1) * 2 ^ (23 - Nat.log2 v) := Nat.mul_lt_mul_of_pos_right h2 (Nat.two_pow_pos _)
      rw [← Nat.pow_add, show Nat.log2 v + 1 + (23 - Nat.log2 v) = 24 by omega] at this; omega
  have b2 : 8388608 ≤ (if 24 ≤ Nat.log2 v then rne v (Nat.log2 v - 23) else v * 2 ^ (23 - Nat.log2 v)) := by
    split
    · have := (rne_le v (Nat.log2 v - 23)).1
      have hq : 2 ^ 23 ≤ v / 2 ^ (Nat.log2 v - 23) := by
        rw [Nat.le_div_iff_mul_le (Nat.two_pow_pos _), ← Nat.pow_add, show 23 + (Nat.log2 v - 23) = Nat.log2 v by omega]; exact h1
      omega
    · have : 2 ^ Nat.log2 v * 2 ^ (23 - Nat.log2 v) ≤ v * 2 ^ (23 - Nat.log2 v) := Nat.mul_le_mul_right _ h1
      rw [← Nat.pow_add, show Nat.log2 v + (23 - Nat.log2 v) = 23 by omega] at this; omega
  refine ⟨?_, b1, b2, hl⟩
  unfold RD rung
  rw [hk, hlast, hkept, hB, hl0, hinf]
  have hne2 : v * 2 ^ k ≠ 0 := Nat.ne_of_gt (Nat.mul_pos h0 (Nat.two_pow_pos _))
  rw [if_neg hne2]
  clear hkept hlast h1 h2 hne2
  generalize (if 24 ≤ Nat.log2 v then rne v (Nat.log2 v - 23) else v * 2 ^ (23 - Nat.log2 v)) = K at *
  have e1 : Nat.log2 v + k - 23 - 1151 = ((Nat.log2 v : Int) + e + 126).toNat := by omega
  rw [e1, Nat.min_eq_left (by omega)]
theorem rk_inj {a b : Int} (ha : 0 ≤ a ∧ a < 4294967296) (hb : 0 ≤ b ∧ b < 4294967296) (h : rk a = rk b) (h0 : rk a ≠ 0) : a = b := by
  unfold rk at h h0
  split at h <;> split at h <;> (try split at h0) <;> omega
/-- A number's float, told: its bits. -/
theorem told_bits {x : Option Nat} {n X : Int} {v : Nat} {e : Int} {lo hi : Int} (h : At x X) (hX : X = n * ((2 ^ (e + 1300).toNat : Nat) : Int)) (hn : n ≠ 0) (hv : n.natAbs = v) (hv2 : v < 4294967296) (he : -100 ≤ e ∧ e ≤ 60)
    (h1 : sv S lo ≤ X) (h2 : X ≤ sv S hi) (hlo : -2139095040 < lo) (hlo' : lo ≤ 2139095040) (hhi : hi < 2139095040) (hhi' : -2139095040 ≤ hi) : T x = (if n < 0 then 2147483648 else 0) + ((RD v e : Nat) : Int) := by
  obtain ⟨_, t1, _, _, t4, t5⟩ := h.told h1 h2 hlo hlo' hhi hhi'
  have hRD := RD_eq (v := v) (e := e) (by omega) hv2 he
  have hb : RD v e < 2139095040 ∧ 0 < RD v e := by
    obtain ⟨g1, g2, g3, g4⟩ := hRD
    rw [g1]; generalize (if 24 ≤ Nat.log2 v then rne v (Nat.log2 v - 23) else v * 2 ^ (23 - Nat.log2 v)) = K at *; omega
  clear hRD
  have hSR : SR S X = if n < 0 then -((RD v e : Nat) : Int) else ((RD v e : Nat) : Int) := by
    have hp : (0 : Int) < ((2 ^ (e + 1300).toNat : Nat) : Int) := Int.natCast_pos.2 (Nat.two_pow_pos _)
    have hab : X.natAbs = v * 2 ^ (e + 1300).toNat := by rw [hX, Int.natAbs_mul, Int.natAbs_natCast, hv]
    unfold SR
    rw [hab]
    by_cases c : n < 0
    · rw [if_pos c, if_pos (by rw [hX]; exact Int.mul_neg_of_neg_of_pos c hp)]; rfl
    · rw [if_neg c, if_neg (by rw [hX]; have := Int.mul_pos (show 0 < n by omega) hp; exact Int.not_lt.2 (Int.le_of_lt this))]; rfl
  rw [hSR] at t1
  generalize RD v e = R at *
  clear h1 h2 hX h hSR
  by_cases c : n < 0
  · rw [if_pos c] at t1 ⊢
    refine rk_inj ⟨t4, t5⟩ (by omega) ?_ (by omega)
    rw [t1]; unfold rk; rw [if_neg (by omega)]; omega
  · rw [if_neg c] at t1 ⊢
    refine rk_inj ⟨t4, t5⟩ (by omega) ?_ (by omega)
    rw [t1]; unfold rk; rw [if_pos (by omega)]; omega
/-! ### Steps of the walks -/
theorem shr1 (v k : Nat) : ((v / 2 ^ k : Nat) : Int) / 2 ^ 1 = ((v / 2 ^ (k + 1) : Nat) : Int) := by
  rw [Nat.pow_succ, ← Nat.div_div_eq_div_mul]
  generalize v / 2 ^ k = a
  show (a : Int) / 2 = _; omega
theorem pow_cast (i : Nat) : ((2 ^ i : Nat) : Int) = (2 : Int) ^ i := by rw [Int.natCast_pow]; rfl
theorem shr_nat (v i : Nat) : ((v : Nat) : Int) / 2 ^ i = ((v / 2 ^ i : Nat) : Int) := by rw [← pow_cast]; rfl
theorem shl_nat {v i : Nat} (h : v * 2 ^ i < 18446744073709551616) : IntKind.u64.wrap (((v : Nat) : Int) * 2 ^ i) = ((v * 2 ^ i : Nat) : Int) := by
  rw [← pow_cast, ← Int.natCast_mul]; exact Sx.wu64b (by omega)
theorem bits_more {v k : Nat} (h : (0 : Int) < ((v / 2 ^ k : Nat) : Int)) : k ≤ Nat.log2 v := by
  have hp := Nat.two_pow_pos k
  have h1 : 0 < v / 2 ^ k := by
    generalize v / 2 ^ k = q at *
    omega
  have h2 : 2 ^ k ≤ v := by
    rcases Nat.lt_or_ge v (2 ^ k) with c | c
    · rw [Nat.div_eq_of_lt c] at h1; omega
    · exact c
  have hv : v ≠ 0 := by omega
  rw [Nat.le_log2 hv]; exact h2
theorem bits_end {v k : Nat} (hv : 0 < v) (h : ¬ (0 : Int) < ((v / 2 ^ k : Nat) : Int)) (hk : k ≤ Nat.log2 v + 1) : k = Nat.log2 v + 1 := by
  have hp := Nat.two_pow_pos k
  have h1 : v / 2 ^ k = 0 := by
    generalize v / 2 ^ k = q at *
    omega
  have h2 : v < 2 ^ k := by
    rcases Nat.lt_or_ge v (2 ^ k) with c | c
    · exact c
    · have := (Nat.le_div_iff_mul_le hp).2 (show 1 * 2 ^ k ≤ v by omega); omega
  have := (Nat.log2_lt (show v ≠ 0 by omega)).2 h2
  omega
theorem log_le {v : Nat} (h0 : 0 < v) (hv : v < 4294967296) : Nat.log2 v ≤ 31 := by
  have := (Nat.log2_lt (show v ≠ 0 by omega)).2 (show v < 2 ^ 32 from hv); omega
theorem bt_far {v i : Nat} (hv : v < 4294967296) (hi : 32 ≤ i) : bt v i = 0 := by
  unfold bt
  have : v / 2 ^ i = 0 := Nat.div_eq_of_lt (Nat.lt_of_lt_of_le (show v < 2 ^ 32 from hv) (Nat.pow_le_pow_right (by decide) hi))
  rw [this]
theorem or_zero {x : Nat} (h : x < 4294967296) : IntKind.u32.wrap (if BinOp.or = BinOp.and then (BitVec.ofInt IntKind.u32.bits 0 &&& BitVec.ofInt IntKind.u32.bits ((x : Nat) : Int)).toNat else (BitVec.ofInt IntKind.u32.bits 0 ||| BitVec.ofInt IntKind.u32.bits ((x : Nat) : Int)).toNat : Nat) = ((x : Nat) : Int) := by
  rw [if_neg (by decide)]
  have e : IntKind.u32.bits = 32 := rfl
  rw [e, BitVec.toNat_or, BitVec.toNat_ofInt, BitVec.toNat_ofInt]
  have e1 : ((0 : Int) % ((2 ^ 32 : Nat) : Int)).toNat = 0 := by decide
  have e2 : (((x : Nat) : Int) % ((2 ^ 32 : Nat) : Int)).toNat = x := by omega
  rw [e1, e2, Nat.zero_or, Sx.wu32]; omega
theorem q32 {n : Nat} (h : n < 32) : IntKind.i64.wrap (Int.tdiv ((n : Nat) : Int) 32) = 0 := by
  have h1 : Int.tdiv ((n : Nat) : Int) 32 = ((n / 32 : Nat) : Int) := rfl
  rw [h1, IntKind.wrap_i64]; omega
theorem rd1 {w : Go.World} {b o : Nat} {x : Value} {xs : List Value} (h : Sx.Rd w b o (x :: xs)) : Sx.Rd w b o [x] := fun j v hj => by
  cases j with
  | zero => exact h 0 v hj
  | succ j => simp at hj
theorem again_bit {v i : Nat} {rb : Bool} (hp : rb = true ↔ v % 2 ^ i ≠ 0) (h : (!rb) = true) : (decide (((bt v i : Nat) : Int) = 1) = true ↔ v % 2 ^ (i + 1) ≠ 0) := by
  have h0 : v % 2 ^ i = 0 := by
    rcases Nat.eq_zero_or_pos (v % 2 ^ i) with q | q
    · exact q
    · have := hp.2 (by omega); rw [this] at h; cases h
  rw [decide_eq_true_iff, low_step h0]; omega
theorem or_bit {v i : Nat} {rb : Bool} (hp : rb = true ↔ v % 2 ^ i ≠ 0) (h : rb = false) : (decide (((bt v i : Nat) : Int) = 1) = true ↔ v % 2 ^ (i + 1) ≠ 0) := again_bit hp (by rw [h]; rfl)
theorem more_bit {v i : Nat} {rb : Bool} (hp : rb = true ↔ v % 2 ^ i ≠ 0) (h : rb = true) : (true = true ↔ v % 2 ^ (i + 1) ≠ 0) := ⟨fun _ => low_mono (Nat.le_succ i) (hp.1 h), fun _ => rfl⟩
theorem exit_bit {v i d : Nat} {rb : Bool} (hp : i ≤ d ∧ (rb = true ↔ v % 2 ^ i ≠ 0)) (h : i = d ∨ rb = true) : rb = true ↔ v % 2 ^ d ≠ 0 := by
  rcases h with rfl | h
  · exact hp.2
  · exact ⟨fun _ => low_mono hp.1 (hp.2.1 h), fun _ => h⟩
theorem start_bit (v : Nat) : (false = true) ↔ v % 2 ^ 0 ≠ 0 := by simp [Nat.mod_one]
theorem quo_facts {v : Nat} (h : 24 ≤ Nat.log2 v) : 8388608 ≤ v / 2 ^ (Nat.log2 v - 23) ∧ v / 2 ^ (Nat.log2 v - 23) < 16777216 := by
  have hne : v ≠ 0 := by intro q; rw [q] at h; simp [Nat.log2_def] at h
  have h1 := Nat.log2_self_le hne
  have h2 : v < 2 ^ (Nat.log2 v + 1) := Nat.lt_log2_self
  constructor
  · show 2 ^ 23 ≤ _
    rw [Nat.le_div_iff_mul_le (Nat.two_pow_pos _), ← Nat.pow_add, show 23 + (Nat.log2 v - 23) = Nat.log2 v by omega]; exact h1
  · show _ < 2 ^ 24
    rw [Nat.div_lt_iff_lt_mul (Nat.two_pow_pos _), ← Nat.pow_add, show 24 + (Nat.log2 v - 23) = Nat.log2 v + 1 by omega]; exact h2
theorem log_23 {q : Nat} (h1 : 8388608 ≤ q) (h2 : q < 16777216) : Nat.log2 q = 23 := log2_of (show 2 ^ 23 ≤ q from h1) (show q < 2 ^ 24 from h2)
theorem up_facts {v : Nat} (h0 : 0 < v) (h : ¬ 24 ≤ Nat.log2 v) : 8388608 ≤ v * 2 ^ (23 - Nat.log2 v) ∧ v * 2 ^ (23 - Nat.log2 v) < 16777216 := by
  have hne : v ≠ 0 := by omega
  have h1 := Nat.log2_self_le hne
  have h2 : v < 2 ^ (Nat.log2 v + 1) := Nat.lt_log2_self
  constructor
  · have : 2 ^ Nat.log2 v * 2 ^ (23 - Nat.log2 v) ≤ v * 2 ^ (23 - Nat.log2 v) := Nat.mul_le_mul_right _ h1
    rw [← Nat.pow_add, show Nat.log2 v + (23 - Nat.log2 v) = 23 by omega] at this; exact this
  · have : v * 2 ^ (23 - Nat.log2 v) < 2 ^ (Nat.log2 v + 1) * 2 ^ (23 - Nat.log2 v) := Nat.mul_lt_mul_of_pos_right h2 (Nat.two_pow_pos _)
    rw [← Nat.pow_add, show Nat.log2 v + 1 + (23 - Nat.log2 v) = 24 by omega] at this; exact this
def sg (ng : Bool) : Int := if ng then 2147483648 else 0
theorem or_add {k x y : Nat} {X Y : Int} (hX : X = ((x * 2 ^ k : Nat) : Int)) (hY : Y = ((y : Nat) : Int)) (hy : y < 2 ^ k) (hb : x * 2 ^ k + y < 18446744073709551616) : IntKind.u64.wrap (if BinOp.or = BinOp.and then (BitVec.ofInt IntKind.u64.bits X &&& BitVec.ofInt IntKind.u64.bits Y).toNat else (BitVec.ofInt IntKind.u64.bits X ||| BitVec.ofInt IntKind.u64.bits Y).toNat : Nat) = ((x * 2 ^ k + y : Nat) : Int) := by
  subst hX hY
  rw [if_neg (by decide)]
  have e : IntKind.u64.bits = 64 := rfl
  rw [e, BitVec.toNat_or, BitVec.toNat_ofInt, BitVec.toNat_ofInt]
  have e1 : (((x * 2 ^ k : Nat) : Int) % ((2 ^ 64 : Nat) : Int)).toNat = x * 2 ^ k := by generalize x * 2 ^ k = z at *; omega
  have e2 : (((y : Nat) : Int) % ((2 ^ 64 : Nat) : Int)).toNat = y := by generalize x * 2 ^ k = z at *; omega
  rw [e1, e2, Nat.mul_comm, ← Nat.two_pow_add_eq_or_of_lt hy]
  exact Sx.wu64b (by rw [Nat.mul_comm] at hb; generalize 2 ^ k * x = z at *; omega)
theorem or_sign {ng : Bool} {E : Nat} (hE : E < 256) {Y : Int} (hY : Y = ((E : Nat) : Int) * 8388608) : IntKind.u64.wrap (if BinOp.or = BinOp.and then (BitVec.ofInt IntKind.u64.bits (sg ng) &&& BitVec.ofInt IntKind.u64.bits Y).toNat else (BitVec.ofInt IntKind.u64.bits (sg ng) ||| BitVec.ofInt IntKind.u64.bits Y).toNat : Nat) = sg ng + ((E * 8388608 : Nat) : Int) := by
  have h := or_add (k := 31) (x := ng.toNat) (y := E * 8388608) (X := sg ng) (Y := Y) (by cases ng <;> rfl) (by rw [hY]; omega) (by show _ < 2147483648; omega) (by cases ng <;> simp <;> omega)
  rw [h]; cases ng <;> simp [sg] <;> omega
theorem or_low {ng : Bool} {E f : Nat} (hE : E < 256) (hf : f < 8388608) : IntKind.u64.wrap (if BinOp.or = BinOp.and then (BitVec.ofInt IntKind.u64.bits (sg ng + ((E * 8388608 : Nat) : Int)) &&& BitVec.ofInt IntKind.u64.bits ((f : Nat) : Int)).toNat else (BitVec.ofInt IntKind.u64.bits (sg ng + ((E * 8388608 : Nat) : Int)) ||| BitVec.ofInt IntKind.u64.bits ((f : Nat) : Int)).toNat : Nat) = sg ng + ((E * 8388608 + f : Nat) : Int) := by
  have h := or_add (k := 23) (x := ng.toNat * 256 + E) (y := f) (X := sg ng + ((E * 8388608 : Nat) : Int)) (Y := ((f : Nat) : Int)) (by cases ng <;> simp [sg] <;> omega) rfl (by show f < 8388608; exact hf) (by cases ng <;> simp <;> omega)
  rw [h]; cases ng <;> simp [sg] <;> omega
/-- The ways through Round. -/
theorem kept_up {v : Nat} (h : 24 ≤ Nat.log2 v) (h1 : bt v (Nat.log2 v - 24) = 1) (h2 : v % 2 ^ (Nat.log2 v - 24) ≠ 0 ∨ bt (v / 2 ^ (Nat.log2 v - 23)) 0 = 1) : rne v (Nat.log2 v - 23) = v / 2 ^ (Nat.log2 v - 23) + 1 := by
  rw [rne_bits (by omega), show Nat.log2 v - 23 - 1 = Nat.log2 v - 24 by omega, if_pos ⟨h1, h2.imp id (fun q => by unfold bt at q; simpa using q)⟩]
theorem kept_no {v : Nat} (h : 24 ≤ Nat.log2 v) (h1 : ¬ (bt v (Nat.log2 v - 24) = 1 ∧ (v % 2 ^ (Nat.log2 v - 24) ≠ 0 ∨ bt (v / 2 ^ (Nat.log2 v - 23)) 0 = 1))) : rne v (Nat.log2 v - 23) = v / 2 ^ (Nat.log2 v - 23) := by
  rw [rne_bits (by omega), show Nat.log2 v - 23 - 1 = Nat.log2 v - 24 by omega, if_neg (fun q => h1 ⟨q.1, q.2.imp id (fun z => by unfold bt; simpa using z)⟩), Nat.add_zero]
theorem RD_of {v K E f : Nat} {e : Int} (h0 : 0 < v) (hv : v < 4294967296) (he : -100 ≤ e ∧ e ≤ 60) (hK : (if 24 ≤ Nat.log2 v then rne v (Nat.log2 v - 23) else v * 2 ^ (23 - Nat.log2 v)) = K) (hE : (E * 8388608 + f : Nat) = ((Nat.log2 v : Int) + e + 126).toNat * 8388608 + K) : (E * 8388608 + f : Nat) = RD v e := by
  have := (RD_eq h0 hv he).1
  rw [hK] at this; rw [this, hE]
theorem is_24 {q : Nat} (h1 : q ≤ 16777216) (h2 : 24 ≤ Nat.log2 q) : q = 16777216 := by
  have hne : q ≠ 0 := by intro z; rw [z] at h2; simp [Nat.log2_def] at h2
  have h := Nat.log2_self_le hne
  have : 2 ^ 24 ≤ 2 ^ Nat.log2 q := Nat.pow_le_pow_right (by decide) h2
  have h24 : (2 : Nat) ^ 24 = 16777216 := by decide
  omega
theorem lt_24 {q : Nat} (h : Nat.log2 q ≤ 23) : q < 16777216 := by
  have h1 : q < 2 ^ (Nat.log2 q + 1) := Nat.lt_log2_self
  have : 2 ^ (Nat.log2 q + 1) ≤ 2 ^ 24 := Nat.pow_le_pow_right (by decide) (by omega)
  have h24 : (2 : Nat) ^ 24 = 16777216 := by decide
  omega
theorem RD_bd {v : Nat} {e : Int} {ng : Bool} (hv : 0 < v ∧ v < 4294967296) (he : -100 ≤ e ∧ e ≤ 60) : 0 ≤ sg ng + ((RD v e : Nat) : Int) ∧ sg ng + ((RD v e : Nat) : Int) ≤ 4294967295 := by
  obtain ⟨h1, h2, h3, h4⟩ := RD_eq hv.1 hv.2 he
  rw [h1]
  generalize (if 24 ≤ Nat.log2 v then rne v (Nat.log2 v - 23) else v * 2 ^ (23 - Nat.log2 v)) = K at *
  unfold sg; split <;> omega
theorem up_n {v n : Nat} (hn : 1 ≤ n) (h1 : bt v (n - 1) = 1) (h2 : v % 2 ^ (n - 1) ≠ 0 ∨ bt (v / 2 ^ n) 0 = 1) : rne v n = v / 2 ^ n + 1 := by
  rw [rne_bits hn, if_pos ⟨h1, h2.imp id (fun q => by unfold bt at q; simpa using q)⟩]
theorem no_n {v n : Nat} (hn : 1 ≤ n) (h1 : ¬ (bt v (n - 1) = 1 ∧ (v % 2 ^ (n - 1) ≠ 0 ∨ bt (v / 2 ^ n) 0 = 1))) : rne v n = v / 2 ^ n := by
  rw [rne_bits hn, if_neg (fun q => h1 ⟨q.1, q.2.imp id (fun z => by unfold bt; simpa using z)⟩), Nat.add_zero]
theorem div_far {v n : Nat} (hv : v < 16777216) (hn : 24 ≤ n) : v / 2 ^ n = 0 := Nat.div_eq_of_lt (Nat.lt_of_lt_of_le (show v < 2 ^ 24 from hv) (Nat.pow_le_pow_right (by decide) hn))
theorem bt_far24 {v i : Nat} (hv : v < 16777216) (hi : 24 ≤ i) : bt v i = 0 := by unfold bt; rw [div_far hv hi]
end Lg
