/- A sample's bits in whole numbers: keys, neighbours, classes, parts, and the sample of two numbers. No program is named here. -/
import Derived.Test.YtiikkhbmhojbaaaSx
namespace Go.Proofs.Ytiikkhbmhojbaaa.Bt
set_option linter.unusedVariables false

def key (s : Int) : Int := if s < 2147483648 then s + 2147483648 else 4294967295 - s
def unkey (k : Int) : Int := if 2147483648 ≤ k then k - 2147483648 else 4294967295 - k
theorem key_bd {s : Int} (h : 0 ≤ s ∧ s < 4294967296) : 0 ≤ key s ∧ key s < 4294967296 := by unfold key; split <;> omega
theorem unkey_bd {s : Int} (h : 0 ≤ s ∧ s < 4294967296) : 0 ≤ unkey s ∧ unkey s < 4294967296 := by unfold unkey; split <;> omega
theorem unkey_key {s : Int} (h : 0 ≤ s ∧ s < 4294967296) : unkey (key s) = s := by unfold key unkey; split <;> split <;> omega
theorem key_unkey {s : Int} (h : 0 ≤ s ∧ s < 4294967296) : key (unkey s) = s := by unfold key unkey; split <;> split <;> omega
def nxt (s : Int) : Int × Bool := if key s = 4294967295 then (0, false) else (unkey (key s + 1), true)
def prv (s : Int) : Int × Bool := if key s = 0 then (0, false) else (unkey (key s - 1), true)
def cls (s : Int) : Int := if s / 8388608 % 256 = 255 then (if s % 8388608 = 0 then 2 else 1) else if s / 8388608 % 256 = 0 then (if s % 8388608 = 0 then 5 else 4) else 3
def mant (s : Int) : Int := if s / 8388608 % 256 = 0 then s % 8388608 else s % 8388608 + 8388608
def expo (s : Int) : Int := if s / 8388608 % 256 = 0 then -149 else s / 8388608 % 256 - 150
def prts (s : Int) : Int × Int × Bool :=
  if s / 8388608 % 256 = 255 then (0, 0, false) else (if 2147483648 ≤ s then -mant s else mant s, expo s, true)
def mde (s : Int) : Int := if cls s = 1 then 2143289344 else s
def lst (a b : Int) : Int := if key b < key a then b else a
def gst (a b : Int) : Int := if key a < key b then b else a
def med (a b c : Int) : Int := gst (lst a b) (lst (gst a b) c)
def btw (s lo hi : Int) : Int := lst (gst s lo) hi
theorem lst_in (a b : Int) : lst a b = a ∨ lst a b = b := by unfold lst; split <;> simp
theorem gst_in (a b : Int) : gst a b = a ∨ gst a b = b := by unfold gst; split <;> simp
theorem key_inj {a b : Int} (ha : 0 ≤ a ∧ a < 4294967296) (hb : 0 ≤ b ∧ b < 4294967296) (h : key a = key b) : a = b := by rw [← unkey_key ha, ← unkey_key hb, h]

theorem lst_bd' {a b : Int} (ha : 0 ≤ a ∧ a < 4294967296) (hb : 0 ≤ b ∧ b < 4294967296) : 0 ≤ lst a b ∧ lst a b < 4294967296 := by rcases lst_in a b with h | h <;> rw [h] <;> assumption
theorem gst_bd' {a b : Int} (ha : 0 ≤ a ∧ a < 4294967296) (hb : 0 ≤ b ∧ b < 4294967296) : 0 ≤ gst a b ∧ gst a b < 4294967296 := by rcases gst_in a b with h | h <;> rw [h] <;> assumption
theorem key_lst (a b : Int) : key (lst a b) = min (key a) (key b) := by unfold lst; split <;> omega
theorem key_gst (a b : Int) : key (gst a b) = max (key a) (key b) := by unfold gst; split <;> omega
theorem key_med (a b c : Int) : key (med a b c) = max (min (key a) (key b)) (min (max (key a) (key b)) (key c)) := by unfold med; rw [key_gst, key_lst, key_lst, key_gst]
theorem key_btw (s lo hi : Int) : key (btw s lo hi) = min (max (key s) (key lo)) (key hi) := by unfold btw; rw [key_lst, key_gst]
theorem m3_a (x y z : Int) : max (min x y) (min (max x y) z) = max (min y z) (min (max y z) x) := by
  rcases Int.le_total x y with h1 | h1 <;> rcases Int.le_total y z with h2 | h2 <;> rcases Int.le_total x z with h3 | h3 <;> simp [Int.min_eq_left, Int.min_eq_right, Int.max_eq_left, Int.max_eq_right, *] <;> omega
theorem m3_b (x y z : Int) : max (min x y) (min (max x y) z) = max (min y x) (min (max y x) z) := by rw [Int.min_comm x y, Int.max_comm x y]
theorem med_a {a b c : Int} (ha : 0 ≤ a ∧ a < 4294967296) (hb : 0 ≤ b ∧ b < 4294967296) (hc : 0 ≤ c ∧ c < 4294967296) : med a b c = med b c a :=
  key_inj (gst_bd' (lst_bd' ha hb) (lst_bd' (gst_bd' ha hb) hc)) (gst_bd' (lst_bd' hb hc) (lst_bd' (gst_bd' hb hc) ha)) (by rw [key_med, key_med]; exact m3_a _ _ _)
theorem med_b {a b c : Int} (ha : 0 ≤ a ∧ a < 4294967296) (hb : 0 ≤ b ∧ b < 4294967296) (hc : 0 ≤ c ∧ c < 4294967296) : med a b c = med b a c :=
  key_inj (gst_bd' (lst_bd' ha hb) (lst_bd' (gst_bd' ha hb) hc)) (gst_bd' (lst_bd' hb ha) (lst_bd' (gst_bd' hb ha) hc)) (by rw [key_med, key_med]; exact m3_b _ _ _)
theorem med_c {a b c : Int} (ha : 0 ≤ a ∧ a < 4294967296) (hb : 0 ≤ b ∧ b < 4294967296) (hc : 0 ≤ c ∧ c < 4294967296) : med a b c = med c b a := by
  rw [med_a ha hb hc, med_b hb hc ha]
def smp (a : Int) : Prop := 0 ≤ a ∧ a < 4294967296
theorem lst_bd {a b : Int} (ha : 0 ≤ a ∧ a < 4294967296) (hb : 0 ≤ b ∧ b < 4294967296) : 0 ≤ lst a b ∧ lst a b < 4294967296 := by rcases lst_in a b with h | h <;> rw [h] <;> assumption
theorem gst_bd {a b : Int} (ha : 0 ≤ a ∧ a < 4294967296) (hb : 0 ≤ b ∧ b < 4294967296) : 0 ≤ gst a b ∧ gst a b < 4294967296 := by rcases gst_in a b with h | h <;> rw [h] <;> assumption
theorem med_bd {a b c : Int} (ha : 0 ≤ a ∧ a < 4294967296) (hb : 0 ≤ b ∧ b < 4294967296) (hc : 0 ≤ c ∧ c < 4294967296) : 0 ≤ med a b c ∧ med a b c < 4294967296 := gst_bd (lst_bd ha hb) (lst_bd (gst_bd ha hb) hc)
theorem btw_bd {a b c : Int} (ha : 0 ≤ a ∧ a < 4294967296) (hb : 0 ≤ b ∧ b < 4294967296) (hc : 0 ≤ c ∧ c < 4294967296) : 0 ≤ btw a b c ∧ btw a b c < 4294967296 := lst_bd (gst_bd ha hb) hc
theorem med_in {a b c : Int} : med a b c = a ∨ med a b c = b ∨ med a b c = c := by
  unfold med
  rcases gst_in (lst a b) (lst (gst a b) c) with h | h <;> rw [h]
  · rcases lst_in a b with h | h <;> rw [h] <;> simp
  · rcases lst_in (gst a b) c with h | h <;> rw [h]
    · rcases gst_in a b with h | h <;> rw [h] <;> simp
    · simp
theorem lo_hi (b c : Int) : key (lst b c) ≤ key (gst b c) := by rw [key_lst, key_gst]; omega
theorem btw_lo {a lo hi : Int} (h : key lo ≤ key hi) : ¬ key (btw a lo hi) < key lo := by rw [key_btw]; omega
theorem btw_hi {a lo hi : Int} : ¬ key hi < key (btw a lo hi) := by rw [key_btw]; omega
theorem btw_is {a lo hi : Int} (ha : 0 ≤ a ∧ a < 4294967296) (hl : 0 ≤ lo ∧ lo < 4294967296) (hh : 0 ≤ hi ∧ hi < 4294967296) (h1 : ¬ key a < key lo) (h2 : ¬ key hi < key a) : btw a lo hi = a :=
  key_inj (btw_bd ha hl hh) ha (by rw [key_btw]; omega)
theorem btw_ne {a lo hi : Int} (h : key lo ≤ key hi) (h1 : key a < key lo ∨ key hi < key a) : btw a lo hi ≠ a := fun e => by
  have := congrArg key e
  rw [key_btw] at this
  omega
theorem nxt_one {a : Int} (ha : 0 ≤ a ∧ a < 4294967296) (h : (nxt a).2 = true) : (prv (nxt a).1).2 = true ∧ (prv (nxt a).1).1 = a ∧ key (nxt a).1 - key a = 1 ∧ 0 ≤ (nxt a).1 ∧ (nxt a).1 < 4294967296 := by
  have hk := key_bd ha
  unfold nxt at h ⊢
  split at h
  · exact absurd h (by decide)
  · rename_i hn
    rw [if_neg hn]
    dsimp only
    have h1 := key_unkey (s := key a + 1) (by omega)
    have h2 := unkey_bd (s := key a + 1) (by omega)
    unfold prv
    rw [h1, if_neg (by omega)]
    dsimp only
    rw [show key a + 1 - 1 = key a by omega, unkey_key ha]
    exact ⟨rfl, rfl, by omega, h2⟩
theorem nxt_bd {a : Int} (ha : 0 ≤ a ∧ a < 4294967296) : 0 ≤ (nxt a).1 ∧ (nxt a).1 < 4294967296 := by
  have hk := key_bd ha
  unfold nxt
  split
  · exact ⟨by decide, by decide⟩
  · have h2 := unkey_bd (s := key a + 1) (by omega); exact h2

/-! ### The sample of two numbers -/
def sgn (n : Int) : Int := if n < 0 then 2147483648 else 0
/-- Its bits, out of a size and an exponent that fit. -/
def enc (m x : Int) : Int := if m < 8388608 then m else (x + 150) * 8388608 + (m - 8388608)
def FP (n e r : Int) (ok : Bool) : Prop :=
  (n = 0 ∧ r = 0 ∧ ok = true) ∨
  (n ≠ 0 ∧ ∃ (o f : Int) (v : Nat), (n.natAbs : Int) = o * 2 ^ v ∧ o % 2 = 1 ∧ 0 < o ∧ f = e + v ∧
    ((¬ (o < 16777216 ∧ -149 ≤ f ∧ f ≤ 127) ∧ ok = false ∧ r = 0) ∨
     (o < 16777216 ∧ -149 ≤ f ∧ f ≤ 127 ∧ ∃ j : Nat, o * 2 ^ j < 16777216 ∧ -149 ≤ f - j ∧ (8388608 ≤ o * 2 ^ j ∨ f - j = -149) ∧
       ((104 < f - j ∧ ok = false ∧ r = 0) ∨ (f - j ≤ 104 ∧ ok = true ∧ r = sgn n + enc (o * 2 ^ j) (f - j))))))
theorem pow2 (v : Nat) : (0 : Int) < 2 ^ v := Int.pow_pos (by decide)
theorem odd_pow : ∀ (v w : Nat) (o p : Int), o % 2 = 1 → p % 2 = 1 → o * 2 ^ v = p * 2 ^ w → v = w ∧ o = p := by
  intro v
  induction v with
  | zero =>
    intro w o p ho hp h
    cases w with
    | zero => simp at h; exact ⟨rfl, h⟩
    | succ w => exfalso; rw [Int.pow_succ, ← Int.mul_assoc] at h; simp at h; omega
  | succ v ih =>
    intro w o p ho hp h
    cases w with
    | zero => exfalso; rw [Int.pow_succ, ← Int.mul_assoc] at h; simp at h; omega
    | succ w =>
      rw [Int.pow_succ, Int.pow_succ, ← Int.mul_assoc, ← Int.mul_assoc] at h
      have := ih w o p ho hp (by omega)
      omega
theorem lift_lt {o : Int} {i j : Nat} (ho : 0 < o) (h : i < j) : 2 * (o * 2 ^ i) ≤ o * 2 ^ j := by
  obtain ⟨k, rfl⟩ : ∃ k, j = i + 1 + k := ⟨j - (i + 1), by omega⟩
  rw [Int.pow_add, Int.pow_succ]
  have h1 : (1 : Int) ≤ 2 ^ k := by have := pow2 k; omega
  have h2 : 0 < o * 2 ^ i := Int.mul_pos ho (pow2 i)
  have h3 : o * (2 ^ i * 2 * 2 ^ k) = (o * 2 ^ i) * 2 * 2 ^ k := by simp [Int.mul_assoc]
  rw [h3]
  have h4 : (o * 2 ^ i * 2) * 1 ≤ (o * 2 ^ i * 2) * 2 ^ k := Int.mul_le_mul_of_nonneg_left h1 (by omega)
  omega
theorem lift_uniq {o f : Int} {i j : Nat} (ho : 0 < o) (hi : o * 2 ^ i < 16777216) (hi2 : -149 ≤ f - i) (hi3 : 8388608 ≤ o * 2 ^ i ∨ f - i = -149) (hj : o * 2 ^ j < 16777216) (hj2 : -149 ≤ f - j) (hj3 : 8388608 ≤ o * 2 ^ j ∨ f - j = -149) : i = j := by
  rcases Nat.lt_trichotomy i j with h | h | h
  · have := lift_lt ho h; omega
  · exact h
  · have := lift_lt ho h; omega
theorem FP.uniq {n e r r' : Int} {ok ok' : Bool} (h : FP n e r ok) (h' : FP n e r' ok') : r = r' ∧ ok = ok' := by
  rcases h with ⟨hn, hr, hk⟩ | ⟨hn, o, f, v, h1, h2, h3, h4, h⟩
  · rcases h' with ⟨hn', hr', hk'⟩ | ⟨hn', _⟩
    · rw [hr, hr', hk, hk']; exact ⟨rfl, rfl⟩
    · exact absurd hn hn'
  · rcases h' with ⟨hn', hr', hk'⟩ | ⟨hn', o', f', v', h1', h2', h3', h4', h'⟩
    · exact absurd hn' hn
    · obtain ⟨rfl, rfl⟩ := odd_pow v v' o o' h2 h2' (h1 ▸ h1')
      have hf : f = f' := by omega
      subst hf
      rcases h with ⟨hb, hk, hr⟩ | ⟨ha, hb, hc, j, hj1, hj2, hj3, h⟩
      · rcases h' with ⟨_, hk', hr'⟩ | ⟨ha', hb', hc', _⟩
        · rw [hk, hk', hr, hr']; exact ⟨rfl, rfl⟩
        · exact absurd ⟨ha', hb', hc'⟩ hb
      · rcases h' with ⟨hb', _⟩ | ⟨ha', hb', hc', j', hj1', hj2', hj3', h'⟩
        · exact absurd ⟨ha, hb, hc⟩ hb'
        · have := lift_uniq h3 hj1 hj2 hj3 hj1' hj2' hj3'
          subst this
          rcases h with ⟨hz, hk, hr⟩ | ⟨hz, hk, hr⟩ <;> rcases h' with ⟨hz', hk', hr'⟩ | ⟨hz', hk', hr'⟩
          · rw [hk, hk', hr, hr']; exact ⟨rfl, rfl⟩
          · omega
          · omega
          · rw [hk, hk', hr, hr']; exact ⟨rfl, rfl⟩
theorem odd_part : ∀ (k : Nat) (s : Int), 0 < s → s < (k : Int) → ∃ (o : Int) (v : Nat), s = o * 2 ^ v ∧ o % 2 = 1 ∧ 0 < o := by
  intro k
  induction k with
  | zero => intro s h1 h2; omega
  | succ k ih =>
    intro s h1 h2
    by_cases hs : s % 2 = 1
    · exact ⟨s, 0, by simp, hs, h1⟩
    · obtain ⟨o, v, e, h3, h4⟩ := ih (s / 2) (by omega) (by omega)
      exact ⟨o, v + 1, by rw [Int.pow_succ, ← Int.mul_assoc, ← e]; omega, h3, h4⟩
/-- The program's way to its answer: s and x before the second lift, i lifts. -/
theorem FP.prog {n e s x : Int} {j i : Nat} (hn : n ≠ 0) (hs : 0 < s) (h1 : (n.natAbs : Int) = s * 2 ^ j) (hx : x = e + j ∨ (x = e + j - 18446744073709551616 ∧ x < -149 ∧ 1000 < e + j))
    (ho : s % 2 = 1 ∨ (s < 16777216 ∧ -149 ≤ x)) (hi : i = 0 ∨ (s * 2 ^ i < 16777216 ∧ -149 ≤ x - i)) (hq : ¬ (s * 2 ^ i < 8388608 ∧ -149 < x - i)) {r : Int} {ok : Bool}
    (h : ((16777216 ≤ s * 2 ^ i ∨ x - i < -149 ∨ 104 < x - i) ∧ ok = false ∧ r = 0) ∨ (s * 2 ^ i < 16777216 ∧ -149 ≤ x - i ∧ x - i ≤ 104 ∧ ok = true ∧ r = sgn n + enc (s * 2 ^ i) (x - i))) : FP n e r ok := by
  obtain ⟨o, k, es, ho1, ho2⟩ := odd_part (s.toNat + 1) s hs (by omega)
  have en : (n.natAbs : Int) = o * 2 ^ (k + j) := by rw [h1, es, Int.pow_add, Int.mul_assoc]
  have e2 : s * 2 ^ i = o * 2 ^ (k + i) := by rw [es, Int.pow_add, Int.mul_assoc]
  have hos : o ≤ s := by
    rw [es]; have := pow2 k
    have h5 : o * 1 ≤ o * 2 ^ k := Int.mul_le_mul_of_nonneg_left (by omega) (by omega)
    omega
  have hsi : s ≤ s * 2 ^ i := by
    have := pow2 i
    have h5 : s * 1 ≤ s * 2 ^ i := Int.mul_le_mul_of_nonneg_left (by omega) (by omega)
    omega
  have hk0 : s % 2 = 1 → k = 0 := fun h => by
    cases k with
    | zero => rfl
    | succ k => exfalso; rw [Int.pow_succ, ← Int.mul_assoc] at es; omega
  have hk23 : s * 2 ^ i < 16777216 → k + i ≤ 23 := fun h => by
    rcases Nat.lt_or_ge (k + i) 24 with h' | h'
    · omega
    · exfalso
      have h6 : (2 : Int) ^ 24 ≤ 2 ^ (k + i) := by
        have := Nat.pow_le_pow_right (n := 2) (by decide) h'
        exact_mod_cast this
      have h7 : (1 : Int) * 2 ^ (k + i) ≤ o * 2 ^ (k + i) := Int.mul_le_mul_of_nonneg_right (by omega) (by omega)
      have h8 : (2 : Int) ^ 24 = 16777216 := by decide
      omega
  refine Or.inr ⟨hn, o, e + ((k + j : Nat) : Int), k + j, en, ho1, ho2, rfl, ?_⟩
  have hpi : i = 0 → s * 2 ^ i = s := fun h => by subst h; simp
  -- a state that fits: the second way
  have fits : s * 2 ^ i < 16777216 → -149 ≤ x - i → x = e + j → e + ((k + j : Nat) : Int) ≤ 127 →
      o < 16777216 ∧ -149 ≤ e + ((k + j : Nat) : Int) ∧ e + ((k + j : Nat) : Int) ≤ 127 ∧ (e + ((k + j : Nat) : Int) - ((k + i : Nat) : Int) = x - i) ∧ o * 2 ^ (k + i) < 16777216 := by
    intro a b c d
    refine ⟨by omega, by push_cast; omega, d, by push_cast; omega, by rw [← e2]; exact a⟩
  rcases h with ⟨h, hk, hr⟩ | ⟨ha, hb, hc, hk, hr⟩
  · by_cases hg : o < 16777216 ∧ -149 ≤ e + ((k + j : Nat) : Int) ∧ e + ((k + j : Nat) : Int) ≤ 127
    · right
      have hxe : x = e + j := by
        rcases hx with hx | ⟨hx, hx2, hx3⟩
        · exact hx
        · exfalso
          have : s % 2 = 1 := by rcases ho with h | h <;> omega
          have := hk0 this; subst this
          push_cast at hg; omega
      have hsm : s * 2 ^ i < 16777216 ∧ -149 ≤ x - i := by
        rcases hi with hi | hi
        · have := hpi hi; subst hi
          rcases ho with ho | ho
          · have := hk0 ho; subst this
            simp at es
            push_cast at hg
            omega
          · omega
        · exact hi
      obtain ⟨f1, f2, f3, f4, f5⟩ := fits hsm.1 hsm.2 hxe hg.2.2
      exact ⟨f1, f2, f3, k + i, f5, by rw [f4]; exact hsm.2, by rw [f4, ← e2]; omega, Or.inl ⟨by rw [f4]; omega, hk, hr⟩⟩
    · exact Or.inl ⟨hg, hk, hr⟩
  · right
    have hxe : x = e + j := by
      rcases hx with hx | ⟨hx, hx2, hx3⟩
      · exact hx
      · omega
    have h23 := hk23 ha
    obtain ⟨f1, f2, f3, f4, f5⟩ := fits ha hb hxe (by push_cast; omega)
    exact ⟨f1, f2, f3, k + i, f5, by rw [f4]; exact hb, by rw [f4, ← e2]; omega, Or.inr ⟨by rw [f4]; omega, hk, by rw [f4, ← e2]; exact hr⟩⟩
/-- The document's way: stripped of twos, then lifted. -/
theorem FP.ref_bad {n e s : Int} {j : Nat} (hn : n ≠ 0) (hs : 0 < s) (h1 : (n.natAbs : Int) = s * 2 ^ j) (h : (s % 2 = 1 ∧ ¬ (s < 16777216 ∧ -149 ≤ e + j ∧ e + j ≤ 127)) ∨ 1000 < e + j) : FP n e 0 false := by
  obtain ⟨o, k, es, ho1, ho2⟩ := odd_part (s.toNat + 1) s hs (by omega)
  have en : (n.natAbs : Int) = o * 2 ^ (k + j) := by rw [h1, es, Int.pow_add, Int.mul_assoc]
  refine Or.inr ⟨hn, o, e + ((k + j : Nat) : Int), k + j, en, ho1, ho2, rfl, Or.inl ⟨fun hg => ?_, rfl, rfl⟩⟩
  rcases h with ⟨h2, h3⟩ | h
  · cases k with
    | zero => simp at es; subst es; simp at hg; omega
    | succ k => rw [Int.pow_succ, ← Int.mul_assoc] at es; omega
  · push_cast at hg; omega
theorem FP.ref {n e s : Int} {j i : Nat} (hn : n ≠ 0) (hs : 0 < s) (h1 : (n.natAbs : Int) = s * 2 ^ j) (ho : s % 2 = 1) (hg : s < 16777216 ∧ -149 ≤ e + j ∧ e + j ≤ 127)
    (ha : s * 2 ^ i < 16777216) (hb : -149 ≤ e + j - i) (hq : ¬ (s * 2 ^ i < 8388608 ∧ -149 < e + j - i)) {r : Int} {ok : Bool}
    (h : (104 < e + j - i ∧ ok = false ∧ r = 0) ∨ (e + j - i ≤ 104 ∧ ok = true ∧ r = sgn n + enc (s * 2 ^ i) (e + j - i))) : FP n e r ok := by
  exact Or.inr ⟨hn, s, e + j, j, h1, ho, hs, rfl, Or.inr ⟨hg.1, hg.2.1, hg.2.2, i, ha, hb, by omega, h⟩⟩
theorem FP.bd {n e r : Int} {ok : Bool} (h : FP n e r ok) : 0 ≤ r ∧ r < 4294967296 := by
  rcases h with ⟨_, h, _⟩ | ⟨_, o, f, v, _, h2, h3, _, h⟩
  · omega
  · rcases h with ⟨_, _, h⟩ | ⟨_, _, _, j, hj1, hj2, hj3, h⟩
    · omega
    · rcases h with ⟨_, _, h⟩ | ⟨h5, _, h⟩
      · omega
      · have h6 : 0 < o * 2 ^ j := Int.mul_pos h3 (pow2 j)
        have h7 : sgn n = 0 ∨ sgn n = 2147483648 := by unfold sgn; split <;> simp
        rw [h]; unfold enc
        split <;> omega
theorem FP.one : FP 1 0 1065353216 true := Or.inr ⟨by decide, 1, 0, 0, by decide, by decide, by decide, by decide, Or.inr ⟨by decide, by decide, by decide, 23, by decide, by decide, by decide, Or.inr ⟨by decide, rfl, by decide⟩⟩⟩
theorem FP.low : FP 1 (-150) 0 false := Or.inr ⟨by decide, 1, -150, 0, by decide, by decide, by decide, by decide, Or.inl ⟨by decide, rfl, rfl⟩⟩
theorem FP.odd : FP 16777217 0 0 false := Or.inr ⟨by decide, 16777217, 0, 0, by decide, by decide, by decide, by decide, Or.inl ⟨by decide, rfl, rfl⟩⟩
theorem FP.m3 : FP (-3) 1 3233808384 true := Or.inr ⟨by decide, 3, 1, 0, by decide, by decide, by decide, by decide, Or.inr ⟨by decide, by decide, by decide, 22, by decide, by decide, by decide, Or.inr ⟨by decide, rfl, by decide⟩⟩⟩
def inc (y : Int) : Int := if y = 9223372036854775807 then -9223372036854775808 else y + 1
theorem inc_eq {y : Int} (h : -9223372036854775808 ≤ y ∧ y ≤ 9223372036854775807) : Go.IntKind.i64.wrap (y + 1) = inc y := by rw [Go.IntKind.wrap_i64]; unfold inc; split <;> omega
theorem inc_or {y e : Int} {j : Nat} (h : -9223372036854775808 ≤ y ∧ y ≤ 9223372036854775807) (he : e ≤ 9223372036854775807) (hj : j ≤ 62) (h2 : y = e + j ∨ y = e + j - 18446744073709551616) :
    (-9223372036854775808 ≤ inc y ∧ inc y ≤ 9223372036854775807) ∧ (inc y = e + ((j + 1 : Nat) : Int) ∨ inc y = e + ((j + 1 : Nat) : Int) - 18446744073709551616) := by unfold inc; split <;> omega
theorem pow_le {s a : Int} {j : Nat} (k : Nat) (hs : 0 < s) (h : a = s * 2 ^ j) (ha : a < 2 ^ k) : j < k := by
  rcases Nat.lt_or_ge j k with h' | h'
  · exact h'
  · exfalso
    have h6 : (2 : Int) ^ k ≤ 2 ^ j := by
      have := Nat.pow_le_pow_right (n := 2) (by decide) h'
      exact_mod_cast this
    have h7 : (1 : Int) * 2 ^ j ≤ s * 2 ^ j := Int.mul_le_mul_of_nonneg_right (by omega) (Int.le_of_lt (pow2 j))
    omega
theorem pow_step (s : Int) (i : Nat) : s * 2 ^ (i + 1) = 2 * (s * 2 ^ i) := by rw [Int.pow_succ, ← Int.mul_assoc]; omega
theorem half_step {n : Int} {s : Int} {j : Nat} (h : (n.natAbs : Int) = s * 2 ^ j) (h2 : s % 2 = 0) : (n.natAbs : Int) = s / 2 * 2 ^ (j + 1) := by
  rw [h, Int.pow_succ, Int.mul_comm (2 ^ j) 2, ← Int.mul_assoc]; congr 1; omega
end Go.Proofs.Ytiikkhbmhojbaaa.Bt
