/- Lifts of keys, in plain Lean. No program is named here. -/
import Derived.Test.YtbhjadkgeadpiaaBt
import Derived.Test.YtbhjadkgeadpiaaSx
namespace Go.Proofs.Ytbhjadkgeadpiaa.Sp
open Go
set_option linter.unusedVariables false
theorem wi32 {a : Int} (h : 0 ≤ a ∧ a < 4294967296) : IntKind.i32.wrap a = if a < 2147483648 then a else a - 4294967296 := by
  simp [IntKind.wrap, IntKind.bits, IntKind.signed]
  split <;> split <;> omega
/-- The half of a difference of keys, rounded down. -/
def hv (d : Int) : Int := ((if d < 2147483648 then d else d - 4294967296) / 2) % 4294967296
theorem hv_bd (d : Int) : 0 ≤ hv d ∧ hv d < 4294967296 := by unfold hv; omega
def lft (r g b : Int) : Int × Int × Int :=
  (Bt.unkey (((Bt.key b + hv ((Bt.key r - Bt.key b) % 4294967296)) % 4294967296 + hv ((Bt.key g - (Bt.key b + hv ((Bt.key r - Bt.key b) % 4294967296)) % 4294967296) % 4294967296)) % 4294967296),
   Bt.unkey (((Bt.key g - (Bt.key b + hv ((Bt.key r - Bt.key b) % 4294967296)) % 4294967296) % 4294967296 + 2147483648) % 4294967296),
   Bt.unkey (((Bt.key r - Bt.key b) % 4294967296 + 2147483648) % 4294967296))
def drp (y g o : Int) : Int × Int × Int :=
    (Bt.unkey (((((Bt.key y - hv ((Bt.key g - 2147483648) % 4294967296)) % 4294967296 - hv ((Bt.key o - 2147483648) % 4294967296)) % 4294967296) + (Bt.key o - 2147483648) % 4294967296) % 4294967296),
     Bt.unkey (((Bt.key g - 2147483648) % 4294967296 + (Bt.key y - hv ((Bt.key g - 2147483648) % 4294967296)) % 4294967296) % 4294967296),
     Bt.unkey (((Bt.key y - hv ((Bt.key g - 2147483648) % 4294967296)) % 4294967296 - hv ((Bt.key o - 2147483648) % 4294967296)) % 4294967296))
def u3 (p : Int × Int × Int) : Prop := (0 ≤ p.1 ∧ p.1 < 4294967296) ∧ (0 ≤ p.2.1 ∧ p.2.1 < 4294967296) ∧ (0 ≤ p.2.2 ∧ p.2.2 < 4294967296)
theorem unkey_bd {k : Int} (h : 0 ≤ k ∧ k < 4294967296) : 0 ≤ Bt.unkey k ∧ Bt.unkey k < 4294967296 := by unfold Bt.unkey; split <;> omega
theorem lft_bd (r g b : Int) : u3 (lft r g b) := ⟨unkey_bd (by omega), unkey_bd (by omega), unkey_bd (by omega)⟩
theorem drp_bd (r g b : Int) : u3 (drp r g b) := ⟨unkey_bd (by omega), unkey_bd (by omega), unkey_bd (by omega)⟩
theorem drp_lft {a b c : Int} (ha : 0 ≤ a ∧ a < 4294967296) (hb : 0 ≤ b ∧ b < 4294967296) (hc : 0 ≤ c ∧ c < 4294967296) : drp (lft a b c).1 (lft a b c).2.1 (lft a b c).2.2 = (a, b, c) := by
  have ka := Bt.key_bd ha; have kb := Bt.key_bd hb; have kc := Bt.key_bd hc
  have e1 : (Bt.key (lft a b c).2.1 - 2147483648) % 4294967296 = (Bt.key b - (Bt.key c + hv ((Bt.key a - Bt.key c) % 4294967296)) % 4294967296) % 4294967296 := by
    unfold lft; dsimp only; rw [Bt.key_unkey (by omega)]; omega
  have e2 : (Bt.key (lft a b c).2.2 - 2147483648) % 4294967296 = (Bt.key a - Bt.key c) % 4294967296 := by
    unfold lft; dsimp only; rw [Bt.key_unkey (by omega)]; omega
  have e3 : (Bt.key (lft a b c).1 - hv ((Bt.key b - (Bt.key c + hv ((Bt.key a - Bt.key c) % 4294967296)) % 4294967296) % 4294967296)) % 4294967296 = (Bt.key c + hv ((Bt.key a - Bt.key c) % 4294967296)) % 4294967296 := by
    unfold lft; dsimp only; rw [Bt.key_unkey (by omega)]; omega
  unfold drp
  simp only [e1, e2, e3]
  generalize hv ((Bt.key a - Bt.key c) % 4294967296) = p
  refine Prod.ext ?_ (Prod.ext ?_ ?_) <;> dsimp only
  · rw [show (((Bt.key c + p) % 4294967296 - p) % 4294967296 + (Bt.key a - Bt.key c) % 4294967296) % 4294967296 = Bt.key a by omega, Bt.unkey_key ha]
  · rw [show ((Bt.key b - (Bt.key c + p) % 4294967296) % 4294967296 + (Bt.key c + p) % 4294967296) % 4294967296 = Bt.key b by omega, Bt.unkey_key hb]
  · rw [show ((Bt.key c + p) % 4294967296 - p) % 4294967296 = Bt.key c by omega, Bt.unkey_key hc]
theorem lft_drp {a b c : Int} (ha : 0 ≤ a ∧ a < 4294967296) (hb : 0 ≤ b ∧ b < 4294967296) (hc : 0 ≤ c ∧ c < 4294967296) : lft (drp a b c).1 (drp a b c).2.1 (drp a b c).2.2 = (a, b, c) := by
  have ka := Bt.key_bd ha; have kb := Bt.key_bd hb; have kc := Bt.key_bd hc
  have e1 : Bt.key (drp a b c).1 = ((((Bt.key a - hv ((Bt.key b - 2147483648) % 4294967296)) % 4294967296 - hv ((Bt.key c - 2147483648) % 4294967296)) % 4294967296) + (Bt.key c - 2147483648) % 4294967296) % 4294967296 := by
    unfold drp; dsimp only; rw [Bt.key_unkey (by omega)]
  have e2 : Bt.key (drp a b c).2.1 = ((Bt.key b - 2147483648) % 4294967296 + (Bt.key a - hv ((Bt.key b - 2147483648) % 4294967296)) % 4294967296) % 4294967296 := by
    unfold drp; dsimp only; rw [Bt.key_unkey (by omega)]
  have e3 : Bt.key (drp a b c).2.2 = ((Bt.key a - hv ((Bt.key b - 2147483648) % 4294967296)) % 4294967296 - hv ((Bt.key c - 2147483648) % 4294967296)) % 4294967296 := by
    unfold drp; dsimp only; rw [Bt.key_unkey (by omega)]
  have f1 : (Bt.key (drp a b c).1 - Bt.key (drp a b c).2.2) % 4294967296 = (Bt.key c - 2147483648) % 4294967296 := by rw [e1, e3]; omega
  have f2 : (Bt.key (drp a b c).2.2 + hv ((Bt.key c - 2147483648) % 4294967296)) % 4294967296 = (Bt.key a - hv ((Bt.key b - 2147483648) % 4294967296)) % 4294967296 := by rw [e3]; omega
  have f3 : (Bt.key (drp a b c).2.1 - (Bt.key a - hv ((Bt.key b - 2147483648) % 4294967296)) % 4294967296) % 4294967296 = (Bt.key b - 2147483648) % 4294967296 := by rw [e2]; omega
  unfold lft
  simp only [f1, f2, f3]
  refine Prod.ext ?_ (Prod.ext ?_ ?_) <;> dsimp only
  · rw [show ((Bt.key a - hv ((Bt.key b - 2147483648) % 4294967296)) % 4294967296 + hv ((Bt.key b - 2147483648) % 4294967296)) % 4294967296 = Bt.key a by omega, Bt.unkey_key ha]
  · rw [show ((Bt.key b - 2147483648) % 4294967296 + 2147483648) % 4294967296 = Bt.key b by omega, Bt.unkey_key hb]
  · rw [show ((Bt.key c - 2147483648) % 4294967296 + 2147483648) % 4294967296 = Bt.key c by omega, Bt.unkey_key hc]
/-- A mask of the low 32 bits of an int64. -/
theorem and64 (X : Int) : IntKind.i64.wrap (if BinOp.and = BinOp.and then (BitVec.ofInt IntKind.i64.bits X &&& BitVec.ofInt IntKind.i64.bits 4294967295).toNat else (BitVec.ofInt IntKind.i64.bits X ||| BitVec.ofInt IntKind.i64.bits 4294967295).toNat : Nat) = X % 4294967296 := by
  rw [if_pos rfl, BitVec.toNat_and, BitVec.toNat_ofInt, BitVec.toNat_ofInt]
  have e1 : ((4294967295 : Int) % ((2 ^ IntKind.i64.bits : Nat) : Int)).toNat = 2 ^ 32 - 1 := by decide
  rw [e1, Nat.and_two_pow_sub_one_eq_mod]
  have e2 : ((2 ^ IntKind.i64.bits : Nat) : Int) = 18446744073709551616 := by decide
  rw [e2, show (2 : Nat) ^ 32 = 4294967296 by decide, Sx.w64 (by omega)]
  omega
end Go.Proofs.Ytbhjadkgeadpiaa.Sp
