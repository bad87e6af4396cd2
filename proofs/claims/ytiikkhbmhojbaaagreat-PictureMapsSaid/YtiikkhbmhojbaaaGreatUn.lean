/- Where two planes are unlike: the rectangle, and its sides. No program is named here. -/
import Derived.Test.YtiikkhbmhojbaaaGreatPl
namespace Sx
open Go Go.RowKit
set_option linter.unusedVariables false
/-! ### Where two planes are unlike -/
def unl (W H : Nat) (xs ys : List Int) : Nat → Int × Int × Int × Int
  | 0 => ((W : Int), (H : Int), 0, 0)
  | k + 1 => if xs.getD k 0 = ys.getD k 0 then unl W H xs ys k
    else (min (unl W H xs ys k).1 ((k % W : Nat) : Int), min (unl W H xs ys k).2.1 ((k / W : Nat) : Int), max (unl W H xs ys k).2.2.1 (((k % W : Nat) : Int) + 1), max (unl W H xs ys k).2.2.2 (((k / W : Nat) : Int) + 1))
/-- Is one of the first k places unlike, of which f holds? -/
def hit (xs ys : List Int) (f : Nat → Bool) : Nat → Bool
  | 0 => false
  | k + 1 => hit xs ys f k || (decide (xs.getD k 0 ≠ ys.getD k 0) && f k)
theorem hit_of {xs ys : List Int} {f : Nat → Bool} {k j : Nat} (hj : j < k) (hn : xs.getD j 0 ≠ ys.getD j 0) (hf : f j = true) : hit xs ys f k = true := by
  induction k with
  | zero => omega
  | succ k ih =>
    unfold hit
    rcases Nat.lt_succ_iff_lt_or_eq.1 hj with h | rfl
    · rw [ih h]; rfl
    · rw [decide_eq_true hn, hf]; simp
theorem unl_in {W H : Nat} {xs ys : List Int} {k j : Nat} (hj : j < k) (hn : xs.getD j 0 ≠ ys.getD j 0) :
    (unl W H xs ys k).1 ≤ ((j % W : Nat) : Int) ∧ ((j % W : Nat) : Int) < (unl W H xs ys k).2.2.1 ∧ (unl W H xs ys k).2.1 ≤ ((j / W : Nat) : Int) ∧ ((j / W : Nat) : Int) < (unl W H xs ys k).2.2.2 := by
  induction k with
  | zero => omega
  | succ k ih =>
    unfold unl
    rcases Nat.lt_succ_iff_lt_or_eq.1 hj with h | rfl
    · have := ih h
      split
      · exact this
      · dsimp only; omega
    · rw [if_neg hn]; dsimp only; omega
/-- Each side is met, once a place is unlike. -/
theorem unl_met {W H : Nat} {xs ys : List Int} {k : Nat} (hW : 0 < W) (hk : k ≤ W * H) (h : ∃ j, j < k ∧ xs.getD j 0 ≠ ys.getD j 0) :
    (∃ j, j < k ∧ xs.getD j 0 ≠ ys.getD j 0 ∧ ((j % W : Nat) : Int) = (unl W H xs ys k).1) ∧ (∃ j, j < k ∧ xs.getD j 0 ≠ ys.getD j 0 ∧ ((j / W : Nat) : Int) = (unl W H xs ys k).2.1) ∧
    (∃ j, j < k ∧ xs.getD j 0 ≠ ys.getD j 0 ∧ ((j % W : Nat) : Int) + 1 = (unl W H xs ys k).2.2.1) ∧ (∃ j, j < k ∧ xs.getD j 0 ≠ ys.getD j 0 ∧ ((j / W : Nat) : Int) + 1 = (unl W H xs ys k).2.2.2) := by
  induction k with
  | zero => obtain ⟨j, hj, _⟩ := h; omega
  | succ k ih =>
    have hx : k % W < W := Nat.mod_lt _ hW
    have hy : k / W < H := Nat.div_lt_of_lt_mul (by omega)
    have hx0 : (0 : Int) ≤ ((k % W : Nat) : Int) := Int.natCast_nonneg _
    have hy0 : (0 : Int) ≤ ((k / W : Nat) : Int) := Int.natCast_nonneg _
    unfold unl
    by_cases e : xs.getD k 0 = ys.getD k 0
    · rw [if_pos e]
      obtain ⟨j, hj, hn⟩ := h
      have hj' : j < k := by
        rcases Nat.lt_succ_iff_lt_or_eq.1 hj with h | rfl
        · exact h
        · exact absurd e hn
      obtain ⟨⟨a, a1, a2, a3⟩, ⟨b, b1, b2, b3⟩, ⟨c, c1, c2, c3⟩, ⟨d, d1, d2, d3⟩⟩ := ih (by omega) ⟨j, hj', hn⟩
      exact ⟨⟨a, by omega, a2, a3⟩, ⟨b, by omega, b2, b3⟩, ⟨c, by omega, c2, c3⟩, ⟨d, by omega, d2, d3⟩⟩
    · rw [if_neg e]
      dsimp only
      by_cases h' : ∃ j, j < k ∧ xs.getD j 0 ≠ ys.getD j 0
      · obtain ⟨⟨a, a1, a2, a3⟩, ⟨b, b1, b2, b3⟩, ⟨c, c1, c2, c3⟩, ⟨d, d1, d2, d3⟩⟩ := ih (by omega) h'
        refine ⟨?_, ?_, ?_, ?_⟩
        · rcases Int.le_total (unl W H xs ys k).1 ((k % W : Nat) : Int) with q | q
          · exact ⟨a, by omega, a2, by omega⟩
          · exact ⟨k, by omega, e, by omega⟩
        · rcases Int.le_total (unl W H xs ys k).2.1 ((k / W : Nat) : Int) with q | q
          · exact ⟨b, by omega, b2, by omega⟩
          · exact ⟨k, by omega, e, by omega⟩
        · rcases Int.le_total (unl W H xs ys k).2.2.1 (((k % W : Nat) : Int) + 1) with q | q
          · exact ⟨k, by omega, e, by omega⟩
          · exact ⟨c, by omega, c2, by omega⟩
        · rcases Int.le_total (unl W H xs ys k).2.2.2 (((k / W : Nat) : Int) + 1) with q | q
          · exact ⟨k, by omega, e, by omega⟩
          · exact ⟨d, by omega, d2, by omega⟩
      · have h0 : ∀ i, i ≤ k → unl W H xs ys i = ((W : Int), (H : Int), 0, 0) := by
          intro i
          induction i with
          | zero => intro _; rfl
          | succ i ihi =>
            intro hi
            unfold unl
            rw [if_pos (Classical.byContradiction fun hne => h' ⟨i, by omega, hne⟩)]
            exact ihi (by omega)
        rw [h0 k (Nat.le_refl _)]
        dsimp only
        exact ⟨⟨k, by omega, e, by omega⟩, ⟨k, by omega, e, by omega⟩, ⟨k, by omega, e, by omega⟩, ⟨k, by omega, e, by omega⟩⟩
theorem unl_bd {W H : Nat} {xs ys : List Int} : ∀ k, k ≤ W * H → 0 < W → (0 ≤ (unl W H xs ys k).1 ∧ (unl W H xs ys k).1 ≤ W) ∧ (0 ≤ (unl W H xs ys k).2.1 ∧ (unl W H xs ys k).2.1 ≤ H) ∧ (0 ≤ (unl W H xs ys k).2.2.1 ∧ (unl W H xs ys k).2.2.1 ≤ W) ∧ (0 ≤ (unl W H xs ys k).2.2.2 ∧ (unl W H xs ys k).2.2.2 ≤ H) := by
  intro k
  induction k with
  | zero => intro _ _; unfold unl; dsimp only; omega
  | succ k ih =>
    intro hk hW
    have := ih (by omega) hW
    have hx : k % W < W := Nat.mod_lt _ hW
    have hy : k / W < H := Nat.div_lt_of_lt_mul (by omega)
    have hx0 : (0 : Int) ≤ ((k % W : Nat) : Int) := Int.natCast_nonneg _
    have hy0 : (0 : Int) ≤ ((k / W : Nat) : Int) := Int.natCast_nonneg _
    unfold unl
    split
    · exact this
    · dsimp only; omega
/-- Four sides in one number. -/
def sd (a b c d : Bool) : Int := (if a then 1 else 0) + (if b then 2 else 0) + (if c then 4 else 0) + (if d then 8 else 0)
theorem sd_or1 (a b c d : Bool) : IntKind.i64.wrap (if BinOp.or = BinOp.and then (BitVec.ofInt IntKind.i64.bits (sd a b c d) &&& BitVec.ofInt IntKind.i64.bits 1).toNat else (BitVec.ofInt IntKind.i64.bits (sd a b c d) ||| BitVec.ofInt IntKind.i64.bits 1).toNat : Nat) = sd true b c d := by
  cases a <;> cases b <;> cases c <;> cases d <;> decide
theorem sd_or2 (a b c d : Bool) : IntKind.i64.wrap (if BinOp.or = BinOp.and then (BitVec.ofInt IntKind.i64.bits (sd a b c d) &&& BitVec.ofInt IntKind.i64.bits 2).toNat else (BitVec.ofInt IntKind.i64.bits (sd a b c d) ||| BitVec.ofInt IntKind.i64.bits 2).toNat : Nat) = sd a true c d := by
  cases a <;> cases b <;> cases c <;> cases d <;> decide
theorem sd_or4 (a b c d : Bool) : IntKind.i64.wrap (if BinOp.or = BinOp.and then (BitVec.ofInt IntKind.i64.bits (sd a b c d) &&& BitVec.ofInt IntKind.i64.bits 4).toNat else (BitVec.ofInt IntKind.i64.bits (sd a b c d) ||| BitVec.ofInt IntKind.i64.bits 4).toNat : Nat) = sd a b true d := by
  cases a <;> cases b <;> cases c <;> cases d <;> decide
theorem sd_or8 (a b c d : Bool) : IntKind.i64.wrap (if BinOp.or = BinOp.and then (BitVec.ofInt IntKind.i64.bits (sd a b c d) &&& BitVec.ofInt IntKind.i64.bits 8).toNat else (BitVec.ofInt IntKind.i64.bits (sd a b c d) ||| BitVec.ofInt IntKind.i64.bits 8).toNat : Nat) = sd a b c true := by
  cases a <;> cases b <;> cases c <;> cases d <;> decide
theorem hit_skip {xs ys : List Int} {f : Nat → Bool} {k : Nat} (h : xs.getD k 0 = ys.getD k 0) : hit xs ys f (k + 1) = hit xs ys f k := by
  conv => lhs; unfold hit
  rw [decide_eq_false (fun h' => h' h)]; simp
theorem hit_true {xs ys : List Int} {f : Nat → Bool} {k : Nat} (h : xs.getD k 0 ≠ ys.getD k 0) (hf : f k = true) : hit xs ys f (k + 1) = true := hit_of (Nat.lt_succ_self k) h hf
theorem hit_false {xs ys : List Int} {f : Nat → Bool} {k : Nat} (hf : f k = false) : hit xs ys f (k + 1) = hit xs ys f k := by
  conv => lhs; unfold hit
  rw [hf]; simp
theorem ne_at {xs ys : List Int} {n : Nat} (h1 : xs.length = n) (h2 : ys.length = n) (h : xs ≠ ys) : ∃ j, j < n ∧ xs.getD j 0 ≠ ys.getD j 0 := by
  refine Classical.byContradiction fun hn => h (getD_ext (by omega) fun j hj => Classical.byContradiction fun hne => hn ⟨j, by omega, hne⟩)
end Sx
