/- Kernels' weights, in plain Lean. No program is named here. -/
import Derived.Test.YtjbpdhofhhinhaaBk
namespace Sx
open Go
set_option linter.unusedVariables false
/-- A row of whole numbers. -/
def wl (N : Nat) (f : Nat → Int) : List Value := (List.range N).map fun j : Nat => Value.int .i64 (f j)
theorem wl_len (N : Nat) (f : Nat → Int) : (wl N f).length = N := by simp [wl]
theorem wl_at {N k : Nat} {f : Nat → Int} (h : k < N) : (wl N f)[k]? = some (.int .i64 (f k)) := by simp [wl, h]
theorem wl_at' {N k : Nat} {f : Nat → Int} (sp : List Value) (h : k < N) : (wl N f ++ sp)[k]? = some (.int .i64 (f k)) := by
  rw [List.getElem?_append_left (by rw [wl_len]; exact h)]; exact wl_at h
theorem wl_congr {N : Nat} {f g : Nat → Int} (h : ∀ j, j < N → f j = g j) : wl N f = wl N g := by
  unfold wl
  refine List.map_congr_left fun j hj => ?_
  rw [h j (List.mem_range.1 hj)]
theorem wl_zero (N : Nat) : List.replicate N (Value.int .i64 0) = wl N (fun _ => 0) := by
  apply List.ext_getElem
  · simp [wl]
  · intro i h1 h2; simp [wl]
theorem wl_snoc (N : Nat) (f : Nat → Int) : wl N f ++ [Value.int .i64 (f N)] = wl (N + 1) f := by simp [wl, List.range_succ]
theorem wl_set {N k : Nat} {f g : Nat → Int} {v : Int} (h : k < N) (hv : v = g k) (hg : ∀ j, j < N → j ≠ k → f j = g j) : splice (wl N f) k [Value.int .i64 v] = wl N g := by
  subst hv
  apply List.ext_getElem?
  intro i
  unfold splice
  have h1 : ((wl N f).take k).length = k := by rw [List.length_take, wl_len]; omega
  by_cases hi : i < N
  · rw [wl_at hi]
    rcases Nat.lt_trichotomy i k with hlt | rfl | hgt
    · rw [List.append_assoc, List.getElem?_append_left (by omega), List.getElem?_take, if_pos hlt, wl_at hi, hg i hi (by omega)]
    · rw [List.append_assoc, List.getElem?_append_right (by omega), h1]; simp
    · rw [List.getElem?_append_right (by rw [List.length_append, h1]; simp; omega), List.length_append, h1, List.getElem?_drop]
      simp only [List.length_cons, List.length_nil, Nat.zero_add]
      rw [show k + 1 + (i - (k + 1)) = i by omega, wl_at hi, hg i hi (by omega)]
  · rw [List.getElem?_eq_none (by rw [List.length_append, List.length_append, h1, List.length_drop, wl_len]; simp; omega), List.getElem?_eq_none (by rw [wl_len]; omega)]
def ch : Nat → Nat → Int
  | _, 0 => 1
  | 0, _ + 1 => 0
  | n + 1, j + 1 => ch n j + ch n (j + 1)
def pv (n j : Nat) : Int := if j ≤ n then ch n j else 1
def mid (n i j : Nat) : Int := if i < j then pv n j else pv (n - 1) j
theorem pv_zero (n : Nat) : pv n 0 = 1 := by unfold pv; cases n <;> rfl
theorem pv_bd : ∀ n, n < 15 → ∀ j, j < 16 → 0 ≤ pv n j ∧ pv n j ≤ 16384 := by decide +kernel
theorem pv_step : ∀ n, n < 15 → ∀ i, i < n → 0 < i → pv (n - 1) i + pv (n - 1) (i - 1) = pv n i := by decide +kernel
theorem pv_top : ∀ n, n < 15 → 0 < n → pv (n - 1) n = pv n n := by decide +kernel
theorem mid_start {N n : Nat} (h : 0 < n) (hn : n < 15) : wl N (pv (n - 1)) = wl N (mid n (n - 1)) := wl_congr fun j hj => by
  unfold mid
  split
  · rename_i hlt
    rcases Nat.lt_or_ge n j with h1 | h1
    · unfold pv; rw [if_neg (by omega), if_neg (by omega)]
    · have e : j = n := by omega
      subst e; exact pv_top j hn h
  · rfl
theorem mid_end {N n : Nat} (h : 0 < n) : wl N (mid n 0) = wl N (pv n) := wl_congr fun j hj => by
  unfold mid
  split
  · rfl
  · have e : j = 0 := by omega
    subst e; rw [pv_zero, pv_zero]
theorem mid_add {n i : Nat} (h0 : 0 < i) (hi : i < n) (hn : n < 15) : IntKind.i64.wrap (mid n i i + mid n i (i - 1)) = pv n i := by
  have e1 : mid n i i = pv (n - 1) i := by unfold mid; rw [if_neg (by omega)]
  have e2 : mid n i (i - 1) = pv (n - 1) (i - 1) := by unfold mid; rw [if_neg (by omega)]
  have h1 := pv_bd n hn i (by omega)
  rw [e1, e2, pv_step n hn i hi h0, w64 (by omega)]
theorem mid_store {N n i : Nat} (h0 : 0 < i) (hi : i < N) : splice (wl N (mid n i)) i [Value.int .i64 (pv n i)] = wl N (mid n (i - 1)) :=
  wl_set hi (by unfold mid; rw [if_pos (by omega)]) fun j hj hne => by
    unfold mid
    by_cases h : i < j
    · rw [if_pos h, if_pos (by omega)]
    · rw [if_neg h, if_neg (by omega)]
theorem one_store {N k : Nat} (h : k < N) : splice (wl N (fun j => if j < k then 1 else 0)) k [Value.int .i64 1] = wl N (fun j => if j < k + 1 then 1 else 0) :=
  wl_set h (by simp) fun j hj hne => by
    by_cases h1 : j < k
    · rw [if_pos h1, if_pos (by omega)]
    · rw [if_neg h1, if_neg (by omega)]
theorem one_full (N : Nat) : wl N (fun j => if j < N then 1 else 0) = wl N (fun _ => 1) := wl_congr fun j hj => if_pos hj
theorem one_pv (N : Nat) : wl N (fun _ => 1) = wl N (pv 0) := wl_congr fun j hj => by
  unfold pv
  split
  · have e : j = 0 := by omega
    subst e; rfl
  · rfl
theorem pv_quo : ∀ r, r < 8 → ∀ i, i < 15 → 0 < i → i ≤ 2 * r → IntKind.i64.wrap (Int.tdiv (pv (2 * r) (i - 1) * (((2 * r : Nat) : Int) - ((i : Nat) : Int) + 1)) ((i : Nat) : Int)) = pv (2 * r) i := by decide +kernel
theorem pv_mul : ∀ r, r < 8 → ∀ i, i < 15 → 0 < i → i ≤ 2 * r → IntKind.i64.wrap (pv (2 * r) (i - 1) * (((2 * r : Nat) : Int) - ((i : Nat) : Int) + 1)) = pv (2 * r) (i - 1) * (((2 * r : Nat) : Int) - ((i : Nat) : Int) + 1) := by decide +kernel
end Sx
