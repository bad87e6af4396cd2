/- Digits of 32 bits of whole numbers, in plain Lean: reading, setting, comparing, adding, taking away, shifting. -/
import Derived.Test.YtbhjadkgeadpiaaPl
namespace Nd
open Go Sx
set_option linter.unusedVariables false
def Bs : Nat := 4294967296
/-- A digit. -/
def D (V i : Nat) : Nat := V / Bs ^ i % Bs
/-- So many digits. -/
def dl (L V : Nat) : List Int := (List.range L).map fun i => ((D V i : Nat) : Int)
/-- How many digits there are. -/
def nd (V : Nat) : Nat := if V = 0 then 0 else Nat.log2 V / 32 + 1
theorem Bs_pos (i : Nat) : 0 < Bs ^ i := Nat.pow_pos (show 0 < Bs by decide)
theorem D_lt (V i : Nat) : D V i < Bs := Nat.mod_lt _ (by decide)
theorem dl_len (L V : Nat) : (dl L V).length = L := by simp [dl]
theorem dl_get {L V i : Nat} (h : i < L) : (dl L V).getD i 0 = ((D V i : Nat) : Int) := by rw [List.getD_eq_getElem?_getD]; simp [dl, h]
theorem dl_cell {L V i : Nat} (h : i < L) (sp : List Value) : ((dl L V).map u32 ++ sp)[i]? = some (.int .u32 ((D V i : Nat) : Int)) := by
  rw [List.getElem?_append_left (by rw [List.length_map, dl_len]; exact h)]; simp [dl, h, u32]
theorem pow32 (i : Nat) : Bs ^ i = 2 ^ (32 * i) := by rw [show Bs = 2 ^ 32 by decide, ← Nat.pow_mul]
theorem step_at (V j : Nat) : V / Bs ^ j = Bs * (V / Bs ^ (j + 1)) + D V j := by
  unfold D
  have := Nat.div_add_mod (V / Bs ^ j) Bs
  rw [Nat.div_div_eq_div_mul, ← Nat.pow_succ] at this
  exact this.symm
theorem split_at (V j : Nat) : V = V / Bs ^ (j + 1) * Bs ^ (j + 1) + D V j * Bs ^ j + V % Bs ^ j := by
  have h1 := (Nat.div_add_mod V (Bs ^ j)).symm
  have h2 := step_at V j
  rw [h2] at h1
  refine h1.trans ?_
  congr 1
  rw [Nat.mul_add, Nat.pow_succ]
  congr 1
  · rw [← Nat.mul_assoc, Nat.mul_comm]
  · rw [Nat.mul_comm]
theorem add_lo {V d j i : Nat} (h : i < j) : D (V + d * Bs ^ j) i = D V i := by
  obtain ⟨k, rfl⟩ : ∃ k, j = i + 1 + k := ⟨j - i - 1, by omega⟩
  unfold D
  have e : d * Bs ^ (i + 1 + k) = Bs ^ i * (Bs * (d * Bs ^ k)) := by
    rw [Nat.pow_add, Nat.pow_succ]; simp only [Nat.mul_assoc, Nat.mul_left_comm, Nat.mul_comm]
  rw [e, Nat.add_mul_div_left _ _ (Bs_pos i), Nat.add_mul_mod_self_left]
theorem add_at {V d j : Nat} (h : D V j + d < Bs) : D (V + d * Bs ^ j) j = D V j + d := by
  unfold D at *
  rw [Nat.mul_comm d, Nat.add_mul_div_left _ _ (Bs_pos j)]
  generalize V / Bs ^ j = q at *
  rw [Nat.add_mod, Nat.mod_eq_of_lt (show d < Bs by omega), Nat.mod_eq_of_lt h]
theorem div_hi {V d j : Nat} (h : D V j + d < Bs) : (V + d * Bs ^ j) / Bs ^ (j + 1) = V / Bs ^ (j + 1) := by
  have hs := split_at V j
  have hp := Bs_pos j
  have hr := Nat.mod_lt V hp
  have hlt : (D V j + d) * Bs ^ j + V % Bs ^ j < Bs ^ (j + 1) := by
    have h1 : (D V j + d + 1) * Bs ^ j ≤ Bs * Bs ^ j := Nat.mul_le_mul_right _ h
    rw [Nat.add_mul, Nat.one_mul] at h1
    rw [Nat.pow_succ, Nat.mul_comm (Bs ^ j)]
    generalize V % Bs ^ j = r at *
    generalize (D V j + d) * Bs ^ j = x at *
    omega
  have e : V + d * Bs ^ j = Bs ^ (j + 1) * (V / Bs ^ (j + 1)) + ((D V j + d) * Bs ^ j + V % Bs ^ j) := by
    conv => lhs; rw [hs]
    rw [Nat.add_mul, Nat.mul_comm (Bs ^ (j + 1))]
    generalize V % Bs ^ j = r at *
    omega
  rw [e, Nat.mul_add_div (Bs_pos _), Nat.div_eq_of_lt hlt, Nat.add_zero]
theorem add_hi {V d j i : Nat} (h : D V j + d < Bs) (hi : j < i) : D (V + d * Bs ^ j) i = D V i := by
  obtain ⟨k, rfl⟩ : ∃ k, i = j + 1 + k := ⟨i - j - 1, by omega⟩
  unfold D
  rw [Nat.pow_add, ← Nat.div_div_eq_div_mul, ← Nat.div_div_eq_div_mul, div_hi h]
theorem add_dig {V d j : Nat} (h : D V j + d < Bs) (i : Nat) : D (V + d * Bs ^ j) i = if i = j then D V j + d else D V i := by
  by_cases c : i = j
  · subst c; rw [if_pos rfl, add_at h]
  · rw [if_neg c]
    rcases Nat.lt_or_ge i j with q | q
    · exact add_lo q
    · exact add_hi h (by omega)
/-- A digit set. -/
theorem dl_set {L V j d : Nat} (h : D V j + d < Bs) : (dl L V).set j (((D V j + d : Nat)) : Int) = dl L (V + d * Bs ^ j) := by
  apply List.ext_getElem?
  intro i
  rw [List.getElem?_set]
  unfold dl
  by_cases c : j = i
  · subst c
    rw [if_pos rfl]
    by_cases c2 : j < L
    · simp [c2, add_at h]
    · simp [c2]
  · rw [if_neg c]
    by_cases c2 : i < L
    · simp [c2, add_dig h, show ¬ i = j from fun q => c q.symm]
    · simp [c2]
theorem D_zero {V i : Nat} (h : V < Bs ^ i) : D V i = 0 := by unfold D; rw [Nat.div_eq_of_lt h]; rfl
theorem D_0 (i : Nat) : D 0 i = 0 := by unfold D; simp
theorem dl_0 (L : Nat) : dl L 0 = List.replicate L 0 := by
  apply List.ext_getElem?
  intro i
  unfold dl
  by_cases c : i < L
  · simp [c, D_0]
  · simp [c]
/-! ### How many digits -/
theorem nd_le {V L : Nat} (h : V < Bs ^ L) : nd V ≤ L := by
  unfold nd
  split
  · omega
  · rename_i h0
    rw [pow32] at h
    have := (Nat.log2_lt h0).2 h
    omega
theorem nd_lt {V : Nat} : V < Bs ^ nd V := by
  unfold nd
  split
  · rename_i h; rw [h]; simp
  · rename_i h0
    rw [pow32]
    have h1 : V < 2 ^ (Nat.log2 V + 1) := Nat.lt_log2_self
    exact Nat.lt_of_lt_of_le h1 (Nat.pow_le_pow_right (by decide) (by omega))
theorem nd_top {V : Nat} (h : V ≠ 0) : Bs ^ (nd V - 1) ≤ V := by
  unfold nd
  rw [if_neg h, Nat.add_sub_cancel, pow32]
  exact Nat.le_trans (Nat.pow_le_pow_right (by decide) (by omega)) (Nat.log2_self_le h)
theorem nd_is {V n : Nat} (h1 : V < Bs ^ n) (h2 : n = 0 ∨ D V (n - 1) ≠ 0) : nd V = n := by
  rcases h2 with rfl | h2
  · have : V = 0 := by simp at h1; omega
    rw [this]; rfl
  · have hn : n ≠ 0 := by
      intro q; subst q
      have : V = 0 := by simp at h1; omega
      rw [this, D_0] at h2; exact h2 rfl
    have hge : Bs ^ (n - 1) ≤ V := by
      rcases Nat.lt_or_ge V (Bs ^ (n - 1)) with c | c
      · exact absurd (D_zero c) h2
      · exact c
    have h0 : V ≠ 0 := by have := Bs_pos (n - 1); omega
    have hle := nd_le h1
    rcases Nat.lt_or_ge (nd V) n with c | c
    · exfalso
      have h3 := nd_lt (V := V)
      have h4 : Bs ^ nd V ≤ Bs ^ (n - 1) := Nat.pow_le_pow_right (by decide) (by omega)
      omega
    · omega
theorem shrink {V n : Nat} (h1 : V < Bs ^ (n + 1)) (h2 : D V n = 0) : V < Bs ^ n := by
  unfold D at h2
  have h3 : V / Bs ^ n < Bs := by
    rw [Nat.div_lt_iff_lt_mul (Bs_pos n), Nat.mul_comm, ← Nat.pow_succ]; exact h1
  rw [Nat.mod_eq_of_lt h3] at h2
  rcases Nat.lt_or_ge V (Bs ^ n) with c | c
  · exact c
  · have := (Nat.le_div_iff_mul_le (Bs_pos n)).2 (show 1 * Bs ^ n ≤ V by omega); omega
theorem dl_take {L V n : Nat} (h : n ≤ L) : dl L V = dl n V ++ (dl L V).drop n := by
  have : (dl L V).take n = dl n V := by
    unfold dl; rw [← List.map_take, List.take_range, Nat.min_eq_left h]
  rw [← this]; exact (List.take_append_drop n _).symm
/-! ### Comparing -/
theorem cmp_len {a b : Nat} (h : nd a < nd b) : a < b := by
  have h1 := nd_lt (V := a)
  have hb : b ≠ 0 := by intro q; subst q; unfold nd at h; simp at h
  have h2 := nd_top hb
  have h3 : Bs ^ nd a ≤ Bs ^ (nd b - 1) := Nat.pow_le_pow_right (by decide) (by omega)
  omega
theorem cmp_dig {a b i : Nat} (h : a / Bs ^ (i + 1) = b / Bs ^ (i + 1)) (hd : D a i < D b i) : a < b := by
  have ha := split_at a i
  have hb := split_at b i
  have hp := Bs_pos i
  have hr := Nat.mod_lt a hp
  have h1 : (D a i + 1) * Bs ^ i ≤ D b i * Bs ^ i := Nat.mul_le_mul_right _ hd
  rw [Nat.add_mul, Nat.one_mul] at h1
  rw [h] at ha
  generalize a % Bs ^ i = ra at *
  generalize b % Bs ^ i = rb at *
  generalize b / Bs ^ (i + 1) * Bs ^ (i + 1) = t at *
  generalize D a i * Bs ^ i = x at *
  generalize D b i * Bs ^ i = y at *
  omega
theorem cmp_step {a b i : Nat} (h : a / Bs ^ (i + 1) = b / Bs ^ (i + 1)) (hd : D a i = D b i) : a / Bs ^ i = b / Bs ^ i := by
  rw [step_at a i, step_at b i, h, hd]
theorem shrink' {V n : Nat} (hn : 0 < n) (h1 : V < Bs ^ n) (h2 : ((D V (n - 1) : Nat) : Int) = 0) : V < Bs ^ (n - 1) := by
  obtain ⟨k, rfl⟩ : ∃ k, n = k + 1 := ⟨n - 1, by omega⟩
  rw [Nat.add_sub_cancel] at *
  exact shrink h1 (by omega)
theorem dl_cell' {L V i : Nat} (h : i < L) : ((dl L V).map u32)[i]? = some (.int .u32 ((D V i : Nat) : Int)) := by
  have := dl_cell (V := V) h []; rwa [List.append_nil] at this
theorem rd_dig {w : World} {b o L V i : Nat} (hr : Rd w b o ((dl L V).map u32)) (h : i < L) : w.cell? ⟨b, o + i, none⟩ = some (.int .u32 ((D V i : Nat) : Int)) := hr i _ (dl_cell' h)
theorem top_eq {x y : Nat} (h : nd x = nd y) : x / Bs ^ nd x = y / Bs ^ nd x := by
  have h1 := nd_lt (V := x)
  have h2 := nd_lt (V := y)
  rw [← h] at h2
  rw [Nat.div_eq_of_lt h1, Nat.div_eq_of_lt h2]
theorem cmp_lens1 {x y : Nat} (h : nd x < nd y) : (-1 : Int) = if x < y then (-1 : Int) else if x = y then 0 else 1 := by rw [if_pos (cmp_len h)]
theorem cmp_gt {x y : Nat} (h : y < x) : (1 : Int) = if x < y then (-1 : Int) else if x = y then 0 else 1 := by rw [if_neg (by omega), if_neg (by omega)]
theorem cmp_lens2 {x y : Nat} (h : nd y < nd x) : (1 : Int) = if x < y then (-1 : Int) else if x = y then 0 else 1 := cmp_gt (cmp_len h)
theorem cmp_lt {x y : Nat} (h : x < y) : (-1 : Int) = if x < y then (-1 : Int) else if x = y then 0 else 1 := by rw [if_pos h]
theorem cmp_same {x y : Nat} (h : x = y) : (0 : Int) = if x < y then (-1 : Int) else if x = y then 0 else 1 := by rw [if_neg (by omega), if_pos h]
/-! ### One digit more -/
theorem D_lt' (V i : Nat) : D V i < 4294967296 := D_lt V i
theorem D_mod_at (V i : Nat) : D (V % Bs ^ i) i = 0 := D_zero (Nat.mod_lt _ (Bs_pos i))
theorem mod_next (V i : Nat) : V % Bs ^ (i + 1) = V % Bs ^ i + D V i * Bs ^ i := by
  unfold D; rw [Nat.pow_succ, Nat.mod_mul, Nat.mul_comm (Bs ^ i)]
theorem dl_next (L V i : Nat) : (dl L (V % Bs ^ i)).set i ((D V i : Nat) : Int) = dl L (V % Bs ^ (i + 1)) := by
  have h := dl_set (L := L) (V := V % Bs ^ i) (j := i) (d := D V i) (by rw [D_mod_at]; have := D_lt V i; omega)
  rw [D_mod_at, Nat.zero_add] at h
  rw [mod_next]; exact h
theorem D_far {V i : Nat} (h : nd V ≤ i) : D V i = 0 := D_zero (Nat.lt_of_lt_of_le nd_lt (Nat.pow_le_pow_right (by decide) h))
theorem dl_mlen (L V : Nat) : ((dl L V).map u32).length = L := by rw [List.length_map, dl_len]
theorem st_dig {L V i : Nat} {x : Int} (h : i < L) : splice ((dl L V).map u32) i [.int .u32 x] = ((dl L V).set i x).map u32 := by
  have hl : i < ((dl L V).map u32).length := by rw [dl_mlen]; exact h
  rw [← splice_cons _ _ _ _ hl, splice_nil, List.map_set]; rfl
theorem st_next {L V i : Nat} {x : Int} (h : i < L) (hx : x = ((D V i : Nat) : Int)) : splice ((dl L (V % Bs ^ i)).map u32) i [.int .u32 x] = (dl L (V % Bs ^ (i + 1))).map u32 := by
  rw [st_dig h, hx, dl_next]
theorem rep_0 (n V : Nat) : List.replicate n (.int .u32 0) = (dl n (V % Bs ^ 0)).map u32 := by
  rw [Nat.pow_zero, Nat.mod_one, dl_0, List.map_replicate]; rfl
theorem mod_all {V n : Nat} (h : V < Bs ^ n) : V % Bs ^ n = V := Nat.mod_eq_of_lt h
/-- What is carried. -/
def C (x y i : Nat) : Nat := (x % Bs ^ i + y % Bs ^ i) / Bs ^ i
theorem C_zero (x y : Nat) : C x y 0 = 0 := by unfold C; simp [Nat.mod_one]
theorem C_le (x y i : Nat) : C x y i ≤ 1 := by
  unfold C
  have h1 := Nat.mod_lt x (Bs_pos i)
  have h2 := Nat.mod_lt y (Bs_pos i)
  have := (Nat.div_lt_iff_lt_mul (Bs_pos i)).2 (show x % Bs ^ i + y % Bs ^ i < 2 * Bs ^ i by omega)
  omega
theorem D_add (x y i : Nat) : D (x + y) i = (D x i + D y i + C x y i) % Bs := by
  unfold D C
  have hp := Bs_pos i
  have hx := Nat.div_add_mod x (Bs ^ i)
  have hy := Nat.div_add_mod y (Bs ^ i)
  have e : (x + y) / Bs ^ i = x / Bs ^ i + y / Bs ^ i + (x % Bs ^ i + y % Bs ^ i) / Bs ^ i := by
    conv => lhs; rw [← hx, ← hy]
    rw [show Bs ^ i * (x / Bs ^ i) + x % Bs ^ i + (Bs ^ i * (y / Bs ^ i) + y % Bs ^ i) = Bs ^ i * (x / Bs ^ i + y / Bs ^ i) + (x % Bs ^ i + y % Bs ^ i) by rw [Nat.mul_add]; omega, Nat.mul_add_div hp]
  rw [e]
  generalize x / Bs ^ i = a
  generalize y / Bs ^ i = b
  generalize (x % Bs ^ i + y % Bs ^ i) / Bs ^ i = c
  unfold Bs; omega
theorem C_next (x y i : Nat) : C x y (i + 1) = (D x i + D y i + C x y i) / Bs := by
  have h : (x % Bs ^ (i + 1) + y % Bs ^ (i + 1)) = Bs ^ i * (D x i + D y i) + (x % Bs ^ i + y % Bs ^ i) := by
    rw [mod_next, mod_next, Nat.mul_add, Nat.mul_comm (D x i), Nat.mul_comm (D y i)]; omega
  unfold C
  rw [h, Nat.pow_succ, ← Nat.div_div_eq_div_mul, Nat.mul_add_div (Bs_pos i)]
theorem add_facts (x y i : Nat) : D x i < 4294967296 ∧ D y i < 4294967296 ∧ C x y i ≤ 1 ∧ C x y (i + 1) ≤ 1 ∧ D (x + y) i < 4294967296 ∧ D (x + y) i + 4294967296 * C x y (i + 1) = D x i + D y i + C x y i := by
  refine ⟨D_lt x i, D_lt y i, C_le x y i, C_le x y _, D_lt _ i, ?_⟩
  rw [D_add, C_next]
  exact Nat.mod_add_div _ _
/-- What is carried in a product. -/
def M (V k i : Nat) : Nat := (V % Bs ^ i * k) / Bs ^ i
theorem M_zero (V k : Nat) : M V k 0 = 0 := by unfold M; simp [Nat.mod_one]
theorem M_le (V k i : Nat) : M V k i ≤ k := by
  unfold M
  exact Nat.div_le_of_le_mul (Nat.mul_le_mul_right _ (Nat.le_of_lt (Nat.mod_lt V (Bs_pos i))))
theorem mul_facts (V k i : Nat) : D V i < 4294967296 ∧ M V k i ≤ k ∧ M V k (i + 1) ≤ k ∧ D (V * k) i < 4294967296 ∧ D (V * k) i + 4294967296 * M V k (i + 1) = D V i * k + M V k i := by
  refine ⟨D_lt V i, M_le V k i, M_le V k _, D_lt _ i, ?_⟩
  have e1 : M V k (i + 1) = (D V i * k + M V k i) / Bs := by
    unfold M
    rw [mod_next, Nat.add_mul, show V % Bs ^ i * k + D V i * Bs ^ i * k = Bs ^ i * (D V i * k) + V % Bs ^ i * k by rw [Nat.mul_comm (D V i), Nat.mul_assoc]; omega, Nat.pow_succ, ← Nat.div_div_eq_div_mul, Nat.mul_add_div (Bs_pos i)]
  have e2 : D (V * k) i = (D V i * k + M V k i) % Bs := by
    unfold D M
    have hx := Nat.div_add_mod V (Bs ^ i)
    have e : V * k / Bs ^ i = V / Bs ^ i * k + V % Bs ^ i * k / Bs ^ i := by
      conv => lhs; rw [← hx]
      rw [Nat.add_mul, Nat.mul_assoc, Nat.mul_add_div (Bs_pos i)]
    rw [e, Nat.add_mod, Nat.mul_mod]
    conv => rhs; rw [Nat.add_mod, Nat.mul_mod, Nat.mod_mod]
  rw [e1, e2]
  exact Nat.mod_add_div _ _
theorem M_end {V k i : Nat} (h : nd V ≤ i) (hk : k < 4294967296) : M V k i = D (V * k) i := by
  have hv : V < Bs ^ i := Nat.lt_of_lt_of_le nd_lt (Nat.pow_le_pow_right (by decide) h)
  have hm := M_le V k i
  unfold D
  unfold M at *
  rw [Nat.mod_eq_of_lt hv] at *
  rw [Nat.mod_eq_of_lt (Nat.lt_of_le_of_lt hm (show k < Bs from hk))]
theorem mul_lt {V k : Nat} (hk : k < 4294967296) : V * k < Bs ^ (nd V + 1) := by
  rw [Nat.pow_succ]
  rcases Nat.eq_zero_or_pos k with h | h
  · subst h; simp [Nat.mul_pos (Bs_pos (nd V)) (show 0 < Bs by decide)]
  · exact Nat.lt_of_lt_of_le (Nat.mul_lt_mul_of_pos_right nd_lt h) (Nat.mul_le_mul_left _ (Nat.le_of_lt hk))
theorem plus_lt {x y : Nat} : x + y < Bs ^ (max (nd x) (nd y) + 1) := by
  have h1 : x < Bs ^ max (nd x) (nd y) := Nat.lt_of_lt_of_le nd_lt (Nat.pow_le_pow_right (by decide) (Nat.le_max_left _ _))
  have h2 : y < Bs ^ max (nd x) (nd y) := Nat.lt_of_lt_of_le nd_lt (Nat.pow_le_pow_right (by decide) (Nat.le_max_right _ _))
  rw [Nat.pow_succ]
  have : Bs ^ max (nd x) (nd y) * 2 ≤ Bs ^ max (nd x) (nd y) * Bs := Nat.mul_le_mul_left _ (by decide)
  omega
theorem nd_mono {a b : Nat} (h : a ≤ b) : nd a ≤ nd b := nd_le (Nat.lt_of_le_of_lt h nd_lt)
/-! ### Up -/
/-- The number moved up by n = 32 q + r, of the lowest i digits. -/
def U (V n i : Nat) : Nat := V % Bs ^ i * 2 ^ n
theorem U_zero (V n : Nat) : U V n 0 = 0 := by unfold U; simp [Nat.mod_one]
theorem U_end (V n : Nat) : U V n (nd V) = V * 2 ^ n := by unfold U; rw [Nat.mod_eq_of_lt nd_lt]
theorem two_n {n : Nat} : 2 ^ n = 2 ^ (n % 32) * Bs ^ (n / 32) := by
  rw [pow32, ← Nat.pow_add]; congr 1; omega
theorem U_next (V n i : Nat) : U V n (i + 1) = U V n i + (D V i * 2 ^ (n % 32)) % 4294967296 * Bs ^ (i + n / 32) + (D V i * 2 ^ (n % 32)) / 4294967296 * Bs ^ (i + n / 32 + 1) := by
  unfold U
  rw [mod_next, Nat.add_mul, Nat.add_assoc]
  congr 1
  have e : D V i * Bs ^ i * 2 ^ n = (D V i * 2 ^ (n % 32)) * Bs ^ (i + n / 32) := by
    rw [two_n, Nat.pow_add]; simp only [Nat.mul_assoc, Nat.mul_left_comm, Nat.mul_comm]
  rw [e, Nat.pow_succ]
  generalize D V i * 2 ^ (n % 32) = x
  generalize Bs ^ (i + n / 32) = p
  have h : x = x % 4294967296 + 4294967296 * (x / 4294967296) := (Nat.mod_add_div _ _).symm
  conv => lhs; rw [h]
  rw [Nat.add_mul, show Bs = 4294967296 from rfl]
  congr 1
  simp only [Nat.mul_left_comm, Nat.mul_comm]
theorem U_lt (V n i : Nat) : U V n i < 2 ^ (n % 32) * Bs ^ (i + n / 32) := by
  unfold U
  have e : Bs ^ i * 2 ^ n = 2 ^ (n % 32) * Bs ^ (i + n / 32) := by rw [two_n (n := n), Nat.pow_add]; simp only [Nat.mul_assoc, Nat.mul_comm]
  rw [← e]
  exact Nat.mul_lt_mul_of_pos_right (Nat.mod_lt _ (Bs_pos i)) (Nat.two_pow_pos n)
/-- The digit where the next one is put. -/
theorem U_dig (V n i : Nat) : D (U V n i) (i + n / 32) < 2 ^ (n % 32) := by
  unfold D
  exact Nat.lt_of_le_of_lt (Nat.mod_le _ _) ((Nat.div_lt_iff_lt_mul (Bs_pos _)).2 (U_lt V n i))
theorem p31 (n : Nat) : 2 ^ (n % 32) ≤ 2147483648 := Nat.pow_le_pow_right (show 0 < 2 by decide) (show n % 32 ≤ 31 by omega)
theorem lo_mult (d r : Nat) (hr : r ≤ 32) : ∃ k, d * 2 ^ r % 4294967296 = k * 2 ^ r ∧ k < 2 ^ (32 - r) := by
  refine ⟨d % 2 ^ (32 - r), ?_, Nat.mod_lt _ (Nat.two_pow_pos _)⟩
  rw [show (4294967296 : Nat) = 2 ^ (32 - r) * 2 ^ r by rw [← Nat.pow_add, Nat.sub_add_cancel hr], Nat.mul_mod_mul_right]
theorem lo_sum {d r t : Nat} (hr : r ≤ 32) (ht : t < 2 ^ r) : t + d * 2 ^ r % 4294967296 < 4294967296 := by
  obtain ⟨k, e, hk⟩ := lo_mult d r hr
  rw [e]
  have h1 : (k + 1) * 2 ^ r ≤ 2 ^ (32 - r) * 2 ^ r := Nat.mul_le_mul_right _ hk
  rw [← Nat.pow_add, Nat.sub_add_cancel hr, Nat.add_mul, Nat.one_mul] at h1
  have : (2 : Nat) ^ 32 = 4294967296 := by decide
  omega
theorem lo_or {d r t : Nat} (hr : r ≤ 32) (ht : t < 2 ^ r) : t ||| d * 2 ^ r % 4294967296 = t + d * 2 ^ r % 4294967296 := by
  obtain ⟨k, e, hk⟩ := lo_mult d r hr
  rw [e, Nat.or_comm, Nat.mul_comm k, ← Nat.two_pow_add_eq_or_of_lt ht, Nat.add_comm]
theorem or32 {x y : Nat} (h : x ||| y < 4294967296) (hx : x < 4294967296) (hy : y < 4294967296) : IntKind.u32.wrap (if BinOp.or = BinOp.and then (BitVec.ofInt IntKind.u32.bits ((x : Nat) : Int) &&& BitVec.ofInt IntKind.u32.bits ((y : Nat) : Int)).toNat else (BitVec.ofInt IntKind.u32.bits ((x : Nat) : Int) ||| BitVec.ofInt IntKind.u32.bits ((y : Nat) : Int)).toNat : Nat) = ((x ||| y : Nat) : Int) := by
  rw [if_neg (by decide), show IntKind.u32.bits = 32 from rfl, BitVec.ofInt_natCast, BitVec.ofInt_natCast, BitVec.toNat_or, BitVec.toNat_ofNat, BitVec.toNat_ofNat, Nat.mod_eq_of_lt hx, Nat.mod_eq_of_lt hy]
  exact wu32b (by omega)
theorem up_lo {V n i : Nat} : D (U V n i) (i + n / 32) + D V i * 2 ^ (n % 32) % 4294967296 < Bs := lo_sum (by omega) (U_dig V n i)
theorem up_or {V n i : Nat} : IntKind.u32.wrap (if BinOp.or = BinOp.and then (BitVec.ofInt IntKind.u32.bits ((D (U V n i) (i + n / 32) : Nat) : Int) &&& BitVec.ofInt IntKind.u32.bits ((D V i * 2 ^ (n % 32) % 4294967296 : Nat) : Int)).toNat else (BitVec.ofInt IntKind.u32.bits ((D (U V n i) (i + n / 32) : Nat) : Int) ||| BitVec.ofInt IntKind.u32.bits ((D V i * 2 ^ (n % 32) % 4294967296 : Nat) : Int)).toNat : Nat) = ((D (U V n i) (i + n / 32) + D V i * 2 ^ (n % 32) % 4294967296 : Nat) : Int) := by
  have h1 := lo_or (d := D V i) (r := n % 32) (by omega) (U_dig V n i)
  have h2 := up_lo (V := V) (n := n) (i := i)
  rw [← h1] at h2
  rw [← h1]
  exact or32 h2 (D_lt' _ _) (Nat.mod_lt _ (by decide))
/-- Behind the first of the two. -/
def U1 (V n i : Nat) : Nat := U V n i + D V i * 2 ^ (n % 32) % 4294967296 * Bs ^ (i + n / 32)
theorem up_hi0 {V n i : Nat} : D (U1 V n i) (i + n / 32 + 1) = 0 := by
  unfold U1
  rw [add_hi up_lo (by omega)]
  refine D_zero (Nat.lt_of_lt_of_le (U_lt V n i) ?_)
  rw [Nat.pow_succ, Nat.mul_comm]
  exact Nat.mul_le_mul_left _ (Nat.le_trans (p31 n) (by decide))
theorem up_hi {V n i : Nat} : D V i * 2 ^ (n % 32) / 4294967296 < Bs := by
  rw [Nat.div_lt_iff_lt_mul (by decide)]
  have h1 := D_lt' V i
  have h2 := p31 n
  calc D V i * 2 ^ (n % 32) ≤ 4294967296 * 2147483648 := Nat.mul_le_mul (by omega) h2
    _ < Bs * 4294967296 := by decide
theorem up_x64 {V n i : Nat} : D V i * 2 ^ (n % 32) < 18446744073709551616 := by
  have h := up_hi (V := V) (n := n) (i := i)
  rw [Nat.div_lt_iff_lt_mul (by decide)] at h
  exact h
theorem st_up1 {L V n i : Nat} (h : i + n / 32 < L) : splice ((dl L (U V n i)).map u32) (i + n / 32) [.int .u32 ((D (U V n i) (i + n / 32) + D V i * 2 ^ (n % 32) % 4294967296 : Nat) : Int)] = (dl L (U1 V n i)).map u32 := by
  rw [st_dig h, dl_set up_lo]; rfl
theorem st_up2 {L V n i : Nat} (h : i + n / 32 + 1 < L) : splice ((dl L (U1 V n i)).map u32) (i + n / 32 + 1) [.int .u32 ((D V i * 2 ^ (n % 32) / 4294967296 : Nat) : Int)] = (dl L (U V n (i + 1))).map u32 := by
  have e := dl_set (L := L) (V := U1 V n i) (j := i + n / 32 + 1) (d := D V i * 2 ^ (n % 32) / 4294967296) (by rw [up_hi0, Nat.zero_add]; exact up_hi)
  rw [up_hi0, Nat.zero_add] at e
  rw [st_dig h, e, U_next]; rfl
theorem rep_U (n V m : Nat) : List.replicate n (.int .u32 0) = (dl n (U V m 0)).map u32 := by
  rw [U_zero, dl_0, List.map_replicate]; rfl
theorem up_lt {V n : Nat} : V * 2 ^ n < Bs ^ (nd V + n / 32 + 1) := by
  have h := U_lt V n (nd V)
  rw [U_end] at h
  refine Nat.lt_of_lt_of_le h ?_
  rw [Nat.pow_succ, Nat.mul_comm]
  exact Nat.mul_le_mul_left _ (Nat.le_trans (p31 n) (by decide))
/-! ### A number's block -/
def Nb (w : World) (b V : Nat) : Prop := Rd w b 0 ((dl (nd V) V).map u32)
theorem Nb.dig {w : World} {b V i : Nat} (h : Nb w b V) (hi : i < nd V) : w.cell? ⟨b, i, none⟩ = some (.int .u32 ((D V i : Nat) : Int)) := by
  have := h i _ (dl_cell' hi)
  rwa [Nat.zero_add] at this
theorem Nb.of {w : World} {b L V : Nat} (h : Rd w b 0 ((dl L V).map u32)) (hV : V < Bs ^ L) : Nb w b V := fun i v hv => by
  refine h i v ?_
  have hl : i < nd V := by
    rcases Nat.lt_or_ge i (nd V) with c | c
    · exact c
    · rw [List.getElem?_eq_none (by rw [dl_mlen]; exact c)] at hv; cases hv
  rw [dl_cell' hl] at hv
  rw [dl_cell' (Nat.lt_of_lt_of_le hl (nd_le hV))]; exact hv
theorem nd_one {V : Nat} (h : V < 4294967296) : nd V = if V = 0 then 0 else 1 := by
  by_cases c : V = 0
  · subst c; rfl
  · rw [if_neg c]
    have h1 : nd V ≤ 1 := nd_le (L := 1) (by rw [Nat.pow_one]; exact h)
    have h2 : nd V ≠ 0 := by unfold nd; rw [if_neg c]; omega
    omega
theorem D_one {V : Nat} (h : V < 4294967296) : D V 0 = V := by unfold D; rw [Nat.pow_zero, Nat.div_one]; exact Nat.mod_eq_of_lt h
theorem Nb.one {w : World} {b V : Nat} (h : Rd w b 0 [.int .u32 ((V : Nat) : Int)]) (hV : V < 4294967296) : Nb w b V := by
  refine Nb.of (L := 1) ?_ (by rw [Nat.pow_one]; exact hV)
  have e : (dl 1 V).map u32 = [.int .u32 ((V : Nat) : Int)] := by simp [dl, u32, D_one hV, List.range_succ]
  rw [e]; exact h
theorem Nb.later {w w' : World} {b V : Nat} (h : Nb w b V) (hk : Keep None w w') : Nb w' b V := Rd.later h hk
end Nd
