/- The mean of one sample is that sample, to the bit. -/
import Derived.Test.YtjbpdhofhhinhaaBg
namespace Bc
open Go Ieee Fv Fp Sl Bl Bg Sx
set_option linter.unusedVariables false
theorem read_zero (s : Bool) : ∃ p, double.read (double.word s 0) = .number s 0 p ∧ -1074 ≤ p := by
  obtain ⟨m, p, e, h1, h2, h3⟩ := read_word fits_D s (r := 0) (by decide)
  have h0 : D.l0 = 226 := rfl
  rw [val_zero] at h3
  rcases Nat.mul_eq_zero.1 h3 with q | q
  · subst q; exact ⟨p, e, by omega⟩
  · have := Nat.two_pow_pos (p + 1300).toNat; omega
theorem write_zero (s : Bool) (p : Int) : double.write (.number s 0 p) = double.word s 0 := by
  show double.nearest s 0 p = _
  unfold Format.nearest; rw [if_pos rfl]
theorem write_inf (s : Bool) : double.write (.infinity s) = double.word s D.inf := by rw [show D.inf = double.infRung by decide +kernel]; rfl
/-- A zero's or an infinity's word. -/
def En (x : Option Nat) : Prop := ∃ s r, x = some (double.word s r) ∧ (r = 0 ∨ r = D.inf)
theorem En.times {x : Option Nat} (h : En x) {k : Nat} (h1 : 1 ≤ k) (h2 : k < 9007199254740992) : op .mul .f64 (some (floatOfInt .f64 (k : Int))) x = x := by
  obtain ⟨s, r, rfl, hr⟩ := h
  obtain ⟨n, j, e2, hn0, _⟩ := ofInt_read h1 h2
  show double.mul _ _ = _
  unfold Format.mul
  rcases hr with rfl | rfl
  · obtain ⟨p, e, _⟩ := read_zero s
    rw [e2, e]
    show some (double.write (.number (false ^^ s) (n * 0) (j + p))) = _
    rw [Nat.mul_zero, write_zero]; simp
  · rw [e2, read_inf fits_D s]
    simp only [Datum.product, if_neg (show ¬ n = 0 by omega), Option.map_some]
    rw [write_inf]; simp
theorem En.add {x : Option Nat} (h : En x) : op .add .f64 x x = x := by
  obtain ⟨s, r, rfl, hr⟩ := h
  show double.add _ _ = _
  unfold Format.add
  rcases hr with rfl | rfl
  · obtain ⟨p, e, _⟩ := read_zero s
    rw [e]
    have : Datum.sum (.number s 0 p) (.number s 0 p) = some (.number s 0 p) := by
      simp [Datum.sum, signed]
    rw [this, Option.map_some, write_zero]
  · rw [read_inf fits_D s]
    simp only [Datum.sum, if_pos, Option.map_some]
    rw [write_inf]
theorem En.quo {x : Option Nat} (h : En x) {k : Nat} (h1 : 1 ≤ k) (h2 : k < 9007199254740992) : op .quo .f64 x (some (floatOfInt .f64 (k : Int))) = x := by
  obtain ⟨s, r, rfl, hr⟩ := h
  obtain ⟨n, j, e2, hn0, _⟩ := ofInt_read h1 h2
  show double.div _ _ = _
  unfold Format.div
  rcases hr with rfl | rfl
  · obtain ⟨p, e, _⟩ := read_zero s
    rw [e2, e]
    have : ∃ q, Datum.quotient (double.fractionBits + 2) (.number s 0 p) (.number false n j) = some (.number s 0 q) := by
      refine ⟨p - j - ((double.fractionBits + 2 + n.log2 - (0 : Nat).log2 : Nat) : Int) - 1, ?_⟩
      unfold Datum.quotient
      simp only [if_neg (show ¬ n = 0 by omega)]
      simp
    obtain ⟨q, hq⟩ := this
    rw [hq, Option.map_some, write_zero]
  · rw [e2, read_inf fits_D s]
    simp only [Datum.quotient, Option.map_some]
    rw [write_inf]; simp
def end4 (c : Int) : Prop := c = 0 ∨ c = 2147483648 ∨ c = 2139095040 ∨ c = 4286578688
theorem V_end {c : Int} (h : end4 c) : En (V c) ∧ T (V c) = c := by
  rcases h with rfl | rfl | rfl | rfl
  · exact ⟨⟨false, 0, by decide +kernel, .inl rfl⟩, by decide +kernel⟩
  · exact ⟨⟨true, 0, by decide +kernel, .inl rfl⟩, by decide +kernel⟩
  · exact ⟨⟨false, D.inf, by decide +kernel, .inr rfl⟩, by decide +kernel⟩
  · exact ⟨⟨true, D.inf, by decide +kernel, .inr rfl⟩, by decide +kernel⟩
theorem nat_of {z : Int} (h : 1 ≤ z) : ∃ k : Nat, z = (k : Int) ∧ 1 ≤ k := ⟨z.toNat, by omega, by omega⟩
theorem acc_end {g : Nat → Int} {x : Option Nat} (h : En x) : ∀ m : Nat, 1 ≤ m → m ≤ 15 → (∀ i, i < m → 1 ≤ g i ∧ g i ≤ 16384) → acc g (fun _ => x) m = x
  | 0, h1, _, _ => absurd h1 (by omega)
  | m + 1, _, h2, hg => by
    obtain ⟨k, hk, hk1⟩ := nat_of (hg m (by omega)).1
    have hk2 := (hg m (by omega)).2
    have hp : pr (g m) x = x := by unfold pr; rw [hk]; exact h.times hk1 (by omega)
    rcases Nat.eq_zero_or_pos m with h0 | h0
    · rw [acc_first h0, hp]
    · rw [acc_next h0, hp, acc_end h m h0 (by omega) (fun i hi => hg i (by omega)), h.add]
theorem wgh_end {g : Nat → Int} {c : Int} (h : end4 c) {m : Nat} (h1 : 1 ≤ m) (h2 : m ≤ 15) (hg : ∀ i, i < m → 1 ≤ g i ∧ g i ≤ 16384) : wgh g (fun _ => c) m = c := by
  obtain ⟨he, ht⟩ := V_end h
  have hs := sm_bd (g := g) m h2 hg
  obtain ⟨k, hk, hk1⟩ := nat_of (show 1 ≤ sm g m by omega)
  unfold wgh wq
  rw [acc_end he m h1 h2 hg, hk, he.quo hk1 (by omega), ht]
/-! ### A number that is no zero -/
theorem exK {r : Int} (h : r.natAbs < S.inf) (k : Nat) (hk : k ≤ 300000) : Ex ((k : Int) * sv S r) := by
  obtain ⟨m, q, e, h1, h2, h3⟩ := sv_S h
  refine ⟨k * m, q, by rw [Int.natAbs_mul, Int.natAbs_natCast, e, Nat.mul_assoc], ?_, by omega, by omega⟩
  have : k * m ≤ 300000 * m := Nat.mul_le_mul_right _ hk
  omega
theorem acc_at {g : Nat → Int} {x : Option Nat} {r : Int} (hr : r.natAbs < S.inf) (h : At x (sv S r)) : ∀ m : Nat, 1 ≤ m → m ≤ 15 → (∀ i, i < m → 1 ≤ g i ∧ g i ≤ 16384) → At (acc g (fun _ => x) m) (sm g m * sv S r)
  | 0, h1, _, _ => absurd h1 (by omega)
  | m + 1, _, h2, hg => by
    obtain ⟨k, hk, hk1⟩ := nat_of (hg m (by omega)).1
    have hk2 := (hg m (by omega)).2
    have e1 := exK hr k (by omega)
    have hp : At (pr (g m) x) ((k : Int) * sv S r) := by
      have := At.times h (s := k) hk1 (by omega) (Int.le_refl _) (Int.le_refl _) e1 e1
      rw [R_ex e1] at this; unfold pr; rw [hk]; exact this
    rcases Nat.eq_zero_or_pos m with h0 | h0
    · rw [acc_first h0]; subst h0
      show At (pr (g 0) x) ((0 + g 0) * sv S r)
      rw [← hk] at hp
      rw [Int.zero_add]; exact hp
    · rw [acc_next h0]
      have hs := sm_bd (g := g) m (by omega) (fun i hi => hg i (by omega))
      obtain ⟨j, hj, hj1⟩ := nat_of (show 1 ≤ sm g m by omega)
      have ha := acc_at hr h m h0 (by omega) (fun i hi => hg i (by omega))
      rw [hj] at ha
      have es : (j : Int) * sv S r + (k : Int) * sv S r = ((j + k : Nat) : Int) * sv S r := by rw [Int.natCast_add, Int.add_mul]
      have e2 := exK hr (j + k) (by omega)
      rw [← es] at e2
      have := At.add ha hp (Int.le_refl _) (Int.le_refl _) e2 e2
      rw [R_ex e2, es] at this
      have e3 : (sm g m + g m) * sv S r = ((j + k : Nat) : Int) * sv S r := by rw [hj, hk, Int.natCast_add]
      show At _ ((sm g m + g m) * sv S r)
      rw [e3]; exact this
theorem rk_inj {a b : Int} (ha : 0 ≤ a ∧ a < 4294967296) (hb : 0 ≤ b ∧ b < 4294967296) (h : rk a = rk b) (h0 : rk a ≠ 0) : a = b := by
  unfold rk at h h0
  split at h <;> split at h <;> (try split at h0) <;> omega
theorem wgh_num {g : Nat → Int} {c : Int} (hc : 0 ≤ c ∧ c < 4294967296) (hr : (rk c).natAbs < 2139095040) (h0 : rk c ≠ 0) {m : Nat} (h1 : 1 ≤ m) (h2 : m ≤ 15) (hg : ∀ i, i < m → 1 ≤ g i ∧ g i ≤ 16384) : wgh g (fun _ => c) m = c := by
  have hv := V_at hc hr
  have hs := sm_bd (g := g) m h2 hg
  obtain ⟨k, hk, hk1⟩ := nat_of (show 1 ≤ sm g m by omega)
  have ha := acc_at (g := g) (show (rk c).natAbs < S.inf from hr) hv m h1 h2 hg
  rw [hk] at ha
  obtain ⟨Y, hY⟩ := hv.share 1 (by omega)
  have hY2 : sv S (rk c) = 2 * Y := by rw [hY]; show Y * 2 = _; omega
  have hq : sNc ((k : Int) * sv S (rk c)) k = sv S (rk c) := by rw [hY2]; exact sNc_exact hk1
  have e1 := exK (show (rk c).natAbs < S.inf from hr) 1 (by omega)
  rw [show ((1 : Nat) : Int) * sv S (rk c) = sv S (rk c) from Int.one_mul _] at e1
  have hw := At.quo ha hk1 (by omega) (A := sv S (rk c)) (B := sv S (rk c)) (by rw [hq]; exact Int.le_refl _) (by rw [hq]; exact Int.le_refl _) e1 e1
  rw [hq, R_ex e1] at hw
  have ht := hw.told (a := rk c) (b := rk c) (Int.le_refl _) (Int.le_refl _) (by omega) (by omega) (by omega) (by omega)
  have hT : wgh g (fun _ => c) m = T (op .quo .f64 (acc g (fun _ => V c) m) (some (floatOfInt .f64 (k : Int)))) := by unfold wgh wq; rw [hk]
  rw [hT]
  refine rk_inj ⟨ht.2.2.2.2.1, ht.2.2.2.2.2⟩ hc ?_ ?_
  · rw [ht.2.1, SR_sv S (by rw [sInf]; omega)]
  · rw [ht.2.1, SR_sv S (by rw [sInf]; omega)]; exact h0
/-- A sample; a NaN is made. -/
def md (c : Int) : Int := if (rk c).natAbs ≤ 2139095040 then c else 2143289344
theorem acc_nan {g : Nat → Int} : ∀ m : Nat, 1 ≤ m → acc g (fun _ => none) m = none
  | 0, h1 => absurd h1 (by omega)
  | 1, _ => rfl
  | m + 2, _ => by rw [acc_next (by omega), acc_nan (m + 1) (by omega)]; rfl
theorem wgh_md {g : Nat → Int} {c : Int} (hc : 0 ≤ c ∧ c < 4294967296) {m : Nat} (h1 : 1 ≤ m) (h2 : m ≤ 15) (hg : ∀ i, i < m → 1 ≤ g i ∧ g i ≤ 16384) : wgh g (fun _ => c) m = md c := by
  unfold md
  by_cases h : (rk c).natAbs ≤ 2139095040
  · rw [if_pos h]
    by_cases h3 : (rk c).natAbs < 2139095040 ∧ rk c ≠ 0
    · exact wgh_num hc h3.1 h3.2 h1 h2 hg
    · refine wgh_end ?_ h1 h2 hg
      unfold end4; unfold rk at h h3; split at h <;> simp only [*, if_true, if_false] at h3 <;> omega
  · rw [if_neg h]
    unfold wgh wq
    simp only [V_nan hc h]
    rw [acc_nan m h1]; rfl
theorem md_md (c : Int) : md (md c) = md c := by
  unfold md
  by_cases h : (rk c).natAbs ≤ 2139095040
  · rw [if_pos h, if_pos h]
  · rw [if_neg h]; rfl
theorem md_is {c : Int} (hc : 0 ≤ c ∧ c < 4294967296) (h : c / 8388608 % 256 = 255 ∧ c % 8388608 ≠ 0) : md c = 2143289344 := by
  unfold md rk; rw [if_neg]; split <;> omega
theorem md_no {c : Int} (hc : 0 ≤ c ∧ c < 4294967296) (h : ¬ (c / 8388608 % 256 = 255 ∧ c % 8388608 ≠ 0)) : md c = c := by
  unfold md rk; rw [if_pos]; split <;> omega
theorem md_bd {c : Int} (hc : 0 ≤ c ∧ c < 4294967296) : 0 ≤ md c ∧ md c < 4294967296 := by unfold md; split <;> omega
/-! ### Planes -/
theorem nx_in {xs : List Int} {W : Nat} {k : Int} {x y : Nat} (hk : 1 ≤ k ∧ k ≤ 3) (hW : 1 ≤ W ∧ W ≤ 1024) (hx : x < W) : nx xs W k x y 0 = smp xs W x y := by
  unfold nx; rw [Int.add_zero, bord_in hk.1 hk.2 (by omega) (by omega) (by omega) (by omega)]; rfl
theorem ny_in {xs : List Int} {W H : Nat} {k : Int} {x y : Nat} (hk : 1 ≤ k ∧ k ≤ 3) (hH : 1 ≤ H ∧ H ≤ 1024) (hy : y < H) : ny xs W H k x y 0 = smp xs W x y := by
  unfold ny; rw [Int.add_zero, bord_in hk.1 hk.2 (by omega) (by omega) (by omega) (by omega)]; rfl
theorem blx_0 {kd : Int} {xs : List Int} {W H : Nat} {k : Int} {x y : Nat} (hu : ∀ v ∈ xs, 0 ≤ v ∧ v < 4294967296) (hk : 1 ≤ k ∧ k ≤ 3) (hok : okP W H) (hx : x < W) : blx (gk kd 0) 0 xs W k x y = md (smp xs W x y) := by
  unfold blx
  rw [wgh_congr (l' := fun _ => smp xs W x y) (fun i hi => by
    have : i = 0 := by omega
    subst this; exact nx_in hk ⟨hok.1, hok.2.2.1⟩ hx)]
  exact wgh_md (smp_bd hu W x y) (by omega) (by omega) (gk_bd (by omega))
theorem bly_0 {kd : Int} {xs : List Int} {W H : Nat} {k : Int} {x y : Nat} (hu : ∀ v ∈ xs, 0 ≤ v ∧ v < 4294967296) (hk : 1 ≤ k ∧ k ≤ 3) (hok : okP W H) (hy : y < H) : bly (gk kd 0) 0 xs W H k x y = md (smp xs W x y) := by
  unfold bly
  rw [wgh_congr (l' := fun _ => smp xs W x y) (fun i hi => by
    have : i = 0 := by omega
    subst this; exact ny_in hk ⟨hok.2.1, hok.2.2.2.1⟩ hy)]
  exact wgh_md (smp_bd hu W x y) (by omega) (by omega) (gk_bd (by omega))
/-- Radius 0. -/
theorem blr_0 {kd : Int} {xs : List Int} {W H : Nat} {k : Int} (hx0 : xs.length = W * H) (hu : ∀ v ∈ xs, 0 ≤ v ∧ v < 4294967296) (hk : 1 ≤ k ∧ k ≤ 3) (hok : okP W H) : tab W (blr (gk kd 0) 0 xs W H k) (W * H) = xs.map md := by
  have h1 : tab W (fun x y => md (smp xs W x y)) (W * H) = xs.map md := by
    apply getD_ext
    · rw [tab_len, List.length_map, hx0]
    · intro j hj
      rw [tab_len] at hj
      have hj2 : j < xs.length := by omega
      simp [tab, hj, smp, Nat.div_add_mod, List.getD_eq_getElem?_getD, hj2]
  rw [← h1]
  apply tab_ext
  intro x y hx hy
  unfold blr
  rw [bly_0 (tab_bd (fun x y => blx_bd x y)) hk hok hy, tab_get _ hx hy, blx_0 hu hk hok hx, md_md]
/-- One sample everywhere. -/
theorem blr_one {kd : Int} {r : Nat} {xs : List Int} {W H : Nat} {k c : Int} (hr : r ≤ 7) (hc : 0 ≤ c ∧ c < 4294967296) (hm : md c = c) (hx : xs = tab W (fun _ _ => c) (W * H)) (hk : 1 ≤ k ∧ k ≤ 3) (hok : okP W H) : tab W (blr (gk kd r) r xs W H k) (W * H) = xs := by
  have e1 : ∀ x y, x < W → y < H → blx (gk kd r) r xs W k x y = c := by
    intro x y hx' hy
    unfold blx
    rw [wgh_congr (l' := fun _ => c) (fun i hi => by unfold nx; rw [hx, tab_get _ (bX hk hok) hy]), wgh_md hc (by omega) (by omega) (gk_bd hr), hm]
  conv => rhs; rw [hx]
  apply tab_ext
  intro x y hx' hy
  unfold blr bly
  rw [wgh_congr (l' := fun _ => c) (fun i hi => by unfold ny; rw [tab_get _ hx' (bY hk hok), e1 _ _ hx' (bY hk hok)]), wgh_md hc (by omega) (by omega) (gk_bd hr), hm]
/-! ### Stores -/
theorem splice_one (cs : List Value) (k : Nat) (v : Value) (h : k < cs.length) : splice cs k [v] = cs.set k v := by
  rw [← splice_cons cs k v [] h, splice_nil]
theorem set_store {ys : List Int} {k : Nat} {v : Int} (sp : List Value) (h : k < ys.length) : splice (ys.map u32 ++ sp) k [.int .u32 v] = (ys.set k v).map u32 ++ sp := by
  rw [splice_one _ _ _ (by rw [List.length_append, List.length_map]; omega), List.set_append_left _ _ (by rw [List.length_map]; exact h), List.map_set]; rfl
theorem set_store' {ys : List Int} {k : Nat} {v : Int} (h : k < ys.length) : splice (ys.map u32) k [.int .u32 v] = (ys.set k v).map u32 := by
  rw [splice_one _ _ _ (by rw [List.length_map]; exact h), List.map_set]; rfl
theorem pre_rd {w : World} {b o : Nat} {A B : List Value} (h : Rd w b o (A ++ B)) : Rd w b o A := fun j v hj => by
  have hl : j < A.length := (List.getElem?_eq_some_iff.1 hj).1
  exact h j v (by rw [List.getElem?_append_left hl]; exact hj)
theorem tab_at {W H x y : Nat} (g : Nat → Nat → Int) (hx : x < W) (hy : y < H) : ((tab W g (W * H)).map u32)[W * y + x]? = some (.int .u32 (g x y)) := by
  have h := place_lt (W := W) hx hy
  obtain ⟨h1, h2⟩ := at_place (W := W) (x := x) (y := y) hx
  simp [tab, h, h1, h2, u32]
/-! ### Planes moved round -/
theorem rot {x d W : Nat} (hx : x < W) (hd : d < W) : ((x + d) % W + (W - d)) % W = x ∧ ((x + (W - d)) % W + d) % W = x := by
  constructor
  · rcases Nat.lt_or_ge (x + d) W with h | h
    · rw [Nat.mod_eq_of_lt h, show x + d + (W - d) = x + W by omega, Nat.add_mod_right, Nat.mod_eq_of_lt hx]
    · rw [Nat.mod_eq_sub_mod h, Nat.mod_eq_of_lt (show x + d - W < W by omega), show x + d - W + (W - d) = x by omega, Nat.mod_eq_of_lt hx]
  · rcases Nat.lt_or_ge (x + (W - d)) W with h | h
    · rw [Nat.mod_eq_of_lt h, show x + (W - d) + d = x + W by omega, Nat.add_mod_right, Nat.mod_eq_of_lt hx]
    · rw [Nat.mod_eq_sub_mod h, Nat.mod_eq_of_lt (show x + (W - d) - W < W by omega), show x + (W - d) - W + d = x by omega, Nat.mod_eq_of_lt hx]
def pre (W H dx dy j : Nat) : Nat := W * ((j / W + (H - dy)) % H) + (j % W + (W - dx)) % W
def tgt (W H dx dy x y : Nat) : Nat := W * ((y + dy) % H) + (x + dx) % W
def mvf (xs : List Int) (W H dx dy k j : Nat) : Int := if pre W H dx dy j < k then xs.getD (pre W H dx dy j) 0 else xs.getD j 0
def ws (N : Nat) (f : Nat → Int) : List Int := (List.range N).map f
theorem ws_len (N : Nat) (f : Nat → Int) : (ws N f).length = N := by simp [ws]
theorem ws_get {N k : Nat} {f : Nat → Int} (h : k < N) : (ws N f).getD k 0 = f k := by rw [List.getD_eq_getElem?_getD]; simp [ws, h]
theorem ws_ext {N : Nat} {f : Nat → Int} {ys : List Int} (hl : ys.length = N) (h : ∀ j, j < N → f j = ys.getD j 0) : ws N f = ys := by
  apply getD_ext
  · rw [ws_len, hl]
  · intro j hj; rw [ws_len] at hj; rw [ws_get hj, h j hj]
theorem set_get {ys : List Int} {k j : Nat} {v : Int} (hk : k < ys.length) : (ys.set k v).getD j 0 = if k = j then v else ys.getD j 0 := by
  rw [List.getD_eq_getElem?_getD, List.getD_eq_getElem?_getD, List.getElem?_set]
  by_cases h : k = j
  · subst h; simp [hk]
  · simp [h]
theorem ws_set {N k : Nat} {f g : Nat → Int} {v : Int} (hk : k < N) (hv : v = g k) (hg : ∀ j, j < N → j ≠ k → f j = g j) : (ws N f).set k v = ws N g := by
  symm
  apply ws_ext
  · rw [List.length_set, ws_len]
  · intro j hj
    rw [set_get (by rw [ws_len]; exact hk)]
    by_cases h : k = j
    · subst h; rw [if_pos rfl, hv]
    · rw [if_neg h, ws_get hj, hg j hj (fun q => h q.symm)]
theorem tgt_lt {W H dx dy x y : Nat} (hx : x < W) (hy : y < H) : tgt W H dx dy x y < W * H := place_lt (Nat.mod_lt _ (by omega)) (Nat.mod_lt _ (by omega))
theorem pre_lt {W H dx dy j : Nat} (hW : 0 < W) (hH : 0 < H) : pre W H dx dy j < W * H := place_lt (Nat.mod_lt _ hW) (Nat.mod_lt _ hH)
theorem pre_tgt {W H dx dy x y : Nat} (hx : x < W) (hy : y < H) (hdx : dx < W) (hdy : dy < H) : pre W H dx dy (tgt W H dx dy x y) = W * y + x := by
  unfold pre tgt
  obtain ⟨h1, h2⟩ := at_place (W := W) (x := (x + dx) % W) (y := (y + dy) % H) (Nat.mod_lt _ (by omega))
  rw [h1, h2, (rot hx hdx).1, (rot hy hdy).1]
theorem tgt_of {W H dx dy x y j : Nat} (hx : x < W) (hy : y < H) (hdx : dx < W) (hdy : dy < H) (hj : j < W * H) (h : pre W H dx dy j = W * y + x) : j = tgt W H dx dy x y := by
  unfold pre at h
  obtain ⟨a1, a2⟩ := at_place (W := W) (x := (j % W + (W - dx)) % W) (y := (j / W + (H - dy)) % H) (Nat.mod_lt _ (by omega))
  obtain ⟨b1, b2⟩ := at_place (W := W) (x := x) (y := y) hx
  rw [h] at a1 a2
  rw [b1] at a1; rw [b2] at a2
  have c1 := (rot (Nat.mod_lt j (show 0 < W by omega)) hdx).2
  have c2 := (rot (Nat.div_lt_of_lt_mul hj) hdy).2
  rw [← a1] at c1; rw [← a2] at c2
  unfold tgt
  rw [c1, c2]; exact (Nat.div_add_mod j W).symm
theorem mv_start {xs : List Int} {W H dx dy : Nat} (hx : xs.length = W * H) : ws (W * H) (mvf xs W H dx dy 0) = xs := ws_ext hx fun j _ => if_neg (Nat.not_lt_zero _)
theorem mv_step {xs : List Int} {W H dx dy x y : Nat} (hx : x < W) (hy : y < H) (hdx : dx < W) (hdy : dy < H) : (ws (W * H) (mvf xs W H dx dy (W * y + x))).set (tgt W H dx dy x y) (smp xs W x y) = ws (W * H) (mvf xs W H dx dy (W * y + (x + 1))) := by
  apply ws_set (tgt_lt hx hy)
  · unfold mvf; rw [pre_tgt hx hy hdx hdy, if_pos (by omega)]; rfl
  · intro j hj hne
    have : pre W H dx dy j ≠ W * y + x := fun q => hne (tgt_of hx hy hdx hdy hj q)
    unfold mvf
    by_cases c : pre W H dx dy j < W * y + x
    · rw [if_pos c, if_pos (by omega)]
    · rw [if_neg c, if_neg (by omega)]
def mvd (xs : List Int) (W H dx dy : Nat) : List Int := tab W (fun x y => smp xs W ((x + (W - dx)) % W) ((y + (H - dy)) % H)) (W * H)
theorem mv_end {xs : List Int} {W H dx dy : Nat} (hW : 0 < W) (hH : 0 < H) : ws (W * H) (mvf xs W H dx dy (W * H)) = mvd xs W H dx dy := by
  unfold mvd tab ws
  apply List.map_congr_left
  intro j hj
  unfold mvf; rw [if_pos (pre_lt hW hH)]; rfl
theorem mvd_len {xs : List Int} {W H dx dy : Nat} : (mvd xs W H dx dy).length = W * H := tab_len _ _ _
theorem mvd_bd {xs : List Int} {W H dx dy : Nat} (hu : ∀ v ∈ xs, 0 ≤ v ∧ v < 4294967296) : ∀ v ∈ mvd xs W H dx dy, 0 ≤ v ∧ v < 4294967296 := tab_bd fun x y => smp_bd hu W _ _
theorem bord_3 {n : Nat} {i : Int} (h1 : 1 ≤ n) (h2 : n ≤ 1024) : (bord 3 n i).1 = i % (n : Int) := by
  rw [← rst_eq i (by omega)]; unfold bord; rw [if_neg (by decide), if_neg (by omega), if_neg (by decide), if_pos rfl]
theorem wrap_x {W dx x : Nat} {t : Int} (hW : 1 ≤ W) (hd : dx < W) : (((x : Int) + t) % (W : Int)).toNat = ((((x : Int) + t) % (W : Int)).toNat) ∧ ((((x : Int) + t) % (W : Int)).toNat + (W - dx)) % W = (((((x + (W - dx)) % W : Nat) : Int) + t) % (W : Int)).toNat := by
  refine ⟨rfl, ?_⟩
  have hp : (0 : Int) < (W : Int) := by omega
  have h0 := Int.emod_nonneg ((x : Int) + t) (show (W : Int) ≠ 0 by omega)
  apply Int.ofNat.inj
  show (((((x : Int) + t) % (W : Int)).toNat + (W - dx)) % W : Nat) = ((((((x + (W - dx)) % W : Nat) : Int) + t) % (W : Int)).toNat : Int)
  rw [Int.natCast_emod, Int.natCast_add, Int.toNat_of_nonneg h0, Int.emod_add_emod]
  have h1 := Int.emod_nonneg ((((x + (W - dx)) % W : Nat) : Int) + t) (show (W : Int) ≠ 0 by omega)
  rw [Int.toNat_of_nonneg h1, Int.natCast_emod, Int.emod_add_emod, Int.natCast_add]
  congr 1; omega
theorem nx_mv {xs : List Int} {W H dx dy x y : Nat} {t : Int} (hok : okP W H) (hdx : dx < W) (hdy : dy < H) (hx : x < W) (hy : y < H) : nx (mvd xs W H dx dy) W 3 x y t = nx xs W 3 ((x + (W - dx)) % W) ((y + (H - dy)) % H) t := by
  unfold nx
  have hb : (bord 3 W (x + t)).1.toNat < W := bX ⟨by decide, by decide⟩ hok
  unfold mvd
  rw [tab_get _ hb hy, bord_3 hok.1 hok.2.2.1, bord_3 hok.1 hok.2.2.1, (wrap_x hok.1 hdx).2]
theorem ny_mv {xs : List Int} {W H dx dy x y : Nat} {t : Int} (hok : okP W H) (hdx : dx < W) (hdy : dy < H) (hx : x < W) (hy : y < H) : ny (mvd xs W H dx dy) W H 3 x y t = ny xs W H 3 ((x + (W - dx)) % W) ((y + (H - dy)) % H) t := by
  unfold ny
  have hb : (bord 3 H (y + t)).1.toNat < H := bY ⟨by decide, by decide⟩ hok
  unfold mvd
  rw [tab_get _ hx hb, bord_3 hok.2.1 hok.2.2.2.1, bord_3 hok.2.1 hok.2.2.2.1, (wrap_x hok.2.1 hdy).2]
theorem slx_mv {xs : List Int} {W H dx dy : Nat} (hok : okP W H) (hdx : dx < W) (hdy : dy < H) : tab W (slx (mvd xs W H dx dy) W 3) (W * H) = mvd (tab W (slx xs W 3) (W * H)) W H dx dy := by
  unfold mvd
  apply tab_ext
  intro x y hx hy
  rw [tab_get _ (Nat.mod_lt _ (by omega)) (Nat.mod_lt _ (by omega))]
  unfold slx
  have h1 := nx_mv (xs := xs) (t := 1) hok hdx hdy hx hy
  have h2 := nx_mv (xs := xs) (t := -1) hok hdx hdy hx hy
  unfold mvd at h1 h2
  rw [h1, h2]
theorem sly_mv {xs : List Int} {W H dx dy : Nat} (hok : okP W H) (hdx : dx < W) (hdy : dy < H) : tab W (sly (mvd xs W H dx dy) W H 3) (W * H) = mvd (tab W (sly xs W H 3) (W * H)) W H dx dy := by
  unfold mvd
  apply tab_ext
  intro x y hx hy
  rw [tab_get _ (Nat.mod_lt _ (by omega)) (Nat.mod_lt _ (by omega))]
  unfold sly
  have h1 := ny_mv (xs := xs) (t := 1) hok hdx hdy hx hy
  have h2 := ny_mv (xs := xs) (t := -1) hok hdx hdy hx hy
  unfold mvd at h1 h2
  rw [h1, h2]
/-! ### Near samples -/
def agr (xs ys : List Int) (W H : Nat) (k : Int) (r x y i j : Nat) : Prop := smp xs W (bord k W ((x : Int) + (((i : Nat) : Int) - ((r : Nat) : Int)))).1.toNat (bord k H ((y : Int) + (((j : Nat) : Int) - ((r : Nat) : Int)))).1.toNat = smp ys W (bord k W ((x : Int) + (((i : Nat) : Int) - ((r : Nat) : Int)))).1.toNat (bord k H ((y : Int) + (((j : Nat) : Int) - ((r : Nat) : Int)))).1.toNat
theorem blr_near {g : Nat → Int} {r : Nat} {xs ys : List Int} {W H : Nat} {k : Int} {x y : Nat} (hk : 1 ≤ k ∧ k ≤ 3) (hok : okP W H) (hx : x < W) (hy : y < H) (h : ∀ i j, i < 2 * r + 1 → j < 2 * r + 1 → agr xs ys W H k r x y i j) : blr g r xs W H k x y = blr g r ys W H k x y := by
  unfold blr bly
  apply wgh_congr
  intro j hj
  unfold ny
  rw [tab_get _ hx (bY hk hok), tab_get _ hx (bY hk hok)]
  unfold blx
  apply wgh_congr
  intro i hi
  exact h i j hi hj
def near (xs ys : List Int) (W H : Nat) (k : Int) (r x y a b : Nat) : Prop := ys.length = W * H ∧ (∀ v ∈ ys, 0 ≤ v ∧ v < 4294967296) ∧ ∀ i j, i < 2 * r + 1 → (j < a ∨ (j = a ∧ i < b)) → agr xs ys W H k r x y i j
theorem near_zero {xs ys : List Int} {W H : Nat} {k : Int} {r x y : Nat} (hl : ys.length = W * H) (hu : ∀ v ∈ ys, 0 ≤ v ∧ v < 4294967296) : near xs ys W H k r x y 0 0 := ⟨hl, hu, fun i j _ h => by omega⟩
theorem near_row {xs ys : List Int} {W H : Nat} {k : Int} {r x y a b : Nat} (h : near xs ys W H k r x y a b) (hb : 2 * r + 1 ≤ b) : near xs ys W H k r x y (a + 1) 0 := ⟨h.1, h.2.1, fun i j hi hj => h.2.2 i j hi (by omega)⟩
theorem near_step {xs ys : List Int} {W H : Nat} {k : Int} {r x y a b : Nat} (hk : 1 ≤ k ∧ k ≤ 3) (hok : okP W H) (hu : ∀ v ∈ xs, 0 ≤ v ∧ v < 4294967296) (h : near xs ys W H k r x y a b) :
    near xs (ys.set (W * (bord k H ((y : Int) + (((a : Nat) : Int) - ((r : Nat) : Int)))).1.toNat + (bord k W ((x : Int) + (((b : Nat) : Int) - ((r : Nat) : Int)))).1.toNat) (smp xs W (bord k W ((x : Int) + (((b : Nat) : Int) - ((r : Nat) : Int)))).1.toNat (bord k H ((y : Int) + (((a : Nat) : Int) - ((r : Nat) : Int)))).1.toNat)) W H k r x y a (b + 1) := by
  obtain ⟨h1, h2, h3⟩ := h
  have hX : (bord k W ((x : Int) + (((b : Nat) : Int) - ((r : Nat) : Int)))).1.toNat < W := bX hk hok
  have hY : (bord k H ((y : Int) + (((a : Nat) : Int) - ((r : Nat) : Int)))).1.toNat < H := bY hk hok
  have hp := place_lt hX hY
  refine ⟨by rw [List.length_set, h1], ?_, ?_⟩
  · intro v hv
    rcases List.mem_or_eq_of_mem_set hv with q | q
    · exact h2 v q
    · rw [q]; exact smp_bd hu W _ _
  · intro i j hi hj
    unfold agr
    conv => rhs; unfold smp
    rw [set_get (by omega)]
    split
    · rename_i e
      unfold smp; rw [e]
    · rename_i e
      have hj' : j < a ∨ (j = a ∧ i < b) := by
        rcases hj with q | ⟨rfl, q⟩
        · exact .inl q
        · rcases Nat.lt_or_ge i b with q2 | q2
          · exact .inr ⟨rfl, q2⟩
          · have : i = b := by omega
            subst this; exact absurd rfl e
      exact h3 i j hi hj'
theorem near_all {xs ys : List Int} {W H : Nat} {k : Int} {r x y a : Nat} (h : near xs ys W H k r x y a 0) (ha : 2 * r + 1 ≤ a) : ∀ i j, i < 2 * r + 1 → j < 2 * r + 1 → agr xs ys W H k r x y i j := fun i j hi hj => h.2.2 i j hi (by omega)
/-- May a blur be asked? -/
def rightB (W H : Int) (n : Nat) (kd r k : Int) : Bool := decide (chk W H n = 0 ∧ (kd = 1 ∨ kd = 2) ∧ 0 ≤ r ∧ r ≤ 7 ∧ 1 ≤ k ∧ k ≤ 3)
theorem md_get {xs : List Int} (i : Nat) (h : i < xs.length) : (xs.map md).getD i 0 = md (xs.getD i 0) := by
  rw [List.getD_eq_getElem?_getD, List.getD_eq_getElem?_getD]; simp [h]
theorem cell_at {ys : List Int} {j : Nat} (h : j < ys.length) : (ys.map u32)[j]? = some (.int .u32 (ys.getD j 0)) := by
  rw [List.getD_eq_getElem?_getD]; simp [h, u32]
end Bc
