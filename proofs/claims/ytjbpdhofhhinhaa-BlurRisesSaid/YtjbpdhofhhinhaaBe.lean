/- What rises: means of samples one nowhere above the other; the least and the greatest of two floats. -/
import Derived.Test.YtjbpdhofhhinhaaBc
namespace Sx
open Go Ieee
set_option linter.unusedVariables false
def minB (k : FloatKind) (X Y : Nat) : Nat := match k.format.order X Y with | some .lt => X | some .gt => Y | _ => if (k.decode X).neg then X else Y
def maxB (k : FloatKind) (X Y : Nat) : Nat := match k.format.order X Y with | some .lt => Y | some .gt => X | _ => if (k.decode X).neg then Y else X
section
variable {P : Program} {n : Nat} {M : Nat → Prop} {w0 : World} {l : List (Nat × Value)} {L : List Blk}
theorem Ex.minF {x y : Operand} {k : FloatKind} {X Y : Nat} {tys : Array TypeId} (hx : opv l x = some (.float k X)) (hy : opv l y = some (.float k Y)) (ho : k.format.order X Y ≠ none) : Ex P n M w0 l L (.call ⟨.builtin .min, #[x, y], tys⟩) (.float k (minB k X Y)) := fun d ty pos af g a w hF hH => by
  show (do let d ← resolve a.eval ⟨.builtin .min, #[x, y], tys⟩ ty; invoke d.target d.args : Sem Next).run P w = _
  unfold minB
  cases h : k.format.order X Y with
  | none => exact absurd h ho
  | some o => cases o <;> simp [resolve, invoke, builtin, Builtin.min_, Builtin.min2, hF.eval hx, hF.eval hy, h]
theorem Ex.maxF {x y : Operand} {k : FloatKind} {X Y : Nat} {tys : Array TypeId} (hx : opv l x = some (.float k X)) (hy : opv l y = some (.float k Y)) (ho : k.format.order X Y ≠ none) : Ex P n M w0 l L (.call ⟨.builtin .max, #[x, y], tys⟩) (.float k (maxB k X Y)) := fun d ty pos af g a w hF hH => by
  show (do let d ← resolve a.eval ⟨.builtin .max, #[x, y], tys⟩ ty; invoke d.target d.args : Sem Next).run P w = _
  unfold maxB
  cases h : k.format.order X Y with
  | none => exact absurd h ho
  | some o => cases o <;> simp [resolve, invoke, builtin, Builtin.max_, Builtin.max2, hF.eval hx, hF.eval hy, h]
end
end Sx
namespace Be
open Go Ieee Fv Fp Sl Bl Bg Bc Sx
set_option linter.unusedVariables false
/-- A finite sample. -/
def fin (c : Int) : Prop := 0 ≤ c ∧ c < 4294967296 ∧ (rk c).natAbs < 2139095040
theorem fin_is {c : Int} (h : 0 ≤ c ∧ c < 4294967296) (hf : c / 8388608 % 256 ≠ 255) : fin c := ⟨h.1, h.2, by unfold rk; split <;> omega⟩
theorem fin_no {c : Int} (h : 0 ≤ c ∧ c < 4294967296) (hf : c / 8388608 % 256 = 255) : ¬ fin c := by
  rintro ⟨_, _, q⟩; unfold rk at q; split at q <;> omega
theorem Mx_pos : 0 < Mx := by decide +kernel
theorem sv_Mx {r : Int} (h : r.natAbs < 2139095040) : -Mx ≤ sv S r ∧ sv S r ≤ Mx := by
  constructor
  · show -sv S 2139095039 ≤ _
    rw [← sv_sym]; exact sv_mono S (by omega) (by rw [sInf]; omega) (by rw [sInf]; omega)
  · exact sv_mono S (by omega) (by rw [sInf]; omega) (by rw [sInf]; omega)
theorem acc_two {g : Nat → Int} {a b : Nat → Int} : ∀ m : Nat, 1 ≤ m → m ≤ 15 → (∀ i, i < m → 1 ≤ g i ∧ g i ≤ 16384) → (∀ i, i < m → fin (a i) ∧ fin (b i) ∧ rk (a i) ≤ rk (b i)) →
    ∃ A B, At (acc g (fun i => V (a i)) m) A ∧ At (acc g (fun i => V (b i)) m) B ∧ A ≤ B ∧ -(sm g m * Mx) ≤ A ∧ B ≤ sm g m * Mx
  | 0, h1, _, _, _ => absurd h1 (by omega)
  | m + 1, _, h2, hg, hf => by
    obtain ⟨k, hk, hk1⟩ := nat_of (hg m (by omega)).1
    have hk2 := (hg m (by omega)).2
    obtain ⟨fa, fb, hab⟩ := hf m (by omega)
    have va := V_at ⟨fa.1, fa.2.1⟩ fa.2.2
    have vb := V_at ⟨fb.1, fb.2.1⟩ fb.2.2
    have ba := sv_Mx fa.2.2
    have bb := sv_Mx fb.2.2
    have hs := sv_mono S hab (by have := fa.2.2; rw [sInf]; omega) (by have := fb.2.2; rw [sInf]; omega)
    have eK := exM k (by omega)
    have a1 := scl_le k ba.1; have a2 := scl_le k ba.2; have b1 := scl_le k bb.1; have b2 := scl_le k bb.2; have s1 := scl_le k hs
    rw [Int.mul_neg] at a1 b1
    have pa : At (pr (g m) (V (a m))) (R ((k : Int) * sv S (rk (a m)))) := by unfold pr; rw [hk]; exact At.times va hk1 (by omega) a1 a2 eK.2 eK.1
    have pb : At (pr (g m) (V (b m))) (R ((k : Int) * sv S (rk (b m)))) := by unfold pr; rw [hk]; exact At.times vb hk1 (by omega) b1 b2 eK.2 eK.1
    have pm := R_mono s1
    have pl := R_ge a1 eK.2
    have pu := R_le b2 eK.1
    have hsm : sm g (m + 1) * Mx = sm g m * Mx + (k : Int) * Mx := by show (sm g m + g m) * Mx = _; rw [hk, Int.add_mul]
    rcases Nat.eq_zero_or_pos m with h0 | h0
    · rw [acc_first h0, acc_first h0]
      have z : sm g m = 0 := by subst h0; rfl
      refine ⟨_, _, pa, pb, pm, ?_, ?_⟩
      · rw [hsm, z]; omega
      · rw [hsm, z]; omega
    · rw [acc_next h0, acc_next h0]
      obtain ⟨A, B, hA, hB, h3, h4, h5⟩ := acc_two (g := g) (a := a) (b := b) m h0 (by omega) (fun i hi => hg i (by omega)) (fun i hi => hf i (by omega))
      have hs := sm_bd (g := g) m (by omega) (fun i hi => hg i (by omega))
      obtain ⟨j, hj, hj1⟩ := nat_of (show 1 ≤ sm g m by omega)
      have ej : sm g (m + 1) * Mx = ((j + k : Nat) : Int) * Mx := by show (sm g m + g m) * Mx = _; rw [hj, hk, Int.natCast_add]
      have eJ := exM (j + k) (by omega)
      rw [← ej, hsm] at eJ
      refine ⟨_, _, At.add hA pa (A := -(sm g m * Mx + (k : Int) * Mx)) (B := sm g m * Mx + (k : Int) * Mx) (by omega) (by omega) eJ.2 eJ.1, At.add hB pb (A := -(sm g m * Mx + (k : Int) * Mx)) (B := sm g m * Mx + (k : Int) * Mx) (by omega) (by omega) eJ.2 eJ.1, R_mono (by omega), ?_, ?_⟩
      · rw [hsm]; exact R_ge (by omega) eJ.2
      · rw [hsm]; exact R_le (by omega) eJ.1
theorem wgh_two {g : Nat → Int} {a b : Nat → Int} {m : Nat} (h1 : 1 ≤ m) (h2 : m ≤ 15) (hg : ∀ i, i < m → 1 ≤ g i ∧ g i ≤ 16384) (hf : ∀ i, i < m → fin (a i) ∧ fin (b i) ∧ rk (a i) ≤ rk (b i)) :
    fin (wgh g a m) ∧ fin (wgh g b m) ∧ rk (wgh g a m) ≤ rk (wgh g b m) := by
  obtain ⟨A, B, hA, hB, h3, h4, h5⟩ := acc_two m h1 h2 hg hf
  have hs := sm_bd (g := g) m h2 hg
  obtain ⟨k, hk, hk1⟩ := nat_of (show 1 ≤ sm g m by omega)
  rw [hk] at h4 h5
  obtain ⟨b0, hb0⟩ := Mx_even
  have c1 := sNc_mono h4 k
  have c2 := sNc_mono h3 k
  have c3 := sNc_mono h5 k
  rw [hb0, sNc_exact hk1, ← hb0] at c3
  rw [hb0, ← Int.mul_neg, ← Int.mul_neg, sNc_exact hk1, Int.mul_neg, ← hb0] at c1
  obtain ⟨e1, e2⟩ := exM 1 (by omega)
  rw [show ((1 : Nat) : Int) * Mx = Mx from Int.one_mul _] at e1 e2
  have qa := At.quo hA hk1 (by omega) (A := -Mx) (B := Mx) c1 (by omega) e2 e1
  have qb := At.quo hB hk1 (by omega) (A := -Mx) (B := Mx) (by omega) c3 e2 e1
  have m1 := R_mono c2
  have la := R_ge c1 e2
  have ub := R_le c3 e1
  have hMl : sv S (-2139095039) = -Mx := by rw [sv_sym]; rfl
  have hMu : sv S 2139095039 = Mx := rfl
  have ta := qa.told (a := -2139095039) (b := 2139095039) (by rw [hMl]; exact la) (by rw [hMu]; omega) (by omega) (by omega) (by omega) (by omega)
  have tb := qb.told (a := -2139095039) (b := 2139095039) (by rw [hMl]; omega) (by rw [hMu]; exact ub) (by omega) (by omega) (by omega) (by omega)
  have wa : wgh g a m = T (op .quo .f64 (acc g (fun i => V (a i)) m) (some (floatOfInt .f64 (k : Int)))) := by unfold wgh wq; rw [hk]
  have wb : wgh g b m = T (op .quo .f64 (acc g (fun i => V (b i)) m) (some (floatOfInt .f64 (k : Int)))) := by unfold wgh wq; rw [hk]
  rw [wa, wb]
  refine ⟨⟨ta.2.2.2.2.1, ta.2.2.2.2.2, by omega⟩, ⟨tb.2.2.2.2.1, tb.2.2.2.2.2, by omega⟩, ?_⟩
  rw [ta.2.1, tb.2.1]; exact SR_mono S m1
/-- The word of a rank. -/
def wd (r : Int) : Int := if r < 0 then 2147483648 - r else r
theorem wd_fin {r : Int} (h : r.natAbs < 2139095040) : fin (wd r) ∧ rk (wd r) = r := by
  unfold fin wd rk
  by_cases h0 : r < 0
  · rw [if_pos h0, if_neg (by omega)]; omega
  · rw [if_neg h0, if_pos (by omega)]; omega
theorem wgh_wd {g : Nat → Int} {r : Int} {m : Nat} (h : r.natAbs < 2139095040) (h1 : 1 ≤ m) (h2 : m ≤ 15) (hg : ∀ i, i < m → 1 ≤ g i ∧ g i ≤ 16384) : rk (wgh g (fun _ => wd r) m) = r := by
  obtain ⟨hf, hr⟩ := wd_fin h
  rw [wgh_md ⟨hf.1, hf.2.1⟩ h1 h2 hg]
  unfold md; rw [if_pos (by omega), hr]
def between (lo hi : Int) (c : Int) : Prop := fin c ∧ lo ≤ rk c ∧ rk c ≤ hi
theorem wgh_rise {g : Nat → Int} {a b : Nat → Int} {m : Nat} {lo hi : Int} (h1 : 1 ≤ m) (h2 : m ≤ 15) (hg : ∀ i, i < m → 1 ≤ g i ∧ g i ≤ 16384) (hlo : lo.natAbs < 2139095040) (hhi : hi.natAbs < 2139095040)
    (hf : ∀ i, i < m → fin (a i) ∧ fin (b i) ∧ lo ≤ rk (a i) ∧ rk (a i) ≤ rk (b i) ∧ rk (b i) ≤ hi) :
    fin (wgh g a m) ∧ fin (wgh g b m) ∧ lo ≤ rk (wgh g a m) ∧ rk (wgh g a m) ≤ rk (wgh g b m) ∧ rk (wgh g b m) ≤ hi := by
  obtain ⟨f1, f2, f3⟩ := wgh_two h1 h2 hg (fun i hi => ⟨(hf i hi).1, (hf i hi).2.1, (hf i hi).2.2.2.1⟩)
  obtain ⟨l1, l2⟩ := wd_fin hlo
  obtain ⟨u1, u2⟩ := wd_fin hhi
  have h3 := (wgh_two (a := fun _ => wd lo) (b := a) h1 h2 hg (fun i hi => ⟨l1, (hf i hi).1, by rw [l2]; exact (hf i hi).2.2.1⟩)).2.2
  have h4 := (wgh_two (a := b) (b := fun _ => wd hi) h1 h2 hg (fun i hi => ⟨(hf i hi).2.1, u1, by rw [u2]; exact (hf i hi).2.2.2.2⟩)).2.2
  rw [wgh_wd hlo h1 h2 hg] at h3
  rw [wgh_wd hhi h1 h2 hg] at h4
  exact ⟨f1, f2, h3, f3, h4⟩
/-- Two planes, one nowhere above the other one. -/
def below (xs ys : List Int) (W H : Nat) (lo hi : Int) : Prop := ∀ x y, x < W → y < H → fin (smp xs W x y) ∧ fin (smp ys W x y) ∧ lo ≤ rk (smp xs W x y) ∧ rk (smp xs W x y) ≤ rk (smp ys W x y) ∧ rk (smp ys W x y) ≤ hi
theorem blr_rise {kd : Int} {r : Nat} {xs ys : List Int} {W H : Nat} {k lo hi : Int} (hr : r ≤ 7) (hk : 1 ≤ k ∧ k ≤ 3) (hok : okP W H) (hlo : lo.natAbs < 2139095040) (hhi : hi.natAbs < 2139095040) (h : below xs ys W H lo hi) {x y : Nat} (hx : x < W) (hy : y < H) :
    fin (blr (gk kd r) r xs W H k x y) ∧ fin (blr (gk kd r) r ys W H k x y) ∧ lo ≤ rk (blr (gk kd r) r xs W H k x y) ∧ rk (blr (gk kd r) r xs W H k x y) ≤ rk (blr (gk kd r) r ys W H k x y) ∧ rk (blr (gk kd r) r ys W H k x y) ≤ hi := by
  have e1 : ∀ y', y' < H → fin (blx (gk kd r) r xs W k x y') ∧ fin (blx (gk kd r) r ys W k x y') ∧ lo ≤ rk (blx (gk kd r) r xs W k x y') ∧ rk (blx (gk kd r) r xs W k x y') ≤ rk (blx (gk kd r) r ys W k x y') ∧ rk (blx (gk kd r) r ys W k x y') ≤ hi := by
    intro y' hy'
    unfold blx
    exact wgh_rise (by omega) (by omega) (gk_bd hr) hlo hhi (fun i _ => h _ _ (bX hk hok) hy')
  unfold blr bly
  refine wgh_rise (by omega) (by omega) (gk_bd hr) hlo hhi (fun i _ => ?_)
  unfold ny
  rw [tab_get _ hx (bY hk hok), tab_get _ hx (bY hk hok)]
  exact e1 _ (bY hk hok)
/-! ### Values -/
def vb (c : Int) : Nat := (V c).getD 0
theorem vb_some {c : Int} (h : fin c) : V c = some (vb c) := by
  obtain ⟨w, r, e, _⟩ := V_at ⟨h.1, h.2.1⟩ h.2.2
  unfold vb; rw [e]; rfl
theorem vb_at {c : Int} (h : fin c) : At (some (vb c)) (sv S (rk c)) := by rw [← vb_some h]; exact V_at ⟨h.1, h.2.1⟩ h.2.2
theorem At_is {u : Nat} {X : Int} (h : At (some u) X) : Is .f64 u (some u) := by
  obtain ⟨w, r, e, hw, hr, _⟩ := h
  cases e
  obtain ⟨g, m, p, e2, _⟩ := hw.read fits_D hr
  refine ⟨rfl, ?_⟩
  unfold nanB
  have e' : FloatKind.f64.decode u = .number g m p := e2
  rw [e']; rfl
theorem vb_is {c : Int} (h : fin c) : Is .f64 (vb c) (some (vb c)) := At_is (vb_at h)
theorem ord_at {u v : Nat} {X Y : Int} (hx : At (some u) X) (hy : At (some v) Y) : FloatKind.f64.format.order u v = some (compare X Y) := by
  obtain ⟨w, r, e, hw, hr, hX⟩ := hx
  obtain ⟨w', r', e', hw', hr', hY⟩ := hy
  cases e; cases e'
  show double.order u v = _
  rw [order_num fits_D hw hw' hr hr', hX, hY]
theorem ord_ne {u v : Nat} {X Y : Int} (hx : At (some u) X) (hy : At (some v) Y) : FloatKind.f64.format.order u v ≠ none := by rw [ord_at hx hy]; simp
theorem min_at {u v : Nat} {X Y : Int} (hx : At (some u) X) (hy : At (some v) Y) : At (some (minB .f64 u v)) (min X Y) := by
  unfold minB
  rw [ord_at hx hy]
  rcases Int.lt_trichotomy X Y with h | h | h
  · rw [Int.compare_eq_lt.2 h, Int.min_eq_left (by omega)]; exact hx
  · subst h
    rw [Int.compare_eq_eq.2 rfl, Int.min_self]; dsimp only; split
    · exact hx
    · exact hy
  · rw [Int.compare_eq_gt.2 h, Int.min_eq_right (by omega)]; exact hy
theorem max_at {u v : Nat} {X Y : Int} (hx : At (some u) X) (hy : At (some v) Y) : At (some (maxB .f64 u v)) (max X Y) := by
  unfold maxB
  rw [ord_at hx hy]
  rcases Int.lt_trichotomy X Y with h | h | h
  · rw [Int.compare_eq_lt.2 h, Int.max_eq_right (by omega)]; exact hy
  · subst h
    rw [Int.compare_eq_eq.2 rfl, Int.max_self]; dsimp only; split
    · exact hy
    · exact hx
  · rw [Int.compare_eq_gt.2 h, Int.max_eq_left (by omega)]; exact hx
/-- The lower and the higher one. -/
def lw (x y : Int) : Int := if rk y < rk x then y else x
def hg (x y : Int) : Int := if rk y < rk x then x else y
theorem lw_fin {x y : Int} (hx : fin x) (hy : fin y) : fin (lw x y) ∧ fin (hg x y) ∧ rk (lw x y) ≤ rk (hg x y) := by
  unfold lw hg; split
  · exact ⟨hy, hx, by omega⟩
  · exact ⟨hx, hy, by omega⟩
theorem lss_is {x y : Int} (hx : fin x) (hy : fin y) : (ord .f64 (some (vb y)) (some (vb x)) == some .lt) = decide (rk y < rk x) := by
  have h : ord .f64 (some (vb y)) (some (vb x)) = some (compare (sv S (rk y)) (sv S (rk x))) := ord_at (vb_at hy) (vb_at hx)
  have h1 := hx.2.2; have h2 := hy.2.2
  rw [h, cmp_sv (by omega) (by omega) (by omega) (by omega)]
  rcases Int.lt_trichotomy (rk y) (rk x) with q | q | q
  · rw [Int.compare_eq_lt.2 q]; simp [q]
  · rw [Int.compare_eq_eq.2 q]; simp [q]
  · rw [Int.compare_eq_gt.2 q]; simp; omega
theorem leq_of {u v : Nat} {X Y : Int} (hx : At (some u) X) (hy : At (some v) Y) (h : X ≤ Y) : (ord .f64 (some u) (some v) == some .lt || ord .f64 (some u) (some v) == some .eq) = true := by
  have e : ord .f64 (some u) (some v) = some (compare X Y) := ord_at hx hy
  rw [e]
  rcases Int.lt_or_eq_of_le h with q | q
  · rw [Int.compare_eq_lt.2 q]; rfl
  · rw [Int.compare_eq_eq.2 q]; rfl
/-- The lower samples of two lists, the first i of them told. -/
def lwL (xs ys : List Int) (n i : Nat) : List Int := ws n (fun j => if j < i then lw (xs.getD j 0) (ys.getD j 0) else xs.getD j 0)
def hgL (xs ys : List Int) (n i : Nat) : List Int := ws n (fun j => if j < i then hg (xs.getD j 0) (ys.getD j 0) else xs.getD j 0)
theorem lw_zero {xs ys : List Int} {n : Nat} (h : xs.length = n) : lwL xs ys n 0 = xs ∧ hgL xs ys n 0 = xs := ⟨ws_ext h fun j _ => if_neg (Nat.not_lt_zero _), ws_ext h fun j _ => if_neg (Nat.not_lt_zero _)⟩
theorem lw_len (xs ys : List Int) (n i : Nat) : (lwL xs ys n i).length = n ∧ (hgL xs ys n i).length = n := ⟨ws_len _ _, ws_len _ _⟩
theorem lw_step {xs ys : List Int} {n i : Nat} (hi : i < n) (h : rk (ys.getD i 0) < rk (xs.getD i 0)) : (lwL xs ys n i).set i (ys.getD i 0) = lwL xs ys n (i + 1) ∧ hgL xs ys n i = hgL xs ys n (i + 1) := by
  constructor
  · apply ws_set hi
    · rw [if_pos (by omega)]; unfold lw; rw [if_pos h]
    · intro j _ hne
      by_cases c : j < i
      · rw [if_pos c, if_pos (by omega)]
      · rw [if_neg c, if_neg (by omega)]
  · apply ws_ext (ws_len _ _)
    intro j hj
    rw [ws_get hj]
    by_cases c : j < i
    · rw [if_pos c, if_pos (by omega)]
    · rw [if_neg c]
      by_cases e : j = i
      · subst e; rw [if_pos (by omega)]; unfold hg; rw [if_pos h]
      · rw [if_neg (by omega)]
theorem hg_step {xs ys : List Int} {n i : Nat} (hi : i < n) (h : ¬ rk (ys.getD i 0) < rk (xs.getD i 0)) : (hgL xs ys n i).set i (ys.getD i 0) = hgL xs ys n (i + 1) ∧ lwL xs ys n i = lwL xs ys n (i + 1) := by
  constructor
  · apply ws_set hi
    · rw [if_pos (by omega)]; unfold hg; rw [if_neg h]
    · intro j _ hne
      by_cases c : j < i
      · rw [if_pos c, if_pos (by omega)]
      · rw [if_neg c, if_neg (by omega)]
  · apply ws_ext (ws_len _ _)
    intro j hj
    rw [ws_get hj]
    by_cases c : j < i
    · rw [if_pos c, if_pos (by omega)]
    · rw [if_neg c]
      by_cases e : j = i
      · subst e; rw [if_pos (by omega)]; unfold lw; rw [if_neg h]
      · rw [if_neg (by omega)]
theorem lw_get {xs ys : List Int} {n i : Nat} (hi : i < n) (sp : List Value) : ((lwL xs ys n (i + 1)).map u32 ++ sp)[i]? = some (.int .u32 (lw (xs.getD i 0) (ys.getD i 0))) ∧ ((hgL xs ys n (i + 1)).map u32 ++ sp)[i]? = some (.int .u32 (hg (xs.getD i 0) (ys.getD i 0))) := by
  constructor
  · rw [List.getElem?_append_left (by rw [List.length_map, (lw_len _ _ _ _).1]; exact hi), cell_at (by rw [(lw_len _ _ _ _).1]; exact hi)]
    unfold lwL; rw [ws_get hi, if_pos (by omega)]
  · rw [List.getElem?_append_left (by rw [List.length_map, (lw_len _ _ _ _).2]; exact hi), cell_at (by rw [(lw_len _ _ _ _).2]; exact hi)]
    unfold hgL; rw [ws_get hi, if_pos (by omega)]
/-- The least and the greatest value, of the first i samples and the first one. -/
def lu (xs ys : List Int) : Nat → Nat
  | 0 => vb (xs.getD 0 0)
  | i + 1 => minB .f64 (lu xs ys i) (vb (lw (xs.getD i 0) (ys.getD i 0)))
def gu (xs ys : List Int) : Nat → Nat
  | 0 => vb (xs.getD 0 0)
  | i + 1 => maxB .f64 (gu xs ys i) (vb (hg (xs.getD i 0) (ys.getD i 0)))
def fins (xs ys : List Int) (i : Nat) : Prop := ∀ j, j < i → fin (xs.getD j 0) ∧ fin (ys.getD j 0)
theorem fins_step {xs ys : List Int} {i : Nat} (h : fins xs ys i) (hx : fin (xs.getD i 0)) (hy : fin (ys.getD i 0)) : fins xs ys (i + 1) := fun j hj => by
  by_cases e : j = i
  · subst e; exact ⟨hx, hy⟩
  · exact h j (by omega)
theorem lu_at {xs ys : List Int} (h0 : fin (xs.getD 0 0)) : ∀ i, fins xs ys i → ∃ m : Int, m.natAbs < 2139095040 ∧ At (some (lu xs ys i)) (sv S m) ∧ ∀ j, j < i → m ≤ rk (lw (xs.getD j 0) (ys.getD j 0))
  | 0, _ => ⟨_, h0.2.2, vb_at h0, fun j hj => absurd hj (by omega)⟩
  | i + 1, h => by
    obtain ⟨m, hm, ha, hl⟩ := lu_at h0 i (fun j hj => h j (by omega))
    obtain ⟨hx, hy⟩ := h i (by omega)
    obtain ⟨hf, _, _⟩ := lw_fin hx hy
    have h1 := min_at ha (vb_at hf)
    have hf2 := hf.2.2
    have e : min (sv S m) (sv S (rk (lw (xs.getD i 0) (ys.getD i 0)))) = sv S (min m (rk (lw (xs.getD i 0) (ys.getD i 0)))) := by
      rcases Int.le_total m (rk (lw (xs.getD i 0) (ys.getD i 0))) with q | q
      · rw [Int.min_eq_left q, Int.min_eq_left (sv_mono S q (by rw [sInf]; omega) (by rw [sInf]; omega))]
      · rw [Int.min_eq_right q, Int.min_eq_right (sv_mono S q (by rw [sInf]; omega) (by rw [sInf]; omega))]
    rw [e] at h1
    refine ⟨_, by omega, h1, fun j hj => ?_⟩
    by_cases c : j = i
    · subst c; omega
    · have := hl j (by omega); omega
theorem gu_at {xs ys : List Int} (h0 : fin (xs.getD 0 0)) : ∀ i, fins xs ys i → ∃ m : Int, m.natAbs < 2139095040 ∧ At (some (gu xs ys i)) (sv S m) ∧ ∀ j, j < i → rk (hg (xs.getD j 0) (ys.getD j 0)) ≤ m
  | 0, _ => ⟨_, h0.2.2, vb_at h0, fun j hj => absurd hj (by omega)⟩
  | i + 1, h => by
    obtain ⟨m, hm, ha, hl⟩ := gu_at h0 i (fun j hj => h j (by omega))
    obtain ⟨hx, hy⟩ := h i (by omega)
    obtain ⟨_, hf, _⟩ := lw_fin hx hy
    have h1 := max_at ha (vb_at hf)
    have hf2 := hf.2.2
    have e : max (sv S m) (sv S (rk (hg (xs.getD i 0) (ys.getD i 0)))) = sv S (max m (rk (hg (xs.getD i 0) (ys.getD i 0)))) := by
      rcases Int.le_total m (rk (hg (xs.getD i 0) (ys.getD i 0))) with q | q
      · rw [Int.max_eq_right q, Int.max_eq_right (sv_mono S q (by rw [sInf]; omega) (by rw [sInf]; omega))]
      · rw [Int.max_eq_left q, Int.max_eq_left (sv_mono S q (by rw [sInf]; omega) (by rw [sInf]; omega))]
    rw [e] at h1
    refine ⟨_, by omega, h1, fun j hj => ?_⟩
    by_cases c : j = i
    · subst c; omega
    · have := hl j (by omega); omega
theorem lu_is {xs ys : List Int} (h0 : fin (xs.getD 0 0)) {i : Nat} (h : fins xs ys i) : Is .f64 (lu xs ys i) (some (lu xs ys i)) := by obtain ⟨m, _, ha, _⟩ := lu_at h0 i h; exact At_is ha
theorem gu_is {xs ys : List Int} (h0 : fin (xs.getD 0 0)) {i : Nat} (h : fins xs ys i) : Is .f64 (gu xs ys i) (some (gu xs ys i)) := by obtain ⟨m, _, ha, _⟩ := gu_at h0 i h; exact At_is ha
theorem lu_ne {xs ys : List Int} (h0 : fin (xs.getD 0 0)) {i : Nat} (h : fins xs ys i) {c : Int} (hc : fin c) : FloatKind.f64.format.order (lu xs ys i) (vb c) ≠ none := by obtain ⟨m, _, ha, _⟩ := lu_at h0 i h; exact ord_ne ha (vb_at hc)
theorem gu_ne {xs ys : List Int} (h0 : fin (xs.getD 0 0)) {i : Nat} (h : fins xs ys i) {c : Int} (hc : fin c) : FloatKind.f64.format.order (gu xs ys i) (vb c) ≠ none := by obtain ⟨m, _, ha, _⟩ := gu_at h0 i h; exact ord_ne ha (vb_at hc)
theorem lwL_bd {xs ys : List Int} {n i : Nat} (hx : ∀ v ∈ xs, 0 ≤ v ∧ v < 4294967296) (hy : ∀ v ∈ ys, 0 ≤ v ∧ v < 4294967296) : (∀ v ∈ lwL xs ys n i, 0 ≤ v ∧ v < 4294967296) ∧ (∀ v ∈ hgL xs ys n i, 0 ≤ v ∧ v < 4294967296) := by
  constructor
  · intro v hv
    obtain ⟨j, _, rfl⟩ := List.mem_map.1 hv
    have h1 := get_bd hx j; have h2 := get_bd hy j
    unfold lw; split
    · split
      · exact h2
      · exact h1
    · exact h1
  · intro v hv
    obtain ⟨j, _, rfl⟩ := List.mem_map.1 hv
    have h1 := get_bd hx j; have h2 := get_bd hy j
    unfold hg; split
    · split
      · exact h1
      · exact h2
    · exact h1
/-- The whole: every sample of both blurs. -/
theorem rises {kd : Int} {r : Nat} {xs ys : List Int} {W H n : Nat} {k : Int} (hr : r ≤ 7) (hk : 1 ≤ k ∧ k ≤ 3) (hok : okP W H) (hn : n = W * H) (h0 : fin (xs.getD 0 0)) (h : fins xs ys n) {i : Nat} (hi : i < n) :
    fin (blr (gk kd r) r (lwL xs ys n n) W H k (i % W) (i / W)) ∧ fin (blr (gk kd r) r (hgL xs ys n n) W H k (i % W) (i / W)) ∧
    (ord .f64 (some (lu xs ys n)) (some (vb (blr (gk kd r) r (lwL xs ys n n) W H k (i % W) (i / W)))) == some .lt || ord .f64 (some (lu xs ys n)) (some (vb (blr (gk kd r) r (lwL xs ys n n) W H k (i % W) (i / W)))) == some .eq) = true ∧
    (ord .f64 (some (vb (blr (gk kd r) r (lwL xs ys n n) W H k (i % W) (i / W)))) (some (vb (blr (gk kd r) r (hgL xs ys n n) W H k (i % W) (i / W)))) == some .lt || ord .f64 (some (vb (blr (gk kd r) r (lwL xs ys n n) W H k (i % W) (i / W)))) (some (vb (blr (gk kd r) r (hgL xs ys n n) W H k (i % W) (i / W)))) == some .eq) = true ∧
    (ord .f64 (some (vb (blr (gk kd r) r (hgL xs ys n n) W H k (i % W) (i / W)))) (some (gu xs ys n)) == some .lt || ord .f64 (some (vb (blr (gk kd r) r (hgL xs ys n n) W H k (i % W) (i / W)))) (some (gu xs ys n)) == some .eq) = true := by
  obtain ⟨lo, l1, l2, l3⟩ := lu_at h0 n h
  obtain ⟨hi', u1, u2, u3⟩ := gu_at h0 n h
  have hW : 0 < W := hok.1
  have hb : below (lwL xs ys n n) (hgL xs ys n n) W H lo hi' := by
    intro x y hx hy
    have hp : W * y + x < n := by rw [hn]; exact place_lt hx hy
    have e1 : smp (lwL xs ys n n) W x y = lw (xs.getD (W * y + x) 0) (ys.getD (W * y + x) 0) := by unfold smp lwL; rw [ws_get hp, if_pos hp]
    have e2 : smp (hgL xs ys n n) W x y = hg (xs.getD (W * y + x) 0) (ys.getD (W * y + x) 0) := by unfold smp hgL; rw [ws_get hp, if_pos hp]
    obtain ⟨fx, fy⟩ := h _ hp
    obtain ⟨f1, f2, f3⟩ := lw_fin fx fy
    rw [e1, e2]
    exact ⟨f1, f2, l3 _ hp, f3, u3 _ hp⟩
  obtain ⟨f1, f2, f3, f4, f5⟩ := blr_rise (kd := kd) hr hk hok l1 u1 hb (Nat.mod_lt i hW) (Nat.div_lt_of_lt_mul (by rw [← hn]; exact hi))
  have g1 := f1.2.2; have g2 := f2.2.2
  refine ⟨f1, f2, leq_of l2 (vb_at f1) ?_, leq_of (vb_at f1) (vb_at f2) ?_, leq_of (vb_at f2) u2 ?_⟩
  · exact sv_mono S f3 (by rw [sInf]; omega) (by rw [sInf]; omega)
  · exact sv_mono S f4 (by rw [sInf]; omega) (by rw [sInf]; omega)
  · exact sv_mono S f5 (by rw [sInf]; omega) (by rw [sInf]; omega)
theorem tab_cell {W n i : Nat} {g : Nat → Nat → Int} (hi : i < n) : ((tab W g n).map u32)[i]? = some (.int .u32 (g (i % W) (i / W))) := by simp [tab, hi, u32]
end Be
